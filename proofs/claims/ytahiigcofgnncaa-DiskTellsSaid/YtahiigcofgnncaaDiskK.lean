import Derived.Test.YtahiigcofgnncaaDiskI
import Derived.Deep.RegionWith
import Derived.StillTailTactics
/-! Layer 6: what is done to a file: Sync's and Cut's closures, walked. -/
namespace Go.Proofs.Ytahiigcofgnncaa.H
open Go.RowKit Moor Go.Proofs.YtahiigcofgnncaaW.PrintWords Go.Proofs.YtahiigcofgnncaaW.PrintLast Go.Proofs.YtahiigcofgnncaaW.PrintMore
set_option linter.unusedVariables false
set_option linter.unusedSimpArgs false

theorem own_get_at {l : List Fl} {xs : List FX} {i : Nat} {x : FX} (h : xs.map flX = l) (hx : xs[i]? = some x) : l[i]? = some (flX x) := by rw [← h, List.getElem?_map, hx]; rfl
theorem own_len {l : List Fl} {xs : List FX} (h : xs.map flX = l) : xs.length = l.length := by rw [← h, List.length_map]
abbrev fl0 : Fl := ⟨0, [], 0⟩
def syncF (l : List Fl) (i : Nat) : List Fl × Int := (l.set i ⟨(l.getD i fl0).no, (l.getD i fl0).data, ((l.getD i fl0).data.length : Int)⟩, 0)
theorem ht5 : ∀ q, q ∈ (5 : TypeId) :: kB.E → q ≠ 32 := by intro q hq; simp [Kd.int, Kd.scalar] at hq; subst hq; decide
set_option maxRecDepth 100000 in
set_option maxHeartbeats 16000000 in
theorem sync1_do (cap : Int) (l : List Fl) (wq : World) (i : Nat) (hi : i < l.length) : DoOk 41 #[] cap l i (syncF l i) wq := by
  intro W B base A1 c1 xs hqW hqb hbB bO hO hx
  have hli : (i : Int) < (l.length : Int) := by omega
  obtain ⟨g, rfl, hg1, hg2⟩ := hO.form (by omega)
  obtain ⟨x, hxi, r0, r1, r2, hgd, hfz⟩ := hO.get i hi
  have hl1 := own_get_at hx hxi
  obtain ⟨no, xA, xc, data, sure⟩ := x
  have hgD : l.getD i fl0 = ⟨no, data, sure⟩ := by rw [List.getD_eq_getElem?_getD, hl1]; rfl
  have hmx : (syncF l i).1 = (xs.set i ⟨no, xA, xc, data, (data.length : Int)⟩).map flX := by
    show l.set i _ = _
    rw [hgD, List.map_set, hx]
  have hml : (syncF l i).1.length = l.length := by rw [hmx, List.length_map, List.length_set]; exact own_len hx
  have hgv : Kd.R kB 5 W base (fun _ => True) (.slice xA data.length xc) data := hgd
  have r1' : W.cell? ⟨g, i * 3 + 1, none⟩ = some (.slice xA data.length xc) := r1
  have d1 := bO.c 1 rfl
  have hf2 := hfz (i * 3 + 2)
  obtain ⟨gcells, hgb⟩ := own_typed hO.2.1 g rfl
  have hBg : B ≠ g := fun e => by
    have h9 : W.heap[B]? = _ := bO
    rw [e, hgb] at h9
    injection h9 with h9
    injection h9 with _ h9
    cases h9
  have hrow := row_put2 hO.2.1 hxi (data.length : Int)
  have hput := hO.put (W' := W.setCell ⟨g, i * 3 + 2, none⟩ (.int .i64 (data.length : Int))) hxi hrow (fun q h1 h2 h3 h4 => Below.heap_setCell _ _ _ q h3) (Kd.R_set hgv hgb ht5 _ _) (fun q hq => .inl hq)
  have hBl : Below base W (W.setCell ⟨g, i * 3 + 2, none⟩ (.int .i64 (data.length : Int))) := (Below.refl _ _).setCell (p := ⟨g, i * 3 + 2, none⟩) hg1 _
  have hBo : BoxC (W.setCell ⟨g, i * 3 + 2, none⟩ (.int .i64 (data.length : Int))) B (cellsD cap (some ⟨g, 0, none⟩) l.length c1) 24 := bO.other _ _ hBg
  have HPUT := Lib.hid (And.intro hput.reads hput.from_)
  have HBO := Lib.hid hBo
  have HML := Lib.hid hml
  have HMX := Lib.hid hmx
  have hl2 : data.length ≤ 9223372036854775807 := Kd.C_max (Kd.R_reads' hgv).2.2
  clear hput hBo hml hmx hrow hgb hgD hl1 hgv r1 hO bO hgd hx hxi
  go_enter Try.func41, Try.ntmps41
  go_wp2_with (fail)
  go_still_tail 14, (by kernel_rfl)
  all_goals change wpList _ _ _ _ _ W.drew
  go_wp2_with (fail)
  go_ret
  refine ⟨rfl, below_drew hBl, ?_⟩
  try intro _
  exact ⟨some ⟨g, 0, none⟩, c1, by rw [HML.out]; exact HBO.out, by rw [HML.out]; exact HPUT.out.1.1, by rw [HMX.out]; exact HPUT.out.2⟩

/-- Files that are read, of their cells and of what these lead to. -/
theorem rowC {W : World} {base g n c : Nat} {ys : List FX} (hrow : W.ownsRow base 32 3 (.slice (some ⟨g, 0, none⟩) n c) n (flat ys)) (hlen : ys.length = n) (hr : ∀ (i : Nat) (y : FX), ys[i]? = some y → y.data.length ≤ y.c ∧ Kd.C kB W y.A y.data.length y.data) : Kd.C kF W (some ⟨g, 0, none⟩) (ys.map flX).length (ys.map flX) := by
  refine ⟨rfl, ?_, fun hp => ⟨_, rfl, fun j p hj => ?_⟩⟩
  · rcases hrow.2 with ⟨h', _⟩ | ⟨g', cap', cur, he, _, _, hnc, hcm, _⟩
    · simp at h'
    · rw [List.length_map, hlen]; unfold maxLen at hcm; omega
  · have hjn : j < n := by have := (List.getElem?_eq_some_iff.1 hj).1; rw [List.length_map, hlen] at this; exact this
    have hjl : j < ys.length := by omega
    have hy := List.getElem?_eq_getElem hjl
    rw [List.getElem?_map, hy] at hj
    cases hj
    obtain ⟨q2, q3⟩ := hr j _ hy
    refine ⟨cellsX ys[j], rfl, kF_mk W (flX ys[j]) q2 q3, fun i u hu => ?_⟩
    have hs : kF.sz = 3 := rfl
    have hi : i < 3 := by have := (List.getElem?_eq_some_iff.1 hu).1; simpa using this
    rw [hs, add_plain, Nat.zero_add, hrow.cellAt (j * 3 + i) (by omega), flat_get _ _ _ hi, hy]
    exact hu
def cutF (l : List Fl) (n : Int) (i : Nat) : List Fl × Int := if n < 0 ∨ n > ((l.getD i fl0).data.length : Int) then (l, 1) else (l.set i ⟨(l.getD i fl0).no, (l.getD i fl0).data.take n.toNat, n⟩, 0)
theorem sliceHM (a : Option Addr) (L c j : Nat) (hj : j ≤ c) (W : World) :
    (Instr.slice 30 (.slice a L c) none (some (.int .i64 (j : Int))) (some (.int .i64 (j : Int)))).run Try.prog W = .ok (.slice a j j) W := by
  obtain ⟨i0, hi, hz0, hz1, hz2⟩ := info_parts infoU8
  have ht : Try.prog.underlying 30 = some (.slice 5) := Try.underlying30
  have hel : Try.prog.elem 30 = 5 := by simp [Program.elem, ht]
  have hu : Try.prog.underlying 30 = some (.slice (Try.prog.elem 30)) := by rw [hel]; exact ht
  rw [run_slice_hm W 30 a L c hu .i64 .i64 (j : Int) (j : Int) (by omega) (by omega) (by omega), hel]
  cases a <;> simp [sizeOf, typeInfo, hi, hz1, sliced, Result.andThen, add_zeroR]
set_option maxRecDepth 100000 in
set_option maxHeartbeats 16000000 in
theorem cut1_do (cap : Int) (l : List Fl) (n : Int) (b5 : Nat) (wq : World) (i : Nat) (hi : i < l.length) (hbx : BoxC wq b5 #[.int .i64 n] 3) : DoOk 42 #[.pointer (some ⟨b5, 0, none⟩)] cap l i (cutF l n i) wq := by
  intro W B base A1 c1 xs hqW hqb hbB bO hO hx
  have hli : (i : Int) < (l.length : Int) := by omega
  obtain ⟨g, rfl, hg1, hg2⟩ := hO.form (by omega)
  obtain ⟨x, hxi, r0, r1, r2, hgd, hfz⟩ := hO.get i hi
  have hl1 := own_get_at hx hxi
  obtain ⟨no, xA, xc, data, sure⟩ := x
  have hgD : l.getD i fl0 = ⟨no, data, sure⟩ := by rw [List.getD_eq_getElem?_getD, hl1]; rfl
  have hgv : Kd.R kB 5 W base (fun _ => True) (.slice xA data.length xc) data := hgd
  have r1' : W.cell? ⟨g, i * 3 + 1, none⟩ = some (.slice xA data.length xc) := r1
  have d1 := bO.c 1 rfl
  have b0 := (hbx.below hqW).c 0 rfl
  have hxc := (Kd.R_reads' hgv).2.1
  by_cases hn0 : n < 0
  · have hres : cutF l n i = (l, 1) := by unfold cutF; rw [if_pos (Or.inl hn0)]
    rw [hres]
    have hn0d : decide (n < (0 : Int)) = true := decide_eq_true hn0
    clear hO bO hgv hgd
    go_enter Try.func42, Try.ntmps42
    go_wp2_with (fail)
    go_quiet (fail)
    all_goals
      go_wp2_with (fail)
      go_ret
      exact ⟨rfl, pw_below_drewN (Below.refl _ _) _, (fun h => by cases h)⟩
  · have hn0d : decide (n < (0 : Int)) = false := decide_eq_false hn0
    by_cases hn1 : n > (data.length : Int)
    · have hres : cutF l n i = (l, 1) := by unfold cutF; rw [if_pos (Or.inr (by rw [hgD]; exact hn1))]
      rw [hres]
      have hn1' : (data.length : Int) < n := hn1
      clear hO bO hgv hgd
      go_enter Try.func42, Try.ntmps42
      go_wp2_with (fail)
      go_quiet (fail)
      all_goals
        go_wp2_with (fail)
        go_ret
        exact ⟨rfl, pw_below_drewN (Below.refl _ _) _, (fun h => by cases h)⟩
    · obtain ⟨k, rfl⟩ := Int.eq_ofNat_of_zero_le (show 0 ≤ n by omega)
      have hkd : k ≤ data.length := by omega
      have hres : cutF l (k : Int) i = (l.set i ⟨no, data.take k, (k : Int)⟩, 0) := by unfold cutF; rw [if_neg (by rw [hgD]; show ¬ ((k : Int) < 0 ∨ (k : Int) > (data.length : Int)); omega), hgD]; rfl
      rw [hres]
      have hmx : l.set i ⟨no, data.take k, (k : Int)⟩ = (xs.set i ⟨no, xA, k, data.take k, (k : Int)⟩).map flX := by rw [List.map_set, hx]
      have hml : (l.set i ⟨no, data.take k, (k : Int)⟩).length = l.length := List.length_set
      have htl : (data.take k).length = k := by rw [List.length_take]; omega
      obtain ⟨gcells, hgb⟩ := own_typed hO.2.1 g rfl
      have hBg : B ≠ g := fun e => by
        have h9 : W.heap[B]? = _ := bO
        rw [e, hgb] at h9
        injection h9 with h9
        injection h9 with _ h9
        cases h9
      have hrow := row_put hO.2.1 hxi xA k (data.take k) (k : Int)
      rw [htl] at hrow
      have hF : CFrom base ((W.setCell ⟨g, i * 3 + 1, none⟩ (.slice xA k k)).setCell ⟨g, i * 3 + 2, none⟩ (.int .i64 (k : Int))) (some ⟨g, 0, none⟩) (l.set i ⟨no, data.take k, (k : Int)⟩) := by
        intro W' hW'
        rw [hmx]
        have hxl := own_len hx
        refine rowC (own_move hrow (fun j hj => hW' j (own_base hrow j hj) (own_lt hrow j hj))) (by rw [List.length_set]; exact hxl) (fun j y hy => ?_)
        rw [List.getElem?_set] at hy
        have hmv : ∀ z : FX, GoodX W base z → Kd.C kB W' z.A z.data.length z.data ∧ z.data.length ≤ z.c := fun z hz => by
          have h1 := Kd.R_set (Kd.R_set hz hgb ht5 (i * 3 + 1) (.slice xA k k)) (blk_set hgb _ _) ht5 (i * 3 + 2) (.int .i64 (k : Int))
          have h2 := Kd.R_move (Kd.R_bound h1) (fun q hq => hW' q hq.2.1 hq.2.2.1)
          have h3 := Kd.R_reads' h2
          exact ⟨h3.2.2, h3.2.1⟩
        by_cases hij : i = j
        · rw [if_pos hij, if_pos (by rw [hxl]; exact hi)] at hy
          cases hy
          have h1 := (hmv _ hgd).1
          have h2 := (takeB xA xc data (k : Int) (by omega) (by omega) hxc).2.1 W' h1
          rw [Int.toNat_natCast] at h2
          exact ⟨by show (data.take k).length ≤ k; omega, h2⟩
        · rw [if_neg hij] at hy
          have h1 := hmv y (hO.2.2.1 j y hy)
          exact ⟨h1.2, h1.1⟩
      have hf1 := hfz (i * 3 + 1)
      have hf2 := hfz (i * 3 + 2)
      have z3 := sliceHM xA data.length xc k (by omega)
      have hBl : Below base W ((W.setCell ⟨g, i * 3 + 1, none⟩ (.slice xA k k)).setCell ⟨g, i * 3 + 2, none⟩ (.int .i64 (k : Int))) := ((Below.refl _ _).setCell (p := ⟨g, i * 3 + 1, none⟩) hg1 _).setCell (p := ⟨g, i * 3 + 2, none⟩) hg1 _
      have hBo : BoxC ((W.setCell ⟨g, i * 3 + 1, none⟩ (.slice xA k k)).setCell ⟨g, i * 3 + 2, none⟩ (.int .i64 (k : Int))) B (cellsD cap (some ⟨g, 0, none⟩) l.length c1) 24 := (bO.other _ _ hBg).other _ _ hBg
      have hlc := hO.reads.1
      have HF := Lib.hid hF
      have HBO := Lib.hid hBo
      have HML := Lib.hid hml
      have hkdi : (k : Int) ≤ (data.length : Int) := by omega
      have hkn : ¬ (data.length : Int) < (k : Int) := by omega
      clear hF hBo hml hmx hrow hgb hgD hl1 hgv r1 hO bO hgd hx hxi htl hres
      go_enter Try.func42, Try.ntmps42
      go_wp2_with (fail)
      go_quiet (fail)
      all_goals
        have y1 : (W.drewN nq).cell? ⟨g, i * 3 + 1, none⟩ = some (.slice xA data.length xc) := r1'
        have y2 : (W.drewN nq).cell? ⟨g, i * 3 + 2, none⟩ = some (.int .i64 sure) := r2
        have y3 : (W.drewN nq).cell? ⟨b5, 0, none⟩ = some (.int .i64 (k : Int)) := b0
        have y4 : (W.drewN nq).frozen? ⟨g, i * 3 + 1, none⟩ = false := hf1
        have y5 : (W.drewN nq).frozen? ⟨g, i * 3 + 2, none⟩ = false := hf2
        have HF2 : Hid (CFrom base (((W.drewN nq).setCell ⟨g, i * 3 + 1, none⟩ (.slice xA k k)).setCell ⟨g, i * 3 + 2, none⟩ (.int .i64 (k : Int))) (some ⟨g, 0, none⟩) (l.set i ⟨no, data.take k, (k : Int)⟩)) := Lib.hid HF.out
        have HBO2 : Hid (BoxC (((W.drewN nq).setCell ⟨g, i * 3 + 1, none⟩ (.slice xA k k)).setCell ⟨g, i * 3 + 2, none⟩ (.int .i64 (k : Int))) B (cellsD cap (some ⟨g, 0, none⟩) l.length c1) 24) := Lib.hid HBO.out
        have hBl2 : Below base W (((W.drewN nq).setCell ⟨g, i * 3 + 1, none⟩ (.slice xA k k)).setCell ⟨g, i * 3 + 2, none⟩ (.int .i64 (k : Int))) := ((pw_below_drewN (Below.refl base W) nq).setCell (p := ⟨g, i * 3 + 1, none⟩) hg1 _).setCell (p := ⟨g, i * 3 + 2, none⟩) hg1 _
        clear hBl HF HBO r1' r2 b0 hf1 hf2 r0 d1 hfz
        generalize W.drewN nq = W2 at *
        go_wp2_with (fail)
        go_region_with (fail)
        all_goals
          go_wp2_with (fail)
          go_ret
          refine ⟨rfl, below_drew hBl2, ?_⟩
          try intro _
          exact ⟨some ⟨g, 0, none⟩, c1, by rw [HML.out]; exact HBO2.out, by rw [HML.out]; exact hlc, HF2.out⟩
end Go.Proofs.Ytahiigcofgnncaa.H
