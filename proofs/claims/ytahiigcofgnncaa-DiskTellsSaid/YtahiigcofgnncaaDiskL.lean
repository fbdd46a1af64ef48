import Derived.Test.YtahiigcofgnncaaDiskI
import Derived.Lib.SliceRun
import Derived.Deep.RegionLaw
import Derived.Deep.RegionWith
/-! Layer 6: what is done to a file: Drop's closure, walked. -/
namespace Go.Proofs.Ytahiigcofgnncaa.H
open Go.RowKit Moor Go.Proofs.YtahiigcofgnncaaW.PrintWords Go.Proofs.YtahiigcofgnncaaW.PrintLast Go.Proofs.YtahiigcofgnncaaW.PrintMore
set_option linter.unusedVariables false
set_option linter.unusedSimpArgs false

theorem eraseIdx_len {α : Type} (l : List α) (k : Nat) (h : k < l.length) : (l.eraseIdx k).length = l.length - 1 := List.length_eraseIdx_of_lt h
theorem flat_part (xs : List FX) (j : Nat) (x : FX) (hx : xs[j]? = some x) : ((flat xs).drop (j * 3)).take 3 = cellsX x := by
  apply List.ext_getElem?
  intro q
  rw [List.getElem?_take]
  by_cases hq : q < 3
  · rw [if_pos hq, List.getElem?_drop, flat_get _ _ _ hq, hx]
    rfl
  · rw [if_neg hq, List.getElem?_eq_none (by simp; omega)]
theorem OwnF.R {W : World} {base n : Nat} {v : Value} {xs : List FX} (h : OwnF W base v n xs) : Kd.R kF 32 W base (fun _ => True) v (xs.map flX) := by
  refine ⟨fun _ _ => trivial, flat xs, by rw [List.length_map, h.1]; exact h.2.1, by rw [flat_len, List.length_map]; rfl, fun j p hj => ?_⟩
  rw [List.getElem?_map] at hj
  cases hx : xs[j]? with
  | none => rw [hx] at hj; cases hj
  | some x =>
    rw [hx] at hj
    cases hj
    have hs : kF.sz = 3 := rfl
    rw [hs, flat_part xs j x hx]
    have hg := h.2.2.1 j x hx
    refine kF_mkM W base _ (flX x) (Kd.R_mono (Kd.R_bound hg) (fun k hk => ⟨trivial, fun e => ?_⟩))
    obtain ⟨_, _, _, t, ht, cs, hc⟩ := hk
    obtain ⟨cells, hc2⟩ := own_typed h.2.1 k e.symm
    rw [hc] at hc2
    injection hc2 with hc2
    injection hc2 with _ hc2
    simp [Kd.int, Kd.scalar] at ht
    subst ht
    cases hc2
theorem R_behind {w : World} {g n cap base o : Nat} {ok : Nat → Prop} {xs : List Fl} {vs : List Value} (h : Kd.R kF 32 w base ok (.slice (some ⟨g, 0, none⟩) n cap) xs) (ho : xs.length * 3 ≤ o) (hl : o + vs.length ≤ cap * 3) : Kd.R kF 32 (w.setCells g o vs) base ok (.slice (some ⟨g, 0, none⟩) n cap) xs := by
  obtain ⟨h0, inner, hown, hr⟩ := h
  refine ⟨h0, inner, ⟨hown.1, .inr ?_⟩, hr.imp_ (fun q c hp => kF.M_mono (fun k hk => hk.1) (kF.M_move (fun k hk => setCells_far vs o k (by
    intro e
    exact hk.1.2 (by rw [e]; rfl))) (kF.M_bound hp)))⟩
  rcases hown.2 with ⟨hv, _⟩ | ⟨g', cap', cur, hv, hb, hh, hnc, hcm, hcs, htake⟩
  · cases hv
  · injection hv with e1 e2 e3
    injection e1 with e1
    injection e1 with e1
    subst e1 e2 e3
    have hcs3 : cur.size = cap * 3 := hcs
    obtain ⟨cur', q1, q2, q3⟩ := setCells_row vs o w cur hh (by omega)
    refine ⟨g, cap, cur', rfl, hb, q1, hnc, hcm, by rw [q2]; exact hcs, ?_⟩
    have hs : kF.sz = 3 := rfl
    rw [hs] at htake ⊢
    have ho2 : o ≤ cur.size := by omega
    rw [q3, List.append_assoc, List.take_append_of_le_length (by rw [List.length_take, Array.length_toList]; exact Nat.le_min.2 ⟨ho, Nat.le_trans ho ho2⟩), List.take_take, Nat.min_eq_left ho]
    exact htake
theorem kF_E : ∀ q, q ∈ 32 :: kF.E → q ≠ 24 := by
  intro q hq
  simp [kF, Kd.iso, B.k32, Kd.pair, Kd.slice, Kd.int, Kd.scalar] at hq
  rcases hq with rfl | rfl <;> decide
theorem R_from {W : World} {base n c : Nat} {A : Option Addr} {l : List Fl} (h : Kd.R kF 32 W base (fun _ => True) (.slice A n c) l) : CFrom base W A l := fun W' hW => (Kd.R_reads' (Kd.R_move (Kd.R_bound h) (fun q hq => hW q hq.2.1 hq.2.2.1))).2.2
theorem own_cells {w : World} {base g n cap : Nat} {ok : Nat → Prop} {xs : List Fl} (h : Kd.R kF 32 w base ok (.slice (some ⟨g, 0, none⟩) n cap) xs) (q : Nat) (hq : q < cap * 3) : (w.cell? ⟨g, q, none⟩).isSome = true ∧ w.frozen? ⟨g, q, none⟩ = false := by
  obtain ⟨_, inner, hown, _⟩ := h
  rcases hown.2 with ⟨hv, _⟩ | ⟨g', cap', cur, hv, hb, hh, _, hcm, hcs, htake⟩
  · cases hv
  · cases hv
    have hsz : cur.size = cap * 3 := hcs
    refine ⟨?_, by simp [World.frozen?, hh]⟩
    rw [cell_of_row w g q cur _ (0, 0) hh]
    rw [Array.getElem?_eq_getElem (by omega)]
    rfl
theorem run_clear_file (w : World) (ty : TypeId) (b o c : Nat) (hc : ∀ j, j < 3 → (w.cell? ⟨b, o + j, none⟩).isSome = true) (hf : ∀ j, j < 3 → w.frozen? ⟨b, o + j, none⟩ = false) :
    (Builtin.clear_ #[22] ty #[.slice (some ⟨b, o, none⟩) 1 c]).run Try.prog w = .ok (.tuple #[]) (w.setCells b o [.int .i64 0, .slice none 0 0, .int .i64 0]) := by
  have hzc : (Builtin.zeroCells #[.int .i64 0, .slice none 0 0, .int .i64 0] 1).toList = [Value.int .i64 0, .slice none 0 0, .int .i64 0] := by simp [Builtin.zeroCells, Array.ofFn, List.range, List.range.loop]
  have hst := run_storeCells_cells (P := Try.prog) b o [.int .i64 0, .slice none 0 0, .int .i64 0] 0 w (by simpa using hc) (by simpa using hf) (by intro v hv; simp at hv; rcases hv with rfl | rfl | rfl <;> rfl)
  simp only [Nat.add_zero] at hst
  simp [Builtin.clear_, run_underlying Try.underlying22, Try.zeroValue32, Value.cells, hzc, hst]
theorem grown_setCell (w : World) (p : Addr) (v : Value) : w.grownBy (w.setCell p v) (some p.block) :=
  ⟨rfl, rfl, rfl, (KeepsWalks.setCell w _ v).size, fun k _ hk => Below.heap_setCell _ _ _ k (fun e => hk (by rw [e]))⟩
theorem grown_setCells3 (w : World) (b o : Nat) (x y z : Value) : w.grownBy (w.setCells b o [x, y, z]) (some b) :=
  World.grownBy.trans (grown_setCell w ⟨b, o, none⟩ x) (World.grownBy.trans (grown_setCell _ ⟨b, o + 1, none⟩ y) (grown_setCell _ ⟨b, o + 1 + 1, none⟩ z))

set_option maxRecDepth 100000 in
set_option maxHeartbeats 4000000 in
theorem delete_calls (g cap base : Nat) (l : List Fl) (k : Nat) (w : World) (hR : Kd.R kF 32 w base (fun _ => True) (.slice (some ⟨g, 0, none⟩) l.length cap) l) (hk : k < l.length) (hl : l.length ≤ 1000) (hb : base ≤ w.heap.size) :
    Calls Try.prog 45 #[.slice (some ⟨g, 0, none⟩) l.length cap, .int .i64 (k : Int), .int .i64 ((k : Int) + 1)] w fun e w' => e = .returned (.slice (some ⟨g, 0, none⟩) (l.eraseIdx k).length cap) ∧ (l.eraseIdx k).length ≤ cap ∧ Kd.R kF 32 w' base (fun _ => True) (.slice (some ⟨g, 0, none⟩) (l.eraseIdx k).length cap) (l.eraseIdx k) ∧ w.grownBy w' (some g) := by
  obtain ⟨_, hcap, _⟩ := Kd.R_reads' hR
  have hki : (k : Int) < (l.length : Int) := by omega
  have hki1 : (k : Int) + 1 ≤ (l.length : Int) := by omega
  have hcapi : (l.length : Int) ≤ (cap : Int) := by omega
  have HR := Lib.hid hR
  clear hR
  have hel : Try.prog.elem 22 = 32 := by simp [Program.elem, Try.underlying22]
  have hu : Try.prog.underlying 22 = some (.slice (Try.prog.elem 22)) := by rw [hel]; exact Try.underlying22
  obtain ⟨i0, hi, hz0, hz1, hz2⟩ := info_parts infoF
  obtain ⟨AA, hAA⟩ : ∃ AA : Option Addr, AA = if cap = k + 1 then some ⟨g, 0, none⟩ else (some (⟨g, 0, none⟩ : Addr)).map (·.add ((k + 1) * 3)) := ⟨_, rfl⟩
  have hs1 : ∀ W : World, (Instr.slice 22 (.slice (some ⟨g, 0, none⟩) l.length cap) none (some (.int .i64 (k : Int))) none).run Try.prog W = .ok (.slice (some ⟨g, 0, none⟩) k cap) W := fun W => by
    rw [run_slice_h W 22 (some ⟨g, 0, none⟩) l.length cap hu .i64 (k : Int) (by omega) (by omega), hel]
    simp [sizeOf, typeInfo, hi, hz1, sliced, Result.andThen, Addr.add]
  have hs2 : ∀ W : World, (Instr.slice 22 (.slice (some ⟨g, 0, none⟩) l.length cap) (some (.int .i64 ((k : Int) + 1))) none none).run Try.prog W = .ok (.slice AA (l.length - (k + 1)) (cap - (k + 1))) W := fun W => by
    rw [run_slice_l W 22 (some ⟨g, 0, none⟩) l.length cap hu .i64 ((k : Int) + 1) (by omega) (by omega), hel, hAA]
    have e1 : ((k : Int) + 1).toNat = k + 1 := by omega
    simp [sizeOf, typeInfo, hi, hz1, sliced, Result.andThen, e1]
  have HAA := Lib.hid hAA
  have hle := eraseIdx_len l k hk
  have HLE := Lib.hid hle
  have HU := Lib.hid hu
  have HEL := Lib.hid hel
  have HI := Lib.hid hi
  have HZ1 := Lib.hid hz1
  clear hAA hle hu hel hi hz0 hz1 hz2
  go_enter Try.func45, Try.ntmps45
  go_wp2_with (fail)
  go_region_law ((refine Kd.R_delete_step kF (w0 := w) base (by rfl) _ _ 22 32 (by rfl) Try.underlying22 (by kernel_rfl) (g := g) (n := l.length) (c := cap) (k := k) (m := l.length - (k + 1)) (c2 := cap - (k + 1)) (A := AA) (xs := l) (ok := fun _ => True) (by rfl) (by rfl) HAA.out rfl (Kd.R_drew HR.out) hk (by exact below_drew ((Below.refl _ w).mono hb)) hb ?_; intro w1 hR1 hB1 hG1))
  all_goals
    obtain ⟨hq0, hcap2, hC1⟩ := Kd.R_reads' hR1
    clear hq0
    have hlen := HLE.out
    have hpos : 0 < l.length := by omega
    have hs3 : ∀ W : World, (Instr.slice 22 (.slice (some ⟨g, 0, none⟩) (l.length - 1) cap) (some (.int .i64 ((l.length - 1 : Nat) : Int))) (some (.int .i64 (l.length : Int))) none).run Try.prog W = .ok (.slice (some ⟨g, (l.length - 1) * 3, none⟩) 1 (cap - (l.length - 1))) W := fun W => by
      rw [run_slice_lh W 22 (some ⟨g, 0, none⟩) (l.length - 1) cap HU.out .i64 .i64 ((l.length - 1 : Nat) : Int) (l.length : Int) (by omega) (by omega) (by omega), HEL.out]
      have e1 : l.length - (l.length - 1) = 1 := by omega
      have e2 : ¬ cap = l.length - 1 := by omega
      simp [sizeOf, typeInfo, HI.out, HZ1.out, sliced, Result.andThen, e1, e2, add_plain]
    have hcl : ∀ ty, (Builtin.clear_ #[22] ty #[.slice (some ⟨g, (l.length - 1) * 3, none⟩) 1 (cap - (l.length - 1))]).run Try.prog w1 = .ok (.tuple #[]) (w1.setCells g ((l.length - 1) * 3) [.int .i64 0, .slice none 0 0, .int .i64 0]) := fun ty =>
      run_clear_file w1 ty g ((l.length - 1) * 3) _ (fun j hj => (own_cells hR1 _ (by omega)).1) (fun j hj => (own_cells hR1 _ (by omega)).2)
    have hCe := R_behind (vs := [.int .i64 0, .slice none 0 0, .int .i64 0]) hR1 (o := (l.length - 1) * 3) (by omega) (by simp; omega)
    have hG : w.grownBy (w1.setCells g ((l.length - 1) * 3) [.int .i64 0, .slice none 0 0, .int .i64 0]) (some g) := by
      refine World.grownBy.trans (World.grownBy.trans (grown_of_below (below_drew (Below.refl _ w)) _) hG1) ?_
      exact grown_setCells3 _ _ _ _ _ _
    have HCE := Lib.hid hCe
    have HGG := Lib.hid hG
    have HLEN := Lib.hid hlen
    clear hCe hG hC1 hR1 hB1 hG1 hlen
    go_wp2_with (fail)
    go_ret
    exact ⟨by rw [HLEN.out]; rfl, by rw [HLEN.out]; omega, by rw [HLEN.out]; exact HCE.out, HGG.out⟩

def dropF (l : List Fl) (i : Nat) : List Fl × Int := (l.eraseIdx i, 0)
set_option maxRecDepth 100000 in
set_option maxHeartbeats 16000000 in
theorem drop1_do (cap : Int) (l : List Fl) (wq : World) (i : Nat) (hi : i < l.length) (hll : l.length ≤ 1000) : DoOk 44 #[] cap l i (dropF l i) wq := by
  intro W B base A1 c1 xs hqW hqb hbB bO hO hx
  have hli : (i : Int) < (l.length : Int) := by omega
  obtain ⟨g, rfl, hg1, hg2⟩ := hO.form (by omega)
  have hRR := hO.R
  rw [hx] at hRR
  have hbl : base ≤ W.heap.size := by omega
  have HD := Lib.hid (delete_calls g c1 base l i W hRR hi hll hbl)
  obtain ⟨gcells, hgb⟩ := own_typed hO.2.1 g rfl
  have hBg : B ≠ g := fun e => by
    have h9 : W.heap[B]? = _ := bO
    rw [e, hgb] at h9
    injection h9 with h9
    injection h9 with _ h9
    cases h9
  have d1 := bO.c 1 rfl
  have BO := Lib.hid bO
  clear hO hRR hgb bO
  go_enter Try.func44, Try.ntmps44
  go_wp2_with (fail)
  refine HD.out.mono ?_
  rintro e w1 ⟨rfl, hq1, hR1, hG1⟩
  have bO1 : BoxC w1 B (cellsD cap (some ⟨g, 0, none⟩) l.length c1) 24 := (hG1.block B (blk_lt BO.out) (by intro e; injection e with e; omega)).trans BO.out
  have e1 := bO1.c 1 rfl
  have ef := bO1.f 1
  have hBl : Below base W (w1.setCell ⟨B, 1, none⟩ (.slice (some ⟨g, 0, none⟩) (l.eraseIdx i).length c1)) := ((Below.refl base W).grown hG1 hbl (fun j e => by injection e with e; omega)).setCell (p := ⟨B, 1, none⟩) hbB _
  have hBo : BoxC (w1.setCell ⟨B, 1, none⟩ (.slice (some ⟨g, 0, none⟩) (l.eraseIdx i).length c1)) B (cellsD cap (some ⟨g, 0, none⟩) (l.eraseIdx i).length c1) 24 := bO1.set 1 _
  have hRn := Kd.R_set (g := B) (cells := cellsD cap (some ⟨g, 0, none⟩) l.length c1) (t := 24) hR1 bO1 kF_E 1 (.slice (some ⟨g, 0, none⟩) (l.eraseIdx i).length c1)
  have HF := Lib.hid (R_from hRn)
  have HBO := Lib.hid hBo
  clear hRn hBo hR1 hG1 HD
  go_wp2_with (fail)
  go_ret
  refine ⟨rfl, hBl, ?_⟩
  try intro _
  exact ⟨some ⟨g, 0, none⟩, c1, HBO.out, hq1, HF.out⟩
end Go.Proofs.Ytahiigcofgnncaa.H
