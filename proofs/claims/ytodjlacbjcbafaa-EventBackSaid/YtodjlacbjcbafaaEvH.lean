import Derived.Test.YtodjlacbjcbafaaEvF
/-! Layer 14: Read, walked. -/
namespace Go.Proofs.Ytodjlacbjcbafaa.H
open Go.RowKit Moor Go.Proofs.YtodjlacbjcbafaaW.PrintWords Go.Proofs.YtodjlacbjcbafaaW.PrintLast Go.Proofs.YtodjlacbjcbafaaW.PrintMore
set_option linter.unusedVariables false
set_option linter.unusedSimpArgs false

/-- What Read hands back. -/
def EvEnd (r : List Ev × Bool) (w : World) (x : Ending) (w' : World) : Prop := ∃ v, x = .returned (.tuple #[v, .bool r.2]) ∧ Kd.R kE 34 w' w.heap.size (fun _ => True) v (r.1.map toE) ∧ Below w.heap.size w w'
theorem EvEnd.no (w W : World) (h : Below w.heap.size w W) : EvEnd ([], false) w (.returned (.tuple #[.slice none 0 0, .bool false])) W := ⟨_, rfl, Kd.R_nil _ _ _ _ _, h⟩
def resE : Option (List Ev) → List Ev × Bool
  | some es => (es, true)
  | none => ([], false)
theorem readE_rest (t : Int) (b : List Int) (h : (vRead b).2 = true) (hf : okFrom t) : readE t b = resE (restE (vRead b).1.length t (vRead b).1 []) := by
  unfold readE restE
  rw [if_pos ⟨h, hf⟩]
  cases decE (vRead b).1.length t (vRead b).1 <;> rfl
theorem readE_none (t : Int) (b : List Int) (h : (vRead b).2 = false ∨ ¬ okFrom t) : readE t b = ([], false) := by
  unfold readE
  rw [if_neg]
  rintro ⟨h1, h2⟩
  rcases h with h | h
  · rw [h] at h1; cases h1
  · exact h h2
theorem vRead_may (b : List Int) (ho : okB b) : ∀ x ∈ (vRead b).1, mayN x := by
  unfold vRead
  cases h : read b with
  | none => intro x hx; cases hx
  | some out =>
    simp only
    by_cases h4 : out.length ≤ 400
    · rw [if_pos h4]; exact (read_back ho h).1
    · rw [if_neg h4]; intro x hx; cases hx
def lenAt (W : World) (B0 : Nat) : Nat := match W.cell? ⟨B0, 1, none⟩ with
  | some (.slice _ n _) => n
  | _ => 0
theorem Pp.lenAt {W : World} {B0 : Nat} {t : Int} {l : List Int} {e : Ev} {bad : Bool} (h : Pp W B0 t l e bad) : lenAt W B0 = l.length := by
  obtain ⟨A, c, hb, _⟩ := h
  unfold H.lenAt
  rw [hb.cells.2.1]
abbrev e0 : Ev := ⟨0, 0, 0, 0, 0, 0, 0, 0, false⟩
theorem heap_keep {w : World} {k : Nat} {o x : Obj} (h : w.heap[k]? = some x) : (w.alloc o).heap[k]? = some x := by
  rw [Below.heap_alloc w o k (blk_ltE h)]; exact h
theorem paper_new (w3 : World) (o1 : Obj) (t : Int) (base : Nat) (ok : Nat → Prop) (A1 : Option Addr) (c1 : Nat) (ns : List Int) (hR : Kd.R (Kd.int .i64) 3 w3 base ok (.slice A1 ns.length c1) ns) (hc : ns.length ≤ c1) : Pp ((w3.alloc o1).alloc (.cells (cvE t (.slice A1 ns.length c1) e0 false) 51)) (w3.heap.size + 1) t ns e0 false := by
  have hb : BoxE ((w3.alloc o1).alloc (.cells (cvE t (.slice A1 ns.length c1) e0 false) 51)) (w3.heap.size + 1) t (.slice A1 ns.length c1) e0 false := by
    have h := heap_alloc_new (w3.alloc o1) (.cells (cvE t (.slice A1 ns.length c1) e0 false) 51)
    rw [World.size_alloc] at h
    exact h
  have hR2 := Kd.R_alloc (Kd.R_alloc hR o1) (.cells (cvE t (.slice A1 ns.length c1) e0 false) 51)
  obtain ⟨A2, c2, e2, _, hC⟩ := Kd.R_reads hR2
  cases e2
  refine ⟨A1, c1, hb, hc, hC, fun ad e => ?_⟩
  subst e
  have := ((Kd.R_bound hR).1 ad.block rfl).2.2.1
  omega
theorem ways_new (w3 : World) (o1 : Obj) : Box7 ((w3.alloc (.cells waysV 47)).alloc o1) w3.heap.size waysV := heap_keep (heap_alloc_new w3 _)
theorem vRead_400 (b : List Int) : (vRead b).1.length ≤ 400 := by
  unfold vRead
  cases h : read b with
  | none => simp
  | some out =>
    simp only
    by_cases h4 : out.length ≤ 400
    · rw [if_pos h4]; exact h4
    · rw [if_neg h4]; simp
abbrev cellsE (e : Ev) : Array Value := #[.int .i64 e.kind, .int .i64 e.at_, .int .i64 e.a, .int .i64 e.b, .int .i64 e.c, .int .i64 e.q, .int .i64 e.i, .int .i64 e.h, .bool e.pair]
theorem infoE : (Try.prog.info? 34).map (fun i => (i.zero, i.size, i.bytes)) = some (some (.agg #[.int .i64 0, .int .i64 0, .int .i64 0, .int .i64 0, .int .i64 0, .int .i64 0, .int .i64 0, .int .i64 0, .bool false]), 9, 72) := by kernel_rfl
theorem kE_KM {w w' : World} {base : Nat} {ok : Nat → Prop} {x : Se} {cs : List Value} (h : kE.K w x cs) : kE.M w' base ok x cs := by
  rw [B.k34_open h]
  exact B.k34_mkM _ _ _ _
theorem add_plainE (g : Nat) (j : Nat) : (⟨g, 0, none⟩ : Addr).add j = ⟨g, j, none⟩ := by
  unfold Addr.add
  split <;> simp_all
theorem one_ev (w : World) (e : Ev) : Kd.C kE (w.alloc (.cells (cellsE e) 34)) (some ⟨w.heap.size, 0, none⟩) ([toE e] : List Se).length [toE e] := by
  refine ⟨rfl, by simp, fun _ => ⟨_, rfl, fun j q hj => ?_⟩⟩
  cases j with
  | zero =>
    obtain rfl : toE e = q := by simpa using hj
    refine ⟨(cellsE e).toList, rfl, B.k34_mk _ _, fun i u hu => ?_⟩
    rw [show ((⟨w.heap.size, 0, none⟩ : Addr).add (0 * kE.sz + i)) = ⟨w.heap.size, i, none⟩ from by rw [add_plainE]; simp, blk_cellE (heap_alloc_new w _)]
    simpa using hu
  | succ j => simp at hj
theorem BoxE.below {W W' : World} {B0 : Nat} {t : Int} {l : Value} {e : Ev} {bad : Bool} (h : BoxE W B0 t l e bad) (hb : Below W.heap.size W W') : BoxE W' B0 t l e bad := (hb.block B0 (blk_ltE h)).trans h
theorem BoxE.grown {W W' : World} {B0 : Nat} {t : Int} {l : Value} {e : Ev} {bad : Bool} {row : Option Nat} (h : BoxE W B0 t l e bad) (hg : W.grownBy W' row) (hne : some B0 ≠ row) : BoxE W' B0 t l e bad := (hg.block B0 (blk_ltE h) hne).trans h
theorem BoxE.sett {W : World} {B0 : Nat} {t : Int} {l : Value} {e : Ev} {bad : Bool} (h : BoxE W B0 t l e bad) (n : Int) : BoxE (W.setCell ⟨B0, 0, none⟩ (.int .i64 n)) B0 n l e bad := by
  unfold BoxE at *
  simp [World.setCell, Array.getElem?_modify, h]
theorem BoxE.nine {W : World} {B0 : Nat} {t : Int} {l : Value} {e : Ev} {bad : Bool} (h : BoxE W B0 t l e bad) : W.cell? ⟨B0, 2, none⟩ = some (.int .i64 e.kind) ∧ W.cell? ⟨B0, 3, none⟩ = some (.int .i64 e.at_) ∧ W.cell? ⟨B0, 4, none⟩ = some (.int .i64 e.a) ∧ W.cell? ⟨B0, 5, none⟩ = some (.int .i64 e.b) ∧ W.cell? ⟨B0, 6, none⟩ = some (.int .i64 e.c) ∧ W.cell? ⟨B0, 7, none⟩ = some (.int .i64 e.q) ∧ W.cell? ⟨B0, 8, none⟩ = some (.int .i64 e.i) ∧ W.cell? ⟨B0, 9, none⟩ = some (.int .i64 e.h) ∧ W.cell? ⟨B0, 10, none⟩ = some (.bool e.pair) := by
  obtain ⟨_, _, h2, h3, h4, h5, h6, h7, h8, h9, h10, _⟩ := h.cells
  exact ⟨h2, h3, h4, h5, h6, h7, h8, h9, h10⟩
theorem C_grow {w w' : World} {A : Option Addr} {l : List Int} {row : Option Nat} (h : Kd.C (Kd.int .i64) w A l.length l) (hg : w.grownBy w' row) (hne : ∀ ad, A = some ad → some ad.block ≠ row) : Kd.C (Kd.int .i64) w' A l.length l := by
  refine ⟨h.1, h.2.1, fun hn => ?_⟩
  obtain ⟨ad, e, hc⟩ := h.2.2 hn
  refine ⟨ad, e, fun j q hj => ?_⟩
  obtain ⟨c, hs, hK, hcell⟩ := hc j q hj
  exact ⟨c, hs, hK, fun i u hu => hg.cell (hcell i u hu) (by rw [add_blockR]; exact hne ad e)⟩
theorem drew_grown {w w' : World} {row : Option Nat} (h : w.grownBy w' row) : w.grownBy w'.drew row := ⟨h.os, h.tape, h.output, h.size, h.block⟩
/-- The event set anew. -/
abbrev W9 (w4 : World) (B0 : Nat) (kk at_ : Int) : World := (((((((((w4.setCell ⟨B0, 2, none⟩ (.int .i64 kk)).setCell ⟨B0, 3, none⟩ (.int .i64 at_)).setCell ⟨B0, 4, none⟩ (.int .i64 0)).setCell ⟨B0, 5, none⟩ (.int .i64 0)).setCell ⟨B0, 6, none⟩ (.int .i64 0)).setCell ⟨B0, 7, none⟩ (.int .i64 0)).setCell ⟨B0, 8, none⟩ (.int .i64 0)).setCell ⟨B0, 9, none⟩ (.int .i64 0)).setCell ⟨B0, 10, none⟩ (.bool false))
theorem W9_grown (w4 : World) (B0 : Nat) (kk at_ : Int) : w4.grownBy (W9 w4 B0 kk at_) (some B0) :=
  Lib.grownBy_setB (Lib.grownBy_setB (Lib.grownBy_setB (Lib.grownBy_setB (Lib.grownBy_setB (Lib.grownBy_setB (Lib.grownBy_setB (Lib.grownBy_setB (Lib.grownBy_setCell _ _ _ _) _ _) _ _) _ _) _ _) _ _) _ _) _ _) _ _
theorem W9_pp {w4 : World} {B0 : Nat} {tt : Int} {l : List Int} {e : Ev} {bad : Bool} (h : Pp w4 B0 tt l e bad) (kk at_ : Int) : Pp (W9 w4 B0 kk at_) B0 tt l ⟨kk, at_, 0, 0, 0, 0, 0, 0, false⟩ bad :=
  h.set _ _ _ (W9_grown w4 B0 kk at_) (fun sl h => ((((((((h.set2 kk).set3 at_).set4 0).set5 0).set6 0).set7 0).set8 0).set9 0).set10 false)
theorem Box7.grown {W W' : World} {B0 B1 : Nat} {cs : Array Value} (h : Box7 W B0 cs) (hg : W.grownBy W' (some B1)) (hne : B0 ≠ B1) : Box7 W' B0 cs := (hg.block B0 (blk_ltE h) (fun e => hne (Option.some.inj e))).trans h
theorem rest_nil (k : Nat) (tt : Int) (done : List Ev) : restE k tt [] done = some done := by
  unfold restE
  cases k <;> simp [decE]
set_option maxRecDepth 100000 in
set_option maxHeartbeats 8000000 in
theorem eread_calls (t : Int) (A : Option Addr) (c : Nat) (b : List Int) (w : World) (hR : Kd.C (Kd.int .u8) w A b.length b) (hc : b.length ≤ c) (ho : okB b) (hl : b.length ≤ 140737488355328) :
    Calls Try.prog 13 #[.int .i64 t, .slice A b.length c] w (EvEnd (readE t b) w) := by
  have HR := Lib.hid hR
  clear hR
  have HE0 := Lib.hid (readE_none t b)
  have HE1 := Lib.hid (readE_rest t b)
  have HMY := Lib.hid (vRead_may b ho)
  have H400 := Lib.hid (show ([] : List Ev).length + (vRead b).1.length ≤ 400 from by have := vRead_400 b; rw [List.length_nil]; omega)
  generalize readE t b = res at *
  go_enter Try.func13, Try.ntmps13
  go_wp2_with (fail)
  refine (read_calls A c b w HR.out hc ho hl).mono ?_
  rintro x w1 ⟨v, rfl, hv, hb1⟩
  have HV := Lib.hid hv
  have HB1 := Lib.hid hb1
  clear hv hb1
  generalize (vRead b).2 = is_ at *
  generalize (vRead b).1 = ns at *
  cases is_ with
  | false =>
    have HZ := Lib.hid (HE0.out (.inl rfl))
    clear HE0 HE1
    go_wp2_with (fail)
    rw [HZ.out]
    exact bodyPost_ret (results_tmp2 (fn := Try.f13) (t := 4) (u := 5) rfl _ _ _) rfl (EvEnd.no _ _ HB1.out)
  | true =>
    go_wp2_with (fail)
    refine (ein_calls t 0 1073741824 w1).mono ?_
    rintro x w2 ⟨rfl, hb2⟩
    have HB2 := Lib.hid (HB1.out.trans (hb2.mono HB1.out.size))
    by_cases hf : okFrom t
    · have HZ := Lib.hid (show res = resE (restE ns.length t ns []) from by first | exact HE1.out rfl hf | exact HE1.out trivial hf)
      have HF := Lib.hid hf
      clear HE0 HE1
      rw [decide_eq_true (show 0 ≤ t ∧ t ≤ 1073741824 from hf)]
      have HV2 := Lib.hid (Kd.R_below HV.out hb2)
      obtain ⟨A1, c1, rfl, hc1, hC1⟩ := Kd.R_reads HV2.out
      have HC1 := Lib.hid hC1
      clear hb2 HV hC1 hf
      go_wp2_with (fail)
      refine (readers_calls w2).mono ?_
      rintro x w3 ⟨rfl, hb3⟩
      have HB3 := Lib.hid (HB2.out.trans (hb3.mono HB2.out.size))
      have HV3 := Lib.hid (Kd.R_below HV2.out hb3)
      clear hb3 HC1
      unfold waysV
      go_wp2_with (fail)
      have HPI := Lib.hid (show Pp ((w3.alloc (.cells waysV 47)).alloc (.cells (cvE t (.slice A1 ns.length c1) e0 false) 51)) (w3.heap.size + 1) t ns e0 false from paper_new _ _ _ _ _ _ _ _ HV3.out hc1)
      have HWI := Lib.hid (show Box7 ((w3.alloc (.cells waysV 47)).alloc (.cells (cvE t (.slice A1 ns.length c1) e0 false) 51)) w3.heap.size waysV from ways_new _ _)
      have HBI := Lib.hid (show Below w3.heap.size w3 ((w3.alloc (.cells waysV 47)).alloc (.cells (cvE t (.slice A1 ns.length c1) e0 false) 51)) from below_alloc (below_alloc (Below.refl _ _) _) _)
      go_loopw [10] (fun v wr => ∃ (k : Nat) (tt : Int) (l : List Int) (e : Ev) (done : List Ev), Hid (l.length ≤ k) ∧ Hid (done.length + k ≤ 400) ∧ Hid (res = resE (restE k tt l done)) ∧ Hid (Pp wr (w3.heap.size + 1) tt l e false) ∧ Hid (Box7 wr w3.heap.size waysV) ∧ Hid (Kd.R kE 34 wr (w3.heap.size + 2) (fun _ => True) v (done.map toE)) ∧ Hid (Below w3.heap.size w3 wr) ∧ Hid (okFrom tt) ∧ Hid (∀ x ∈ l, mayN x)) (fun _ wr => lenAt wr (w3.heap.size + 1))
      case atStart => exact ⟨ns.length, t, ns, e0, [], Lib.hid (Nat.le_refl _), H400, HZ, HPI, HWI, Lib.hid (Kd.R_nil _ _ _ _ _), HBI, HF, HMY⟩
      case round =>
        obtain ⟨k, tt, l, e, done, hk, hdk, hz, hp, hw, hr, hb, hf, hm⟩ := hrel
        have hms := (Pp.lenAt hp.out)
        have HP := hp.out
        cases l with
        | nil =>
          obtain ⟨A2, c2, hbx, hc2, _, _⟩ := HP
          obtain ⟨x0, x1, x2, x3, x4, x5, x6, x7, x8, x9, x10, x11⟩ := hbx.cells
          clear hbx hms
          go_wp2_with (fail)
          refine bodyPost_ret (results_tmp2 (fn := Try.f13) (t := 4) (u := 5) rfl _ _ _) rfl ?_
          rw [hz.out, rest_nil]
          exact ⟨_, rfl, Kd.R_lower hr.out (by have := HB3.out.size; omega), HB3.out.trans (hb.out.mono HB3.out.size)⟩
        | cons n l =>
          obtain ⟨k, rfl⟩ : ∃ m, k = m + 1 := ⟨k - 1, by have := hk.out; rw [List.length_cons] at this; omega⟩
          have hn := hm.out n (List.mem_cons_self ..)
          obtain ⟨A2, c2, hbx, hc2, _, _⟩ := HP
          obtain ⟨x0, x1, x2, x3, x4, x5, x6, x7, x8, x9, x10, x11⟩ := hbx.cells
          clear hbx
          have hlp : 0 < ((n :: l).length : Int) := by rw [List.length_cons]; omega
          generalize hlen : (n :: l).length = len at *
          have HLN := Lib.hid (show len = l.length + 1 from hlen.symm)
          clear hlen
          go_wp2_with (fail)
          refine (take_calls (w3.heap.size + 1) tt (n :: l) e false wr hp.out).mono ?_
          rintro x w4 ⟨rfl, hp4, hg4⟩
          rw [show (n :: l).headD 0 = n from rfl]
          have HP4 := Lib.hid (show Pp w4 (w3.heap.size + 1) tt l e false from hp4)
          have HG4 := Lib.hid hg4
          clear hp4 hg4 x0 x1 x2 x3 x4 x5 x6 x7 x8 x9 x10 x11
          obtain ⟨A2, c2, hbx, hc2, _, _⟩ := HP4.out
          obtain ⟨x0, x1, x2, x3, x4, x5, x6, x7, x8, x9, x10, x11⟩ := hbx.cells
          have f2 := hbx.f 2
          have f3 := hbx.f 3
          have f4 := hbx.f 4
          have f5 := hbx.f 5
          have f6 := hbx.f 6
          have f7 := hbx.f 7
          have f8 := hbx.f 8
          have f9 := hbx.f 9
          have f10 := hbx.f 10
          clear hbx
          obtain ⟨hn0, hn1⟩ := hn
          have htt := hf.out
          obtain ⟨kk, hkk⟩ : ∃ kk : Nat, n % 16 = (kk : Int) := ⟨(n % 16).toNat, by omega⟩
          have hrem : Int.tmod n 16 = (kk : Int) := by rw [← hkk, Int.tmod_eq_emod_of_nonneg hn0]
          have hquo : wrap64 (Int.tdiv n 16) = n / 16 := by rw [Int.tdiv_eq_ediv_of_nonneg hn0]; exact wrap64_id (by omega) (by omega)
          have hat : wrap64 (tt + n / 16) = tt + n / 16 := wrap64_id (by have := htt.1; omega) (by have := htt.2; omega)
          have HK := Lib.hid hkk
          clear hkk htt
          by_cases h7 : 7 ≤ kk
          · have h7' : (kk : Int) ≥ 7 := by omega
            have HZ2 := Lib.hid (show res = ([], false) by rw [hz.out, rest_high _ _ _ _ _ (by rw [HK.out]; omega)]; rfl)
            clear h7
            go_wp2_with (fail)
            rw [HZ2.out]
            refine bodyPost_ret (results_tmp2 (fn := Try.f13) (t := 4) (u := 5) rfl _ _ _) rfl (EvEnd.no _ _ ?_)
            exact HB3.out.trans (((hb.out.grown HG4.out hb.out.size (fun _ e => by cases e; omega)).grown (W9_grown _ _ _ _) (by have := hb.out.size; have := HG4.out.size; omega) (fun _ e => by cases e; omega)).mono HB3.out.size)
          · have h7' : ¬ ((kk : Int) ≥ 7) := by omega
            obtain ⟨g, hg1, hg2, hg3⟩ := ways_calls kk (by omega)
            have hw4 := (hw.out.grown HG4.out (by omega))
            have hw5 : w4.cell? ⟨w3.heap.size, kk, none⟩ = some (.func (.func g) #[] #[]) := (hw4.c kk).trans hg1
            have h70 : (0 : Int) ≤ (kk : Int) := by omega
            have h77 : (kk : Int) < 7 := by omega
            have HW4 := Lib.hid hw4
            have HG3 := Lib.hid hg3
            have HR1 := Lib.hid (show ((wayE ⟨(kk : Int), tt + n / 16, 0, 0, 0, 0, 0, 0, false⟩ l).2.2 = true ∨ ¬ evMay (wayE ⟨(kk : Int), tt + n / 16, 0, 0, 0, 0, 0, 0, false⟩ l).1) → res = ([], false) from fun h => by
              rw [← HK.out] at h
              rw [hz.out, rest_bad _ _ _ _ _ (by rw [HK.out]; omega) h]; rfl)
            have HR2 := Lib.hid (show (wayE ⟨(kk : Int), tt + n / 16, 0, 0, 0, 0, 0, 0, false⟩ l).2.2 = false → evMay (wayE ⟨(kk : Int), tt + n / 16, 0, 0, 0, 0, 0, 0, false⟩ l).1 → res = resE (restE k (wayE ⟨(kk : Int), tt + n / 16, 0, 0, 0, 0, 0, 0, false⟩ l).1.at_ (wayE ⟨(kk : Int), tt + n / 16, 0, 0, 0, 0, 0, 0, false⟩ l).2.1 (done ++ [(wayE ⟨(kk : Int), tt + n / 16, 0, 0, 0, 0, 0, 0, false⟩ l).1])) from fun h h2 => by
              rw [← HK.out] at h h2 ⊢
              rw [hz.out, rest_good _ _ _ _ _ (by rw [HK.out]; omega) h h2])
            have HR3 := Lib.hid (show (wayE ⟨(kk : Int), tt + n / 16, 0, 0, 0, 0, 0, 0, false⟩ l).2.1.length ≤ k ∧ ∀ x ∈ (wayE ⟨(kk : Int), tt + n / 16, 0, 0, 0, 0, 0, 0, false⟩ l).2.1, mayN x from by
              obtain ⟨_, y1, y2⟩ := way_at ⟨(kk : Int), tt + n / 16, 0, 0, 0, 0, 0, 0, false⟩ l
              have := hk.out
              have := HLN.out
              exact ⟨by omega, fun x hx => hm.out x (List.mem_cons_of_mem _ (y2 x hx))⟩)
            have HL5 := Lib.hid (show (wayE ⟨(kk : Int), tt + n / 16, 0, 0, 0, 0, 0, 0, false⟩ l).2.1.length < lenAt wr (w3.heap.size + 1) from by
              obtain ⟨_, y1, y2⟩ := way_at ⟨(kk : Int), tt + n / 16, 0, 0, 0, 0, 0, 0, false⟩ l
              rw [Pp.lenAt hp.out, List.length_cons]
              omega)
            clear hw4 hg1 hg3
            go_wp2_with (fail)
            refine (HG3.out (w3.heap.size + 1) tt l ⟨(kk : Int), tt + n / 16, 0, 0, 0, 0, 0, 0, false⟩ _ rfl (W9_pp HP4.out _ _)).mono ?_
            rintro x w5 ⟨rfl, hp5, hg5⟩
            generalize wayE ⟨(kk : Int), tt + n / 16, 0, 0, 0, 0, 0, 0, false⟩ l = r at *
            obtain ⟨e5, l5, bad5⟩ := r
            have HG5 := Lib.hid (show wr.grownBy w5 (some (w3.heap.size + 1)) from Lib.grownBy_trans HG4.out (Lib.grownBy_trans (W9_grown _ _ _ _) hg5))
            have HP5 := Lib.hid (show Pp w5 (w3.heap.size + 1) tt l5 e5 bad5 from hp5)
            have HB5 := Lib.hid (show Below w3.heap.size w3 w5 from hb.out.grown HG5.out hb.out.size (fun _ e => by cases e; omega))
            have HW5 := Lib.hid (hw.out.grown HG5.out (by omega))
            have HV5 := Lib.hid (show Kd.R kE 34 w5 (w3.heap.size + 2) (fun _ => True) u10 (done.map toE) from Kd.R_mono (Kd.R_grown (Kd.R_bound hr.out) HG5.out (fun k hk e => by cases e; have := hk.2.1; omega)) (fun _ _ => trivial))
            clear hp5 hg5 x0 x1 x2 x3 x4 x5 x6 x7 x8 x9 x10 x11 f2 f3 f4 f5 f6 f7 f8 f9 f10 HG4 HP4 HW4 HG3 hw5 HG5
            obtain ⟨A3, c3, hbx, hc3, _, _⟩ := HP5.out
            obtain ⟨x0, x1, x2, x3, x4, x5, x6, x7, x8, x9, x10, x11⟩ := hbx.cells
            cases bad5 with
            | true =>
              have HZ2 := Lib.hid (HR1.out (.inl rfl))
              clear HR1 HR2
              go_wp2_with (fail)
              rw [HZ2.out]
              refine bodyPost_ret (results_tmp2 (fn := Try.f13) (t := 4) (u := 5) rfl _ _ _) rfl (EvEnd.no _ _ (HB3.out.trans (HB5.out.mono HB3.out.size)))
            | false =>
              go_wp2_with (fail)
              clear x0 x1 x2 x3 x4 x5 x6 x7 x8 x9 x10 x11
              refine (emay_calls e5 w5).mono ?_
              rintro x w6 ⟨rfl, hb6⟩
              have HB6 := Lib.hid (HB5.out.trans (hb6.mono HB5.out.size))
              by_cases hmay : evMay e5
              · rw [decide_eq_true hmay]
                have HRG := Lib.hid (show res = resE (restE k e5.at_ l5 (done ++ [e5])) from by first | exact HR2.out rfl hmay | exact HR2.out trivial hmay)
                have HOK := Lib.hid (evMay_from hmay)
                have BX := Lib.hid (show BoxE w6 (w3.heap.size + 1) tt (.slice A3 l5.length c3) e5 false from hbx.below hb6)
                have HP6 := Lib.hid (show Pp w6 (w3.heap.size + 1) tt l5 e5 false from by
                  obtain ⟨A4, c4, q1, q2, q3, q4⟩ := HP5.out
                  exact ⟨A4, c4, q1.below hb6, q2, Kd.C_below q3 hb6, q4⟩)
                have HW6 := Lib.hid (show Box7 w6 w3.heap.size waysV from (hb6.block _ (blk_ltE HW5.out)).trans HW5.out)
                have HV6 := Lib.hid (Kd.R_below HV5.out hb6)
                have f60 := BX.out.f 0
                obtain ⟨x0, _, x2, x3, x4, x5, x6, x7, x8, x9, x10, _⟩ := BX.out.cells
                clear hb6 HR1 HR2 HP5 HW5 HV5
                go_wp2_with (fail)
                have HA := Lib.hid (Kd.C_drew (one_ev w6 e5))
                have HVA := Lib.hid (Kd.R_drew (Kd.R_alloc HV6.out (.cells (cellsE e5) 34)))
                have D0 := Lib.hid (show Below (w3.heap.size + 2) w6 (w6.alloc (.cells (cellsE e5) 34)).drew from (below_drew (below_alloc (Below.refl _ _) _)).mono (by have := HB6.out.size; have := Pp.lt HP6.out; omega))
                have HNE := Lib.hid (show some (w3.heap.size + 1) ≠ u10.ownBlock from fun e => by have := ((Kd.R_bound HV6.out).1 _ e.symm).2.1; omega)
                have BXA := Lib.hid (show BoxE (w6.alloc (.cells (cellsE e5) 34)).drew (w3.heap.size + 1) tt (.slice A3 l5.length c3) e5 false from BX.out.below (below_drew (below_alloc (Below.refl _ _) _)))
                have hsz6 : w3.heap.size + 2 ≤ w6.heap.size := by have := Pp.lt HP6.out; omega
                go_region_held3 (fun W => W.cell? ⟨w3.heap.size + 1, 2, none⟩ = some (.int .i64 e5.kind) ∧ W.cell? ⟨w3.heap.size + 1, 3, none⟩ = some (.int .i64 e5.at_) ∧ W.cell? ⟨w3.heap.size + 1, 4, none⟩ = some (.int .i64 e5.a) ∧ W.cell? ⟨w3.heap.size + 1, 5, none⟩ = some (.int .i64 e5.b) ∧ W.cell? ⟨w3.heap.size + 1, 6, none⟩ = some (.int .i64 e5.c) ∧ W.cell? ⟨w3.heap.size + 1, 7, none⟩ = some (.int .i64 e5.q) ∧ W.cell? ⟨w3.heap.size + 1, 8, none⟩ = some (.int .i64 e5.i) ∧ W.cell? ⟨w3.heap.size + 1, 9, none⟩ = some (.int .i64 e5.h) ∧ W.cell? ⟨w3.heap.size + 1, 10, none⟩ = some (.bool e5.pair)) (first | exact BoxE.nine (BX7.sett e5.at_) | exact BoxE.nine BX7 | exact BoxE.nine BXA.out | exact BoxE.nine BX.out) ((refine Kd.R_append_rows_step kE (Rr := fun x cs => kE.K (w6.alloc (.cells (cellsE e5) 34)).drew x cs) (w0 := w6) (w3.heap.size + 2) (by rfl) _ _ 22 34 (.agg #[.int .i64 0, .int .i64 0, .int .i64 0, .int .i64 0, .int .i64 0, .int .i64 0, .int .i64 0, .int .i64 0, .bool false]) 72 (by rfl) Try.underlying22 infoE rfl (by decide) (by decide) u10 (done.map toE) [toE e5] (some ⟨w6.heap.size, 0, none⟩) 1 1 (fun _ => True) (fun _ => False) (by rfl) (by rfl) HVA.out HA.out (fun _ _ h => kE_KM h) (fun _ h => h.elim) (fun _ _ => trivial) D0.out (Nat.le_trans hsz6 D0.out.size) (by have := hdk.out; rw [List.length_map]; omega) ?_; intro v7 w7 hr7 D7 hG7 _; have BX7 := BXA.out.grown hG7 HNE.out; have z0 := BX7.cells.1; have zf := BX7.f 0))
                have hro : ∀ k, u10.ownBlock = some k → w3.heap.size + 2 ≤ k := fun k e => ((Kd.R_bound HV6.out).1 k e).2.1
                have g6 : w6.grownBy w7 u10.ownBlock := Lib.grownBy_trans (drew_grown (World.grownBy_alloc w6 _ _)) hG7
                have g7 := Lib.grownBy_setCell w7 (w3.heap.size + 1) 0 (.int .i64 e5.at_)
                have HP7 := Lib.hid (show Pp (w7.setCell ⟨w3.heap.size + 1, 0, none⟩ (.int .i64 e5.at_)) (w3.heap.size + 1) e5.at_ l5 e5 false from by
                  obtain ⟨A4, c4, q1, q2, q3, q4⟩ := HP6.out
                  exact ⟨A4, c4, (q1.grown g6 HNE.out).sett _, q2, C_other (C_grow q3 g6 (fun ad e e2 => by have := q4 ad e; have := hro _ e2.symm; omega)) g7 q4, q4⟩)
                have HW7 := Lib.hid (show Box7 (w7.setCell ⟨w3.heap.size + 1, 0, none⟩ (.int .i64 e5.at_)) w3.heap.size waysV from by
                  have q : Box7 w7 w3.heap.size waysV := (g6.block _ (blk_ltE HW6.out) (fun e => by have := hro _ e.symm; omega)).trans HW6.out
                  exact q.grown g7 (by omega))
                have HV7 := Lib.hid (show Kd.R kE 34 (w7.setCell ⟨w3.heap.size + 1, 0, none⟩ (.int .i64 e5.at_)) (w3.heap.size + 2) (fun _ => True) v7 ((done ++ [e5]).map toE) from by
                  have q := Kd.R_set hr7 BX7 (by decide) 0 (.int .i64 e5.at_)
                  rw [List.map_append]
                  exact q)
                have HB7 := Lib.hid (show Below w3.heap.size w3 (w7.setCell ⟨w3.heap.size + 1, 0, none⟩ (.int .i64 e5.at_)) from (HB6.out.trans (D7.mono (by omega))).setCell (by show w3.heap.size ≤ w3.heap.size + 1; omega) _)
                have HD7 := Lib.hid (show (done ++ [e5]).length + k ≤ 400 from by have := hdk.out; rw [List.length_append, List.length_singleton]; omega)
                have HM7 := Lib.hid (show lenAt (w7.setCell ⟨w3.heap.size + 1, 0, none⟩ (.int .i64 e5.at_)) (w3.heap.size + 1) < lenAt wr (w3.heap.size + 1) from by rw [Pp.lenAt HP7.out]; exact HL5.out)
                clear hr7 D7 hG7 BX7 z0 zf g6 g7 hro
                go_wp2_with (fail)
                go_roundw
                case rel => exact ⟨k, e5.at_, l5, e5, done ++ [e5], Lib.hid HR3.out.1, HD7, HRG, HP7, HW7, HV7, HB7, HOK, Lib.hid HR3.out.2⟩
                case measure => exact HM7.out
              · rw [decide_eq_false hmay]
                have HZ2 := Lib.hid (HR1.out (.inr hmay))
                clear HR1 HR2 hb6
                go_wp2_with (fail)
                rw [HZ2.out]
                refine bodyPost_ret (results_tmp2 (fn := Try.f13) (t := 4) (u := 5) rfl _ _ _) rfl (EvEnd.no _ _ (HB3.out.trans (HB6.out.mono HB3.out.size)))
    · have HZ := Lib.hid (HE0.out (.inr hf))
      clear HE0 HE1
      rw [decide_eq_false (show ¬ (0 ≤ t ∧ t ≤ 1073741824) from hf)]
      clear hb2
      go_wp2_with (fail)
      rw [HZ.out]
      exact bodyPost_ret (results_tmp2 (fn := Try.f13) (t := 4) (u := 5) rfl _ _ _) rfl (EvEnd.no _ _ HB2.out)
end Go.Proofs.Ytodjlacbjcbafaa.H
