import Derived.Test.YtajofhjlkaenhaaPoolF
/-! Layer 11: what is done to pools, walked. -/
namespace Go.Proofs.Ytajofhjlkaenhaa.H
open Go.RowKit Go.Proofs.YtajofhjlkaenhaaW.PrintWords Go.Proofs.YtajofhjlkaenhaaW.PrintLast Go.Proofs.YtajofhjlkaenhaaW.PrintMore
set_option linter.unusedVariables false
set_option linter.unusedSimpArgs false

def addR (out : Int) (p : Pl) (l : List Pl) : List Pl × Int := if wrongAdd out p l = 0 then (l ++ [p], 0) else (l, wrongAdd out p l)
def drainR (out k : Int) (l : List Pl) : List Pl × Int := if wrongDrain out k l = 0 then (l.set k.toNat ⟨(getP l k).f0, (getP l k).f1, 1⟩, 0) else (l, wrongDrain out k l)
def sizeR (out k n : Int) (busy : List Int) (l : List Pl) : List Pl × Int := if wrongSize out k n busy l = 0 then (l.set k.toNat (sizedP (getP l k) n), 0) else (l, wrongSize out k n busy l)
def goneR (out k : Int) (busy : List Int) (l : List Pl) : List Pl × Int := if wrongGone out k busy l = 0 then (l.eraseIdx k.toNat, 0) else (l, wrongGone out k busy l)
/-- What a change hands back. -/
def PoolEnd (r : List Pl × Int) (w : World) (e : Ending) (w' : World) : Prop := ∃ (A' : Option Addr) (c' : Nat), e = .returned (.tuple #[.slice A' r.1.length c', .int .i64 r.2]) ∧ r.1.length ≤ c' ∧ Kd.C kP w' A' r.1.length r.1 ∧ Below w.heap.size w w'

theorem wrongDrain_in {out k : Int} {l : List Pl} (h : wrongDrain out k l = 0) : 0 ≤ k ∧ k < l.length := by
  unfold wrongDrain at h
  cases hm : maysP l out with
  | false => rw [hm] at h; exact absurd h (by show ¬ (1 : Int) = 0; omega)
  | true =>
    rw [hm] at h
    by_cases g : k < 0 ∨ (l.length : Int) ≤ k
    · have : (5 : Int) = 0 := by rw [← h]; exact (if_pos g).symm
      omega
    · omega
theorem wrongSize_in {out k n : Int} {busy : List Int} {l : List Pl} (h : wrongSize out k n busy l = 0) : 0 ≤ k ∧ k < l.length := by
  unfold wrongSize at h
  cases hm : maysP l out with
  | false => rw [hm] at h; exact absurd h (by show ¬ (1 : Int) = 0; omega)
  | true =>
    rw [hm] at h
    by_cases g : k < 0 ∨ (l.length : Int) ≤ k
    · have : (5 : Int) = 0 := by rw [← h]; exact (if_pos g).symm
      omega
    · omega
theorem wrongGone_in {out k : Int} {busy : List Int} {l : List Pl} (h : wrongGone out k busy l = 0) : 0 ≤ k ∧ k < l.length := by
  unfold wrongGone at h
  cases hm : maysP l out with
  | false => rw [hm] at h; exact absurd h (by show ¬ (1 : Int) = 0; omega)
  | true =>
    rw [hm] at h
    by_cases g : k < 0 ∨ (l.length : Int) ≤ k
    · have : (5 : Int) = 0 := by rw [← h]; exact (if_pos g).symm
      omega
    · omega

abbrev encP (p : Pl) : List Value := [.int .i64 p.f0, .int .i64 p.f1, .int .i64 p.f2]
/-- One field of a pool is stored. -/
theorem C_field {w : World} {g : Nat} {xs : List Pl} (h : Kd.C kP w (some ⟨g, 0, none⟩) xs.length xs) (k q : Nat) (hk : k < xs.length) (hq : q < 3) (y : Pl) (v : Value) (hy : encP y = (encP xs[k]).set q v) :
    Kd.C kP (w.setCell ⟨g, k * 3 + q, none⟩ v) (some ⟨g, 0, none⟩) (xs.set k y).length (xs.set k y) := by
  obtain ⟨ad, e, hcell⟩ := h.2.2 (by omega)
  cases e
  refine ⟨rfl, by have := h.2.1; simp; omega, fun _ => ⟨_, rfl, fun j p hj => ?_⟩⟩
  have hz : kP.sz = 3 := rfl
  refine ⟨encP p, rfl, B.k27_mk _ _, fun i u hu => ?_⟩
  have hi : i < 3 := by have := (List.getElem?_eq_some_iff.1 hu).1; simpa using this
  rw [hz, add_plain]
  by_cases hjk : j = k
  · subst hjk
    rw [List.getElem?_set_self hk] at hj
    obtain rfl : y = p := by simpa using hj
    obtain ⟨c, hs, hK, hc⟩ := hcell j _ (List.getElem?_eq_getElem hk)
    have hce : c = encP xs[j] := B.k27_open hK
    subst hce
    rw [hy] at hu
    by_cases hiq : i = q
    · subst hiq
      have hv : v = u := by
        rw [List.getElem?_set_self (by simpa using hi)] at hu
        simpa using hu
      subst hv
      apply World.cell?_setCell_same'
      have := hc i _ (List.getElem?_eq_getElem (by simpa using hi))
      rw [hz, add_plain] at this
      rw [this]
      rfl
    · rw [List.getElem?_set_ne (by omega)] at hu
      rw [World.cell?_setCell_other (w := w) (a := ⟨g, j * 3 + q, none⟩) (b := ⟨g, j * 3 + i, none⟩) (v := v) (by intro e; injection e with _ e2; omega)]
      have := hc i u hu
      rw [hz, add_plain] at this
      exact this
  · rw [List.getElem?_set_ne (by omega)] at hj
    obtain ⟨c, hs, hK, hc⟩ := hcell j p hj
    have hce : c = encP p := B.k27_open hK
    subst hce
    have := hc i u hu
    rw [hz, add_plain] at this
    rw [World.cell?_setCell_other (w := w) (a := ⟨g, k * 3 + q, none⟩) (b := ⟨g, j * 3 + i, none⟩) (v := v) (by intro e; injection e with _ e2; omega)]
    exact this
theorem own_form {w : World} {base : Nat} {ok : Nat → Prop} {v : Value} {l : List Pl} (h : Kd.R kP 27 w base ok v l) (hl : 0 < l.length) : ∃ g cap, v = .slice (some ⟨g, 0, none⟩) l.length cap ∧ base ≤ g ∧ g < w.heap.size := by
  have hb := Kd.R_base h
  have hlt := Kd.R_lt h
  obtain ⟨A, c, rfl, _, hC⟩ := Kd.R_reads h
  obtain ⟨_, inner, hown, _⟩ := h
  rcases hown.2 with ⟨hv, _⟩ | ⟨g', cap', cur, hv, hb2, hh, _⟩
  · injection hv with h1 h2 h3; omega
  · cases hv
    exact ⟨g', c, rfl, hb2, hlt g' rfl⟩

set_option maxRecDepth 100000 in
set_option maxHeartbeats 4000000 in
theorem do_add (out k : Int) (p : Pl) (b : Value) (A : Option Addr) (c : Nat) (l : List Pl) (w : World) (hR : Kd.C kP w A l.length l) (hc : l.length ≤ c) (hl : l.length ≤ 1000) (hb1 : b.oneCell' = true) :
    Calls Try.prog 34 #[.agg (cvs 0 out k p b), .slice A l.length c] w (PoolEnd (addR out p l) w) := by
  have bC := BoxC.new w 0 out k p b
  have hB0 : Below w.heap.size w (w.alloc (.cells (cvs 0 out k p b) 48)) := below_alloc (Below.refl _ _) _
  have HR := Lib.hid hR
  have BC := Lib.hid bC
  clear hR bC
  go_enter Try.func34, Try.ntmps34
  go_wp2_with (fail)
  refine (cloneP_calls A c l _ (Kd.C_alloc HR.out _) hc (by omega)).mono ?_
  rintro e w1 ⟨v1, rfl, hR1, hb1⟩
  have hB1 : Below w.heap.size w w1 := hB0.trans (hb1.mono (by simp))
  have bC1 := BC.out.below hb1
  obtain ⟨c0, c1, c2, c3, c4, c5, c6'⟩ := bC1.cell
  have BC1 := Lib.hid bC1
  clear bC1 hb1
  go_wp2_with (fail)
  refine (wrong_add out k p b A c l w1 (Kd.C_below HR.out hB1) hc hb1).mono ?_
  rintro e w2 ⟨rfl, hb2⟩
  have hB2 : Below w.heap.size w w2 := hB1.trans (hb2.mono hB1.size)
  have bC2 := BC1.out.below hb2
  obtain ⟨d0, d1, d2, d3, d4, d5, d6'⟩ := bC2.cell
  have hR2 := Kd.R_lower (Kd.R_below hR1 hb2) (show w.heap.size ≤ _ by simp)
  clear bC2 hb2 hR1 c0 c1 c2 c3 c4 c5 c6'
  by_cases he : wrongAdd out p l = 0
  · have hre : addR out p l = (l ++ [p], 0) := by unfold addR; exact if_pos he
    have HE := Lib.hid hre
    rw [he]
    clear he hre
    have hBa : Below w.heap.size w (w2.alloc (.cells #[.int .i64 p.f0, .int .i64 p.f1, .int .i64 p.f2] 27)) := below_alloc hB2 _
    have hRa := Kd.R_alloc hR2 (.cells #[.int .i64 p.f0, .int .i64 p.f1, .int .i64 p.f2] 27)
    have hCa : Kd.C kP (w2.alloc (.cells #[.int .i64 p.f0, .int .i64 p.f1, .int .i64 p.f2] 27)) (some ⟨w2.heap.size, 0, none⟩) ([p] : List Pl).length [p] := by
      refine ⟨rfl, by simp, fun _ => ⟨_, rfl, fun j q hj => ?_⟩⟩
      cases j with
      | zero =>
        obtain rfl : p = q := by simpa using hj
        refine ⟨encP p, rfl, B.k27_mk _ _, fun i u hu => ?_⟩
        rw [add_plain, blk_cell (heap_alloc_new w2 _)]
        simpa using hu
      | succ j => simp at hj
    have HRA := Lib.hid hRa
    have HCA := Lib.hid hCa
    have hsz : w.heap.size ≤ (w2.alloc (.cells #[.int .i64 p.f0, .int .i64 p.f1, .int .i64 p.f2] 27)).heap.size := hBa.size
    clear hRa hCa hR2
    go_wp2_with (at_builtin; refine Kd.R_append_rows kP (Rr := fun x cs => kP.K _ x cs) (w0 := w) w.heap.size rfl _ _ 22 27 (.agg #[(.int .i64 0), (.int .i64 0), (.int .i64 0)]) 24 rfl Try.underlying22 infoP rfl (by decide) (by decide) v1 l [p] (some ⟨w2.heap.size, 0, none⟩) 1 1 (fun _ => True) (fun _ => False) rfl rfl HRA.out HCA.out (fun _ _ h => kP_KM h) (fun _ h => h.elim) (fun _ _ => trivial) hBa hsz (by omega) ?_; intro v3 w3 hR3 hB3 hG3 _)
    obtain ⟨A1, q1, rfl, hq1, hC1⟩ := Kd.R_reads hR3
    refine bodyPost_ret (results_tmp2 (fn := Try.f34) (t := 4) (u := 5) rfl _ _ _) rfl ?_
    exact ⟨A1, q1, by rw [HE.out]; rfl, by rw [HE.out]; exact hq1, by rw [HE.out]; exact hC1, hB3⟩

  · have hre : addR out p l = (l, wrongAdd out p l) := by unfold addR; exact if_neg he
    have HE := Lib.hid hre
    have heb : (wrongAdd out p l != 0) = true := by simpa using he
    generalize wrongAdd out p l = rr at *
    obtain ⟨A1, q1, rfl, hq1, hC1⟩ := Kd.R_reads hR2
    have HC1 := Lib.hid hC1
    clear he hre hR2 hC1
    go_wp2_with (fail)
    refine bodyPost_ret (results_tmp2 (fn := Try.f34) (t := 4) (u := 5) rfl _ _ _) rfl ?_
    exact ⟨A1, q1, by rw [HE.out]; rfl, by rw [HE.out]; exact hq1, by rw [HE.out]; exact HC1.out, hB2⟩

set_option maxRecDepth 100000 in
set_option maxHeartbeats 4000000 in
theorem do_drain (out k : Int) (p : Pl) (b : Value) (A : Option Addr) (c : Nat) (l : List Pl) (w : World) (hR : Kd.C kP w A l.length l) (hc : l.length ≤ c) (hl : l.length ≤ 1000) (hb1 : b.oneCell' = true) :
    Calls Try.prog 34 #[.agg (cvs 1 out k p b), .slice A l.length c] w (PoolEnd (drainR out k l) w) := by
  have bC := BoxC.new w 1 out k p b
  have hB0 : Below w.heap.size w (w.alloc (.cells (cvs 1 out k p b) 48)) := below_alloc (Below.refl _ _) _
  have HR := Lib.hid hR
  have BC := Lib.hid bC
  clear hR bC
  go_enter Try.func34, Try.ntmps34
  go_wp2_with (fail)
  refine (cloneP_calls A c l _ (Kd.C_alloc HR.out _) hc (by omega)).mono ?_
  rintro e w1 ⟨v1, rfl, hR1, hb1⟩
  have hB1 : Below w.heap.size w w1 := hB0.trans (hb1.mono (by simp))
  have bC1 := BC.out.below hb1
  obtain ⟨c0, c1, c2, c3, c4, c5, c6'⟩ := bC1.cell
  have BC1 := Lib.hid bC1
  clear bC1 hb1
  go_wp2_with (fail)
  refine (wrong_drain out k p b A c l w1 (Kd.C_below HR.out hB1) hc hb1).mono ?_
  rintro e w2 ⟨rfl, hb2⟩
  have hB2 : Below w.heap.size w w2 := hB1.trans (hb2.mono hB1.size)
  have bC2 := BC1.out.below hb2
  obtain ⟨d0, d1, d2, d3, d4, d5, d6'⟩ := bC2.cell
  have hR2 := Kd.R_lower (Kd.R_below hR1 hb2) (show w.heap.size ≤ _ by simp)
  clear bC2 hb2 hR1 c0 c1 c2 c3 c4 c5 c6'
  by_cases he : wrongDrain out k l = 0
  · have hin := wrongDrain_in he
    have hre : drainR out k l = (l.set k.toNat ⟨(getP l k).f0, (getP l k).f1, 1⟩, 0) := by unfold drainR; exact if_pos he
    have HE := Lib.hid hre
    rw [he]
    clear he hre
    obtain ⟨kk, rfl⟩ := Int.eq_ofNat_of_zero_le hin.1
    have hkk : kk < l.length := by omega
    have hki : (kk : Int) < (l.length : Int) := by omega
    obtain ⟨g, cap, rfl, hg1, hg2⟩ := own_form hR2 (by omega)
    obtain ⟨_, hcap, hC2⟩ := Kd.R_reads' hR2
    have hgg : getP l (kk : Int) = l[kk] := by unfold getP; simp [List.getD_eq_getElem?_getD, hkk]
    have hcs := own_cells hR2 (kk * 3 + 2) (by omega)
    obtain ⟨u0, hu0⟩ := Option.isSome_iff_exists.1 hcs.1
    have hfz := hcs.2
    have hCf := C_field hC2 kk 2 hkk (by omega) (⟨(getP l (kk : Int)).f0, (getP l (kk : Int)).f1, 1⟩) (.int .i64 1) (by rw [hgg]; rfl)
    have hBf : Below w.heap.size w (w2.setCell ⟨g, kk * 3 + 2, none⟩ (.int .i64 1)) := hB2.setCell (p := ⟨g, kk * 3 + 2, none⟩) hg1 _
    have HCF := Lib.hid hCf
    clear hcs hR2 hC2 hCf hgg
    go_wp2_with (fail)
    refine bodyPost_ret (results_tmp2 (fn := Try.f34) (t := 4) (u := 5) rfl _ _ _) rfl ?_
    exact ⟨some ⟨g, 0, none⟩, cap, by rw [HE.out]; simp, by rw [HE.out]; simpa using hcap, by rw [HE.out]; simpa using HCF.out, hBf⟩

  · have hre : drainR out k l = (l, wrongDrain out k l) := by unfold drainR; exact if_neg he
    have HE := Lib.hid hre
    have heb : (wrongDrain out k l != 0) = true := by simpa using he
    generalize wrongDrain out k l = rr at *
    obtain ⟨A1, q1, rfl, hq1, hC1⟩ := Kd.R_reads hR2
    have HC1 := Lib.hid hC1
    clear he hre hR2 hC1
    go_wp2_with (fail)
    refine bodyPost_ret (results_tmp2 (fn := Try.f34) (t := 4) (u := 5) rfl _ _ _) rfl ?_
    exact ⟨A1, q1, by rw [HE.out]; rfl, by rw [HE.out]; exact hq1, by rw [HE.out]; exact HC1.out, hB2⟩

set_option maxRecDepth 100000 in
set_option maxHeartbeats 4000000 in
theorem do_size (out k : Int) (p : Pl) (A6 : Option Addr) (c6 : Nat) (busy : List Int) (A : Option Addr) (c : Nat) (l : List Pl) (w : World) (hR : Kd.C kP w A l.length l) (hc : l.length ≤ c) (hl : l.length ≤ 1000) (hR6 : Kd.C (Kd.int .i64) w A6 busy.length busy) (hc6 : busy.length ≤ c6) :
    Calls Try.prog 34 #[.agg (cvs 2 out k p (.slice A6 busy.length c6)), .slice A l.length c] w (PoolEnd (sizeR out k p.f1 busy l) w) := by
  have bC := BoxC.new w 2 out k p (.slice A6 busy.length c6)
  have hB0 : Below w.heap.size w (w.alloc (.cells (cvs 2 out k p (.slice A6 busy.length c6)) 48)) := below_alloc (Below.refl _ _) _
  have HR := Lib.hid hR
  have BC := Lib.hid bC
  clear hR bC
  go_enter Try.func34, Try.ntmps34
  go_wp2_with (fail)
  refine (cloneP_calls A c l _ (Kd.C_alloc HR.out _) hc (by omega)).mono ?_
  rintro e w1 ⟨v1, rfl, hR1, hb1⟩
  have hB1 : Below w.heap.size w w1 := hB0.trans (hb1.mono (by simp))
  have bC1 := BC.out.below hb1
  obtain ⟨c0, c1, c2, c3, c4, c5, c6'⟩ := bC1.cell
  have BC1 := Lib.hid bC1
  clear bC1 hb1
  go_wp2_with (fail)
  refine (wrong_size out k p A6 c6 busy A c l w1 (Kd.C_below HR.out hB1) hc (Kd.C_below hR6 hB1) hc6).mono ?_
  rintro e w2 ⟨rfl, hb2⟩
  have hB2 : Below w.heap.size w w2 := hB1.trans (hb2.mono hB1.size)
  have bC2 := BC1.out.below hb2
  obtain ⟨d0, d1, d2, d3, d4, d5, d6'⟩ := bC2.cell
  have hR2 := Kd.R_lower (Kd.R_below hR1 hb2) (show w.heap.size ≤ _ by simp)
  clear bC2 hb2 hR1 c0 c1 c2 c3 c4 c5 c6'
  by_cases he : wrongSize out k p.f1 busy l = 0
  · have hin := wrongSize_in he
    have hre : sizeR out k p.f1 busy l = (l.set k.toNat (sizedP (getP l k) p.f1), 0) := by unfold sizeR; exact if_pos he
    have HE := Lib.hid hre
    rw [he]
    clear he hre
    obtain ⟨kk, rfl⟩ := Int.eq_ofNat_of_zero_le hin.1
    have hkk : kk < l.length := by omega
    have hki : (kk : Int) < (l.length : Int) := by omega
    obtain ⟨g, cap, rfl, hg1, hg2⟩ := own_form hR2 (by omega)
    obtain ⟨_, hcap, hC2⟩ := Kd.R_reads' hR2
    have hgg : getP l (kk : Int) = l[kk] := by unfold getP; simp [List.getD_eq_getElem?_getD, hkk]
    have hcs := own_cells hR2 (kk * 3 + 1) (by omega)
    obtain ⟨u0, hu0⟩ := Option.isSome_iff_exists.1 hcs.1
    have hfz := hcs.2
    have hCf := C_field hC2 kk 1 hkk (by omega) (sizedP (getP l (kk : Int)) p.f1) (.int .i64 p.f1) (by rw [hgg]; rfl)
    have hBf : Below w.heap.size w (w2.setCell ⟨g, kk * 3 + 1, none⟩ (.int .i64 p.f1)) := hB2.setCell (p := ⟨g, kk * 3 + 1, none⟩) hg1 _
    have HCF := Lib.hid hCf
    clear hcs hR2 hC2 hCf hgg
    go_wp2_with (fail)
    refine bodyPost_ret (results_tmp2 (fn := Try.f34) (t := 4) (u := 5) rfl _ _ _) rfl ?_
    exact ⟨some ⟨g, 0, none⟩, cap, by rw [HE.out]; simp, by rw [HE.out]; simpa using hcap, by rw [HE.out]; simpa using HCF.out, hBf⟩

  · have hre : sizeR out k p.f1 busy l = (l, wrongSize out k p.f1 busy l) := by unfold sizeR; exact if_neg he
    have HE := Lib.hid hre
    have heb : (wrongSize out k p.f1 busy l != 0) = true := by simpa using he
    generalize wrongSize out k p.f1 busy l = rr at *
    obtain ⟨A1, q1, rfl, hq1, hC1⟩ := Kd.R_reads hR2
    have HC1 := Lib.hid hC1
    clear he hre hR2 hC1
    go_wp2_with (fail)
    refine bodyPost_ret (results_tmp2 (fn := Try.f34) (t := 4) (u := 5) rfl _ _ _) rfl ?_
    exact ⟨A1, q1, by rw [HE.out]; rfl, by rw [HE.out]; exact hq1, by rw [HE.out]; exact HC1.out, hB2⟩

set_option maxRecDepth 100000 in
set_option maxHeartbeats 4000000 in
theorem do_gone (out k : Int) (p : Pl) (A6 : Option Addr) (c6 : Nat) (busy : List Int) (A : Option Addr) (c : Nat) (l : List Pl) (w : World) (hR : Kd.C kP w A l.length l) (hc : l.length ≤ c) (hl : l.length ≤ 1000) (hR6 : Kd.C (Kd.int .i64) w A6 busy.length busy) (hc6 : busy.length ≤ c6) :
    Calls Try.prog 34 #[.agg (cvs 3 out k p (.slice A6 busy.length c6)), .slice A l.length c] w (PoolEnd (goneR out k busy l) w) := by
  have bC := BoxC.new w 3 out k p (.slice A6 busy.length c6)
  have hB0 : Below w.heap.size w (w.alloc (.cells (cvs 3 out k p (.slice A6 busy.length c6)) 48)) := below_alloc (Below.refl _ _) _
  have HR := Lib.hid hR
  have BC := Lib.hid bC
  clear hR bC
  go_enter Try.func34, Try.ntmps34
  go_wp2_with (fail)
  refine (cloneP_calls A c l _ (Kd.C_alloc HR.out _) hc (by omega)).mono ?_
  rintro e w1 ⟨v1, rfl, hR1, hb1⟩
  have hB1 : Below w.heap.size w w1 := hB0.trans (hb1.mono (by simp))
  have bC1 := BC.out.below hb1
  obtain ⟨c0, c1, c2, c3, c4, c5, c6'⟩ := bC1.cell
  have BC1 := Lib.hid bC1
  clear bC1 hb1
  go_wp2_with (fail)
  refine (wrong_gone out k p A6 c6 busy A c l w1 (Kd.C_below HR.out hB1) hc (Kd.C_below hR6 hB1) hc6).mono ?_
  rintro e w2 ⟨rfl, hb2⟩
  have hB2 : Below w.heap.size w w2 := hB1.trans (hb2.mono hB1.size)
  have bC2 := BC1.out.below hb2
  obtain ⟨d0, d1, d2, d3, d4, d5, d6'⟩ := bC2.cell
  have hR2 := Kd.R_lower (Kd.R_below hR1 hb2) (show w.heap.size ≤ _ by simp)
  clear bC2 hb2 hR1 c0 c1 c2 c3 c4 c5 c6'
  by_cases he : wrongGone out k busy l = 0
  · have hin := wrongGone_in he
    have hre : goneR out k busy l = (l.eraseIdx k.toNat, 0) := by unfold goneR; exact if_pos he
    have HE := Lib.hid hre
    rw [he]
    clear he hre
    obtain ⟨kk, rfl⟩ := Int.eq_ofNat_of_zero_le hin.1
    have hkk : kk < l.length := by omega
    obtain ⟨g, cap, rfl, hg1, hg2⟩ := own_form hR2 (by omega)
    have HD := Lib.hid (delete_calls g cap w.heap.size l kk w2 hR2 hkk hl hB2.size)
    have hkb : (kk : Int) ≤ 1000 := by omega
    clear hR2
    go_wp2_with (fail)
    refine HD.out.mono ?_
    rintro e w3 ⟨rfl, hq3, hC3, hg3⟩
    have hB3 : Below w.heap.size w w3 := hB2.grown hg3 hB2.size (fun j e => by cases e; exact hg1)
    have HC3 := Lib.hid hC3
    clear hC3 hg3
    go_wp2_with (fail)
    refine bodyPost_ret (results_tmp2 (fn := Try.f34) (t := 4) (u := 5) rfl _ _ _) rfl ?_
    exact ⟨some ⟨g, 0, none⟩, cap, by rw [HE.out]; rfl, by rw [HE.out]; exact hq3, by rw [HE.out]; exact HC3.out, hB3⟩

  · have hre : goneR out k busy l = (l, wrongGone out k busy l) := by unfold goneR; exact if_neg he
    have HE := Lib.hid hre
    have heb : (wrongGone out k busy l != 0) = true := by simpa using he
    generalize wrongGone out k busy l = rr at *
    obtain ⟨A1, q1, rfl, hq1, hC1⟩ := Kd.R_reads hR2
    have HC1 := Lib.hid hC1
    clear he hre hR2 hC1
    go_wp2_with (fail)
    refine bodyPost_ret (results_tmp2 (fn := Try.f34) (t := 4) (u := 5) rfl _ _ _) rfl ?_
    exact ⟨A1, q1, by rw [HE.out]; rfl, by rw [HE.out]; exact hq1, by rw [HE.out]; exact HC1.out, hB2⟩

end Go.Proofs.Ytajofhjlkaenhaa.H
