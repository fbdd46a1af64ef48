import Derived.Test.YtajofhjlkaenhaaPoolD
/-! Layer 11: why a change can't be done, walked. -/
namespace Go.Proofs.Ytajofhjlkaenhaa.H
open Go.RowKit Go.Proofs.YtajofhjlkaenhaaW.PrintWords Go.Proofs.YtajofhjlkaenhaaW.PrintLast Go.Proofs.YtajofhjlkaenhaaW.PrintMore
set_option linter.unusedVariables false
set_option linter.unusedSimpArgs false

/-- What stands behind May's call in 'wrong': the boxes, and the answer. -/
theorem wrong_boxes (what out k : Int) (p : Pl) (b : Value) (sl : Value) (w w1 : World) (hb : Below ((w.alloc (.cells (cvs what out k p b) 48)).alloc (.cells #[sl] 22)).heap.size ((w.alloc (.cells (cvs what out k p b) 48)).alloc (.cells #[sl] 22)) w1) :
    BoxC w1 w.heap.size what out k p b ∧ Boxed w1 (w.heap.size + 1) 22 sl ∧ Below w.heap.size w w1 := by
  have h0 : Below w.heap.size w (w.alloc (.cells (cvs what out k p b) 48)) := below_alloc (Below.refl _ _) _
  have h1 := below_alloc h0 (.cells #[sl] 22)
  refine ⟨((BoxC.new w what out k p b).below (below_alloc (Below.refl _ _) _)).below hb, ?_, h1.trans (hb.mono (by simp; omega))⟩
  have bN := Boxed.new (w.alloc (.cells (cvs what out k p b) 48)) 22 sl
  rw [World.size_alloc] at bN
  exact (hb.block _ bN.lt).trans bN

def wrongAdd (out : Int) (p : Pl) (l : List Pl) : Int := cond (maysP l out) (roomP out l (-1) p) 1
def wrongDrain (out k : Int) (l : List Pl) : Int := cond (maysP l out) (if k < 0 ∨ (l.length : Int) ≤ k then 5 else if (getP l k).f2 = 1 then 11 else 0) 1
def sizedP (y : Pl) (n : Int) : Pl := ⟨y.f0, n, y.f2⟩
def wrongSize (out k n : Int) (busy : List Int) (l : List Pl) : Int :=
  cond (maysP l out) (if k < 0 ∨ (l.length : Int) ≤ k then 5 else if roomP out l k (sizedP (getP l k) n) = 0 then (if lostP (getP l k) busy (sizedP (getP l k) n) = true then 12 else 0) else roomP out l k (sizedP (getP l k) n)) 1
def wrongGone (out k : Int) (busy : List Int) (l : List Pl) : Int :=
  cond (maysP l out) (if k < 0 ∨ (l.length : Int) ≤ k then 5 else if (getP l k).f2 = 0 then 12 else if lostP (getP l k) busy ⟨0, 0, 0⟩ = true then 12 else 0) 1

set_option maxRecDepth 100000 in
set_option maxHeartbeats 4000000 in
theorem wrong_add (out k : Int) (p : Pl) (b : Value) (A : Option Addr) (c : Nat) (l : List Pl) (w : World) (hR : Kd.C kP w A l.length l) (hc : l.length ≤ c) (hb1 : b.oneCell' = true) :
    Calls Try.prog 41 #[.agg (cvs 0 out k p b), .slice A l.length c] w fun e w' => e = .returned (.int .i64 (wrongAdd out p l)) ∧ Below w.heap.size w w' := by
  have hRa := Kd.C_alloc (Kd.C_alloc hR (.cells (cvs 0 out k p b) 48)) (.cells #[.slice A l.length c] 22)
  have hno : maysP l out = false → wrongAdd out p l = 1 := fun h => by unfold wrongAdd; rw [h]; rfl
  have hyes : maysP l out = true → wrongAdd out p l = _ := fun h => by unfold wrongAdd; rw [h]
  have HNO := Lib.hid hno
  have HYES := Lib.hid hyes
  clear hno hyes
  go_enter Try.func41, Try.ntmps41
  go_wp2_with (fail)
  refine (may_calls A c l out _ hRa hc).mono ?_
  rintro e w1 ⟨rfl, hm⟩
  obtain ⟨bC, bL, hB⟩ := wrong_boxes 0 out k p b _ w w1 hm
  clear hm hRa
  cases hmay : maysP l out with
  | false =>
    have HV := Lib.hid (HNO.out hmay)
    clear bC bL hmay
    go_wp2_with (fail)
    go_ret
    exact ⟨by rw [HV.out]; rfl, hB⟩
  | true =>
    have ho : out ≤ 4 := by
      unfold maysP at hmay
      simp only [Bool.and_eq_true, decide_eq_true_eq] at hmay
      exact hmay.1.2.1
    have HV1 := Lib.hid (HYES.out hmay)
    obtain ⟨c0, c1, c2, c3, c4, c5, c6'⟩ := bC.cell
    have cl := bL.cell
    have HR := Lib.hid hR
    have BC := Lib.hid bC
    have BL := Lib.hid bL
    clear bC bL hR hmay
    go_wp2_with (fail)
    refine (room_calls 0 out k p b A c l (-1) p w1 (Kd.C_below HR.out hB) hc ho hb1).mono ?_
    rintro e w2 ⟨rfl, hb2⟩
    go_wp2_with (fail)
    go_ret
    exact ⟨by rw [HV1.out]; rfl, hB.trans (hb2.mono hB.size)⟩

set_option maxRecDepth 100000 in
set_option maxHeartbeats 4000000 in
theorem wrong_drain (out k : Int) (p : Pl) (b : Value) (A : Option Addr) (c : Nat) (l : List Pl) (w : World) (hR : Kd.C kP w A l.length l) (hc : l.length ≤ c) (hb1 : b.oneCell' = true) :
    Calls Try.prog 41 #[.agg (cvs 1 out k p b), .slice A l.length c] w fun e w' => e = .returned (.int .i64 (wrongDrain out k l)) ∧ Below w.heap.size w w' := by
  have hRa := Kd.C_alloc (Kd.C_alloc hR (.cells (cvs 1 out k p b) 48)) (.cells #[.slice A l.length c] 22)
  have hno : maysP l out = false → wrongDrain out k l = 1 := fun h => by unfold wrongDrain; rw [h]; rfl
  have hyes : maysP l out = true → wrongDrain out k l = _ := fun h => by unfold wrongDrain; rw [h]
  have HNO := Lib.hid hno
  have HYES := Lib.hid hyes
  clear hno hyes
  go_enter Try.func41, Try.ntmps41
  go_wp2_with (fail)
  refine (may_calls A c l out _ hRa hc).mono ?_
  rintro e w1 ⟨rfl, hm⟩
  obtain ⟨bC, bL, hB⟩ := wrong_boxes 1 out k p b _ w w1 hm
  clear hm hRa
  cases hmay : maysP l out with
  | false =>
    have HV := Lib.hid (HNO.out hmay)
    clear bC bL hmay
    go_wp2_with (fail)
    go_ret
    exact ⟨by rw [HV.out]; rfl, hB⟩
  | true =>
    have ho : out ≤ 4 := by
      unfold maysP at hmay
      simp only [Bool.and_eq_true, decide_eq_true_eq] at hmay
      exact hmay.1.2.1
    have HV1 := Lib.hid (HYES.out hmay)
    obtain ⟨c0, c1, c2, c3, c4, c5, c6'⟩ := bC.cell
    have cl := bL.cell
    have HR := Lib.hid hR
    have BC := Lib.hid bC
    have BL := Lib.hid bL
    clear bC bL hR hmay
    by_cases hk0 : k < 0
    · have HV := Lib.hid (HV1.out.trans (if_pos (.inl hk0)))
      go_wp2_with (fail)
      go_ret
      exact ⟨by rw [HV.out]; rfl, hB⟩
    · by_cases hk1 : (l.length : Int) ≤ k
      · have HV := Lib.hid (HV1.out.trans (if_pos (.inr hk1)))
        go_wp2_with (fail)
        go_ret
        exact ⟨by rw [HV.out]; rfl, hB⟩
      · have HV0 := Lib.hid (HV1.out.trans (if_neg (fun h => h.elim hk0 hk1)))
        obtain ⟨kk, rfl⟩ := Int.eq_ofNat_of_zero_le (show 0 ≤ k by omega)
        have hkk : kk < l.length := by omega
        have hki : (kk : Int) < (l.length : Int) := by omega
        obtain ⟨ad, rfl, h0, h1, h2⟩ := at_pool (Kd.C_below HR.out hB) kk hkk
        have hg : getP l (kk : Int) = l[kk] := by unfold getP; simp [List.getD_eq_getElem?_getD, hkk]
        rw [hg] at HV0
        clear hk0 hk1 hg HV1
        generalize l[kk] = y at *
        by_cases hs : y.f2 = 1
        · have hsb : (y.f2 == 1) = true := by simpa using hs
          have HV := Lib.hid (HV0.out.trans (if_pos hs))
          clear hs
          go_wp2_with (fail)
          go_ret
          exact ⟨by rw [HV.out]; rfl, hB⟩
        · have hsb : (y.f2 == 1) = false := by simpa using hs
          have HV := Lib.hid (HV0.out.trans (if_neg hs))
          clear hs
          go_wp2_with (fail)
          go_ret
          exact ⟨by rw [HV.out]; rfl, hB⟩

set_option maxRecDepth 100000 in
set_option maxHeartbeats 4000000 in
theorem wrong_gone (out k : Int) (p : Pl) (A6 : Option Addr) (c6 : Nat) (busy : List Int) (A : Option Addr) (c : Nat) (l : List Pl) (w : World) (hR : Kd.C kP w A l.length l) (hc : l.length ≤ c) (hR6 : Kd.C (Kd.int .i64) w A6 busy.length busy) (hc6 : busy.length ≤ c6) :
    Calls Try.prog 41 #[.agg (cvs 3 out k p (.slice A6 busy.length c6)), .slice A l.length c] w fun e w' => e = .returned (.int .i64 (wrongGone out k busy l)) ∧ Below w.heap.size w w' := by
  have hRa := Kd.C_alloc (Kd.C_alloc hR (.cells (cvs 3 out k p (.slice A6 busy.length c6)) 48)) (.cells #[.slice A l.length c] 22)
  have hno : maysP l out = false → wrongGone out k busy l = 1 := fun h => by unfold wrongGone; rw [h]; rfl
  have hyes : maysP l out = true → wrongGone out k busy l = _ := fun h => by unfold wrongGone; rw [h]
  have HNO := Lib.hid hno
  have HYES := Lib.hid hyes
  clear hno hyes
  go_enter Try.func41, Try.ntmps41
  go_wp2_with (fail)
  refine (may_calls A c l out _ hRa hc).mono ?_
  rintro e w1 ⟨rfl, hm⟩
  obtain ⟨bC, bL, hB⟩ := wrong_boxes 3 out k p (.slice A6 busy.length c6) _ w w1 hm
  clear hm hRa
  cases hmay : maysP l out with
  | false =>
    have HV := Lib.hid (HNO.out hmay)
    clear bC bL hmay
    go_wp2_with (fail)
    go_ret
    exact ⟨by rw [HV.out]; rfl, hB⟩
  | true =>
    have ho : out ≤ 4 := by
      unfold maysP at hmay
      simp only [Bool.and_eq_true, decide_eq_true_eq] at hmay
      exact hmay.1.2.1
    have HV1 := Lib.hid (HYES.out hmay)
    obtain ⟨c0, c1, c2, c3, c4, c5, c6'⟩ := bC.cell
    have cl := bL.cell
    have HR := Lib.hid hR
    have BC := Lib.hid bC
    have BL := Lib.hid bL
    clear bC bL hR hmay
    by_cases hk0 : k < 0
    · have HV := Lib.hid (HV1.out.trans (if_pos (.inl hk0)))
      go_wp2_with (fail)
      go_ret
      exact ⟨by rw [HV.out]; rfl, hB⟩
    · by_cases hk1 : (l.length : Int) ≤ k
      · have HV := Lib.hid (HV1.out.trans (if_pos (.inr hk1)))
        go_wp2_with (fail)
        go_ret
        exact ⟨by rw [HV.out]; rfl, hB⟩
      · have HV0 := Lib.hid (HV1.out.trans (if_neg (fun h => h.elim hk0 hk1)))
        obtain ⟨kk, rfl⟩ := Int.eq_ofNat_of_zero_le (show 0 ≤ k by omega)
        have hkk : kk < l.length := by omega
        have hki : (kk : Int) < (l.length : Int) := by omega
        obtain ⟨ad, rfl, h0, h1, h2⟩ := at_pool (Kd.C_below HR.out hB) kk hkk
        have hg : getP l (kk : Int) = l[kk] := by unfold getP; simp [List.getD_eq_getElem?_getD, hkk]
        rw [hg] at HV0
        clear hk0 hk1 hg HV1
        have hL := fun (q : Pl) (W : World) (hW : Below w1.heap.size w1 W) => wrong1_calls (w.heap.size + 1) w.heap.size (some ad) c l 3 out kk p q A6 c6 busy W (Kd.C_below HR.out (hB.trans (hW.mono hB.size))) hkk (Kd.C_below hR6 (hB.trans (hW.mono hB.size))) hc6 ((hW.block _ BL.out.lt).trans BL.out) (BC.out.below hW)
        generalize l[kk] = y at *
        have hLc := hL ⟨0, 0, 0⟩ w1 (Below.refl _ _)
        have HLC := Lib.hid hLc
        clear hL hLc
        by_cases hs : y.f2 = 0
        · have hsb : (y.f2 == 0) = true := by simpa using hs
          have HV := Lib.hid (HV0.out.trans (if_pos hs))
          clear hs
          go_wp2_with (fail)
          go_ret
          exact ⟨by rw [HV.out]; rfl, hB⟩
        · have hsb : (y.f2 == 0) = false := by simpa using hs
          have HV := Lib.hid (HV0.out.trans (if_neg hs))
          clear hs
          go_wp2_with (fail)
          refine HLC.out.mono ?_
          rintro e w2 ⟨rfl, hb2⟩
          cases hlo : lostP y busy ⟨0, 0, 0⟩ with
          | true =>
            rw [hlo] at HV
            have HZ := Lib.hid (HV.out.trans (if_pos rfl))
            clear hlo HV
            go_wp2_with (fail)
            go_ret
            exact ⟨by rw [HZ.out]; rfl, hB.trans (hb2.mono hB.size)⟩
          | false =>
            rw [hlo] at HV
            have HZ := Lib.hid (HV.out.trans (if_neg (by decide)))
            clear hlo HV
            go_wp2_with (fail)
            go_ret
            exact ⟨by rw [HZ.out]; rfl, hB.trans (hb2.mono hB.size)⟩

set_option maxRecDepth 100000 in
set_option maxHeartbeats 4000000 in
theorem wrong_size (out k : Int) (p : Pl) (A6 : Option Addr) (c6 : Nat) (busy : List Int) (A : Option Addr) (c : Nat) (l : List Pl) (w : World) (hR : Kd.C kP w A l.length l) (hc : l.length ≤ c) (hR6 : Kd.C (Kd.int .i64) w A6 busy.length busy) (hc6 : busy.length ≤ c6) :
    Calls Try.prog 41 #[.agg (cvs 2 out k p (.slice A6 busy.length c6)), .slice A l.length c] w fun e w' => e = .returned (.int .i64 (wrongSize out k p.f1 busy l)) ∧ Below w.heap.size w w' := by
  have hRa := Kd.C_alloc (Kd.C_alloc hR (.cells (cvs 2 out k p (.slice A6 busy.length c6)) 48)) (.cells #[.slice A l.length c] 22)
  have hno : maysP l out = false → wrongSize out k p.f1 busy l = 1 := fun h => by unfold wrongSize; rw [h]; rfl
  have hyes : maysP l out = true → wrongSize out k p.f1 busy l = _ := fun h => by unfold wrongSize; rw [h]
  have HNO := Lib.hid hno
  have HYES := Lib.hid hyes
  clear hno hyes
  go_enter Try.func41, Try.ntmps41
  go_wp2_with (fail)
  refine (may_calls A c l out _ hRa hc).mono ?_
  rintro e w1 ⟨rfl, hm⟩
  obtain ⟨bC, bL, hB⟩ := wrong_boxes 2 out k p (.slice A6 busy.length c6) _ w w1 hm
  clear hm hRa
  cases hmay : maysP l out with
  | false =>
    have HV := Lib.hid (HNO.out hmay)
    clear bC bL hmay
    go_wp2_with (fail)
    go_ret
    exact ⟨by rw [HV.out]; rfl, hB⟩
  | true =>
    have ho : out ≤ 4 := by
      unfold maysP at hmay
      simp only [Bool.and_eq_true, decide_eq_true_eq] at hmay
      exact hmay.1.2.1
    have HV1 := Lib.hid (HYES.out hmay)
    obtain ⟨c0, c1, c2, c3, c4, c5, c6'⟩ := bC.cell
    have cl := bL.cell
    have HR := Lib.hid hR
    have BC := Lib.hid bC
    have BL := Lib.hid bL
    clear bC bL hR hmay
    by_cases hk0 : k < 0
    · have HV := Lib.hid (HV1.out.trans (if_pos (.inl hk0)))
      go_wp2_with (fail)
      go_ret
      exact ⟨by rw [HV.out]; rfl, hB⟩
    · by_cases hk1 : (l.length : Int) ≤ k
      · have HV := Lib.hid (HV1.out.trans (if_pos (.inr hk1)))
        go_wp2_with (fail)
        go_ret
        exact ⟨by rw [HV.out]; rfl, hB⟩
      · have HV0 := Lib.hid (HV1.out.trans (if_neg (fun h => h.elim hk0 hk1)))
        obtain ⟨kk, rfl⟩ := Int.eq_ofNat_of_zero_le (show 0 ≤ k by omega)
        have hkk : kk < l.length := by omega
        have hki : (kk : Int) < (l.length : Int) := by omega
        obtain ⟨ad, rfl, h0, h1, h2⟩ := at_pool (Kd.C_below HR.out hB) kk hkk
        have hg : getP l (kk : Int) = l[kk] := by unfold getP; simp [List.getD_eq_getElem?_getD, hkk]
        rw [hg] at HV0
        clear hk0 hk1 hg HV1
        have hL := fun (q : Pl) (W : World) (hW : Below w1.heap.size w1 W) => wrong1_calls (w.heap.size + 1) w.heap.size (some ad) c l 2 out kk p q A6 c6 busy W (Kd.C_below HR.out (hB.trans (hW.mono hB.size))) hkk (Kd.C_below hR6 (hB.trans (hW.mono hB.size))) hc6 ((hW.block _ BL.out.lt).trans BL.out) (BC.out.below hW)
        have HLW := Lib.hid hL
        have hrm := fun (q : Pl) (W : World) (hW : Below w1.heap.size w1 W) => room_calls 2 out (kk : Int) p (.slice A6 busy.length c6) (some ad) c l (kk : Int) q W (Kd.C_below HR.out (hB.trans (hW.mono hB.size))) hc ho rfl
        have HRM := Lib.hid hrm
        generalize l[kk] = y at *
        have HBC := Lib.hid (show ∀ W, Below w1.heap.size w1 W → BoxC W w.heap.size 2 out kk p (.slice A6 busy.length c6) from fun W h => BC.out.below h)
        have d4 := (HBC.out _ (below_alloc (Below.refl _ w1) (.cells #[.int .i64 y.f0, .int .i64 y.f1, .int .i64 y.f2] 27))).cell
        have hne : w.heap.size ≠ w1.heap.size := by have := BC.out; have h9 := blk_lt this; omega
        have hne2 : w.heap.size + 1 ≠ w1.heap.size := by have := BL.out.lt; omega
        have hB2 : Below w1.heap.size w1 (w1.alloc (.cells #[.int .i64 y.f0, .int .i64 p.f1, .int .i64 y.f2] 27)) := below_alloc (Below.refl _ w1) _
        have d6 := (HBC.out _ hB2).cell
        have bQ : BoxP (w1.alloc (.cells #[.int .i64 y.f0, .int .i64 p.f1, .int .i64 y.f2] 27)) w1.heap.size (sizedP y p.f1) := BoxP.new w1 (sizedP y p.f1)
        have BQ := Lib.hid bQ
        have dl := Boxed.cell ((hB2.block _ BL.out.lt).trans BL.out)
        have q0 := bQ.c0
        have q1 := bQ.c1
        have q2 := bQ.c2
        obtain ⟨_, _, _, _, d44, _, _⟩ := d4
        obtain ⟨d60, d61, d62, d63, d64, d65, d66⟩ := d6
        have dl1 := ((below_alloc (Below.refl _ w1) (.cells #[.int .i64 y.f0, .int .i64 y.f1, .int .i64 y.f2] 27)).block _ BL.out.lt).trans BL.out
        clear bQ hL hrm
        go_wp2_with (fail)
        have hR0 := HRM.out (sizedP y p.f1) _ hB2
        refine hR0.mono ?_
        rintro e w2 ⟨rfl, hb2⟩
        have hB3 : Below w1.heap.size w1 w2 := hB2.trans (hb2.mono hB2.size)
        have hBw : Below w.heap.size w w2 := hB.trans (hB3.mono hB.size)
        have bQ2 := BQ.out.below hb2
        have r0 := bQ2.c0
        have r1 := bQ2.c1
        have r2 := bQ2.c2
        have hLL := HLW.out (sizedP y p.f1) w2 hB3
        have HLL := Lib.hid hLL
        clear hR0 bQ2 hLL q0 q1 q2 d44 d60 d61 d62 d63 d64 d65 d66 dl dl1 hb2
        by_cases hz : roomP out l (kk : Int) (sizedP y p.f1) = 0
        · have HZ := Lib.hid (HV0.out.trans (if_pos hz))
          rw [hz]
          clear hz HV0
          go_wp2_with (fail)
          refine HLL.out.mono ?_
          rintro e w3 ⟨rfl, hb3⟩
          have hB4 : Below w.heap.size w w3 := hBw.trans (hb3.mono hBw.size)
          cases hlo : lostP y busy (sizedP y p.f1) with
          | true =>
            rw [hlo] at HZ
            have HY := Lib.hid (HZ.out.trans (if_pos rfl))
            clear hlo HZ
            go_wp2_with (fail)
            go_ret
            exact ⟨by rw [HY.out]; rfl, hB4⟩
          | false =>
            rw [hlo] at HZ
            have HY := Lib.hid (HZ.out.trans (if_neg (by decide)))
            clear hlo HZ
            go_wp2_with (fail)
            go_ret
            exact ⟨by rw [HY.out]; rfl, hB4⟩
        · have HZ := Lib.hid (HV0.out.trans (if_neg hz))
          have hzb : (roomP out l (kk : Int) (sizedP y p.f1) != 0) = true := by simpa using hz
          generalize roomP out l (kk : Int) (sizedP y p.f1) = rr at *
          clear hz HV0
          go_wp2_with (fail)
          go_ret
          exact ⟨by rw [HZ.out]; rfl, hBw⟩

end Go.Proofs.Ytajofhjlkaenhaa.H
