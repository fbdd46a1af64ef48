import Derived.Test.YtajofhjlkaenhaaPoolG
/-! Layer 11: Add, Drain, Size, Gone, Gives, Same, walked. -/
namespace Go.Proofs.Ytajofhjlkaenhaa.H
open Go.RowKit Go.Proofs.YtajofhjlkaenhaaW.PrintWords Go.Proofs.YtajofhjlkaenhaaW.PrintLast Go.Proofs.YtajofhjlkaenhaaW.PrintMore
set_option linter.unusedVariables false
set_option linter.unusedSimpArgs false

set_option maxHeartbeats 1000000 in
theorem add_calls (A : Option Addr) (c : Nat) (l : List Pl) (out from_ n : Int) (w : World) (hR : Kd.C kP w A l.length l) (hc : l.length ≤ c) (hl : l.length ≤ 1000) :
    Calls Try.prog 14 #[.slice A l.length c, .int .i64 out, .int .i64 from_, .int .i64 n] w (PoolEnd (addR out ⟨from_, n, 0⟩ l) w) := by
  go_enter Try.func14, Try.ntmps14
  go_wp2_with (fail)
  refine (do_add out 0 ⟨from_, n, 0⟩ (.slice none 0 0) A c l w hR hc hl rfl).mono ?_
  rintro e w1 ⟨A', c', rfl, h1, h2, h3⟩
  generalize addR out ⟨from_, n, 0⟩ l = r at *
  go_wp2_with (fail)
  refine bodyPost_ret (results_tmp2 (fn := Try.f14) (t := 8) (u := 9) rfl _ _ _) rfl ?_
  exact ⟨A', c', rfl, h1, h2, h3⟩
set_option maxHeartbeats 1000000 in
theorem drain_calls (A : Option Addr) (c : Nat) (l : List Pl) (out k : Int) (w : World) (hR : Kd.C kP w A l.length l) (hc : l.length ≤ c) (hl : l.length ≤ 1000) :
    Calls Try.prog 18 #[.slice A l.length c, .int .i64 out, .int .i64 k] w (PoolEnd (drainR out k l) w) := by
  go_enter Try.func18, Try.ntmps18
  go_wp2_with (fail)
  refine (do_drain out k ⟨0, 0, 0⟩ (.slice none 0 0) A c l w hR hc hl rfl).mono ?_
  rintro e w1 ⟨A', c', rfl, h1, h2, h3⟩
  generalize drainR out k l = r at *
  go_wp2_with (fail)
  refine bodyPost_ret (results_tmp2 (fn := Try.f18) (t := 6) (u := 7) rfl _ _ _) rfl ?_
  exact ⟨A', c', rfl, h1, h2, h3⟩
set_option maxHeartbeats 1000000 in
theorem size_calls (A : Option Addr) (c : Nat) (l : List Pl) (out k n : Int) (A6 : Option Addr) (c6 : Nat) (busy : List Int) (w : World) (hR : Kd.C kP w A l.length l) (hc : l.length ≤ c) (hl : l.length ≤ 1000) (hR6 : Kd.C (Kd.int .i64) w A6 busy.length busy) (hc6 : busy.length ≤ c6) :
    Calls Try.prog 16 #[.slice A l.length c, .int .i64 out, .int .i64 k, .int .i64 n, .slice A6 busy.length c6] w (PoolEnd (sizeR out k n busy l) w) := by
  go_enter Try.func16, Try.ntmps16
  go_wp2_with (fail)
  refine (do_size out k ⟨0, n, 0⟩ A6 c6 busy A c l w hR hc hl hR6 hc6).mono ?_
  rintro e w1 ⟨A', c', rfl, h1, h2, h3⟩
  have e1 : sizeR out k (⟨0, n, 0⟩ : Pl).f1 busy l = sizeR out k n busy l := rfl
  rw [e1] at h1 h2 ⊢
  generalize sizeR out k n busy l = r at *
  go_wp2_with (fail)
  refine bodyPost_ret (results_tmp2 (fn := Try.f16) (t := 10) (u := 11) rfl _ _ _) rfl ?_
  exact ⟨A', c', rfl, h1, h2, h3⟩
set_option maxHeartbeats 1000000 in
theorem gone_calls (A : Option Addr) (c : Nat) (l : List Pl) (out k : Int) (A6 : Option Addr) (c6 : Nat) (busy : List Int) (w : World) (hR : Kd.C kP w A l.length l) (hc : l.length ≤ c) (hl : l.length ≤ 1000) (hR6 : Kd.C (Kd.int .i64) w A6 busy.length busy) (hc6 : busy.length ≤ c6) :
    Calls Try.prog 21 #[.slice A l.length c, .int .i64 out, .int .i64 k, .slice A6 busy.length c6] w (PoolEnd (goneR out k busy l) w) := by
  go_enter Try.func21, Try.ntmps21
  go_wp2_with (fail)
  refine (do_gone out k ⟨0, 0, 0⟩ A6 c6 busy A c l w hR hc hl hR6 hc6).mono ?_
  rintro e w1 ⟨A', c', rfl, h1, h2, h3⟩
  generalize goneR out k busy l = r at *
  go_wp2_with (fail)
  refine bodyPost_ret (results_tmp2 (fn := Try.f21) (t := 8) (u := 9) rfl _ _ _) rfl ?_
  exact ⟨A', c', rfl, h1, h2, h3⟩

theorem same_loop (x y : List Pl) (hl : x.length = y.length) (hb : x.length ≤ 4611686018427387904) (d : Nat) : ∀ (k i : Nat), i + d = x.length → d < k →
    B.api_Pool.l0 k x y (x.length : Int) (i : Int) = some (decide (x.drop i = y.drop i)) := by
  induction d with
  | zero =>
    intro k i hd hk
    obtain ⟨k, rfl⟩ : ∃ m, k = m + 1 := ⟨k - 1, by omega⟩
    simp only [B.api_Pool.l0]
    rw [if_neg (show ¬ (i : Int) < x.length by omega)]
    have h1 : x.drop i = [] := List.drop_eq_nil_iff.2 (by omega)
    have h2 : y.drop i = [] := List.drop_eq_nil_iff.2 (by omega)
    rw [h1, h2]
    rfl
  | succ d ih =>
    intro k i hd hk
    obtain ⟨k, rfl⟩ : ∃ m, k = m + 1 := ⟨k - 1, by omega⟩
    have h1 : i < x.length := by omega
    have h2 : i < y.length := by omega
    have e1 : x.drop i = x[i] :: x.drop (i + 1) := List.drop_eq_getElem_cons h1
    have e2 : y.drop i = y[i] :: y.drop (i + 1) := List.drop_eq_getElem_cons h2
    have r1 : B.rd_T27 x (i : Int) = x[i] := by unfold B.rd_T27; simp [List.getD_eq_getElem?_getD, h1]
    have r2 : B.rd_T27 y (i : Int) = y[i] := by unfold B.rd_T27; simp [List.getD_eq_getElem?_getD, h2]
    have hw : wrap64 ((i : Int) + 1) = ((i + 1 : Nat) : Int) := by unfold wrap64; omega
    simp only [B.api_Pool.l0]
    rw [if_pos (show (i : Int) < x.length by omega), if_pos (show (0 : Int) ≤ i by omega), if_pos (show (i : Int) < x.length by omega), if_pos (show (i : Int) < y.length by omega), r1, r2, hw]
    by_cases h : x[i] = y[i]
    · rw [if_neg (by rw [h]; simp), ih k (i + 1) (by omega) (by omega), e1, e2, h]
      congr 1
      apply decide_eq_decide.2
      rw [List.cons.injEq]
      exact ⟨fun g => ⟨rfl, g⟩, fun g => g.2⟩
    · rw [if_pos, e1, e2]
      · have : ¬ (x[i] :: x.drop (i + 1) = y[i] :: y.drop (i + 1)) := fun g => h (by injection g)
        rw [decide_eq_false this]
      · simp only [Bool.or_eq_true, Bool.not_eq_true', beq_eq_false_iff_ne]
        refine Classical.byContradiction fun g => h ?_
        simp only [not_or, Decidable.not_not] at g
        exact pl_ext g.1 g.2.1 g.2.2
theorem same_tells (x y : List Pl) (hb : x.length ≤ 4611686018427387904) : B.pool_Same.f (x.length + 1) x y = some (decide (x = y)) := by
  unfold B.pool_Same.f B.api_Pool.f
  by_cases h : x.length = y.length
  · rw [if_pos (by omega)]
    have := same_loop x y h hb x.length (x.length + 1) 0 (by omega) (by omega)
    simp only [Int.natCast_zero, List.drop_zero] at this
    rw [this]
    rfl
  · rw [if_neg (by omega), decide_eq_false (fun e => h (by rw [e]))]
    rfl
theorem same_calls (A : Option Addr) (c : Nat) (x : List Pl) (A' : Option Addr) (c' : Nat) (y : List Pl) (b : Bool) (hb : decide (x = y) = b) (w : World) (hR : Kd.C kP w A x.length x) (hc : x.length ≤ c) (hR' : Kd.C kP w A' y.length y) (hc' : y.length ≤ c') (hl : x.length ≤ 4611686018427387904) :
    Calls Try.prog 15 #[.slice A x.length c, .slice A' y.length c'] w fun e w' => e = .returned (.bool b) ∧ Below w.heap.size w w' :=
  (B.pool_Same.calls (x.length + 1) A c x A' c' y b w hR hc hR' hc' (by rw [same_tells x y hl, hb])).mono fun e w' h => ⟨h.1, h.2.below⟩

theorem ofP_range (l : List Pl) (x : Int) : ofP l x = -1 ∨ (0 ≤ ofP l x ∧ ofP l x < l.length) := by
  rcases idxP_range (fun p => hasP p x) l 0 (by omega) with ⟨h1, _⟩ | ⟨h1, h2, _⟩
  · exact .inl h1
  · exact .inr ⟨h1, by unfold ofP; omega⟩

set_option maxHeartbeats 1000000 in
theorem gives_calls (A : Option Addr) (c : Nat) (l : List Pl) (x : Int) (w : World) (hR : Kd.C kP w A l.length l) (hc : l.length ≤ c) :
    Calls Try.prog 13 #[.slice A l.length c, .int .i64 x] w fun e w' => e = .returned (.bool (givesP l x)) ∧ Below w.heap.size w w' := by
  have hr := ofP_range l x
  have hg : givesP l x = (decide (ofP l x ≠ -1) && decide ((getP l (ofP l x)).f2 = 0)) := rfl
  have HG := Lib.hid hg
  clear hg
  go_enter Try.func13, Try.ntmps13
  go_wp2_with (fail)
  refine (of_calls A c l x w hR hc).mono ?_
  rintro e w1 ⟨rfl, hb1⟩
  have hC1 := Kd.C_below hR hb1
  generalize ofP l x = i at *
  rcases hr with rfl | ⟨h0, h1⟩
  · go_wp2_with (fail)
    go_ret
    exact ⟨by rw [HG.out]; rfl, hb1⟩
  · obtain ⟨kk, rfl⟩ := Int.eq_ofNat_of_zero_le h0
    have hkk : kk < l.length := by omega
    obtain ⟨ad, rfl, c0, c1, c2⟩ := at_pool hC1 kk hkk
    have hgg : getP l (kk : Int) = l[kk] := by unfold getP; simp [List.getD_eq_getElem?_getD, hkk]
    have hne : ((kk : Int) != -1) = true := by rw [bne_iff_ne]; omega
    have hv : givesP l x = (l[kk].f2 == 0) := by
      rw [HG.out, hgg, decide_eq_true (by omega)]
      by_cases h : l[kk].f2 = 0 <;> simp [h]
    generalize l[kk] = y at *
    have HV := Lib.hid hv
    clear hv hgg HG
    go_wp2_with (fail)
    go_ret
    exact ⟨by rw [HV.out]; rfl, hb1⟩
end Go.Proofs.Ytajofhjlkaenhaa.H
