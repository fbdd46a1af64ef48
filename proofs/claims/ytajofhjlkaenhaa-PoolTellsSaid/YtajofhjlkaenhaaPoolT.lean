import Derived.Test.YtajofhjlkaenhaaPoolS
/-! Layer 11: what the reference's printed functions tell. -/
namespace Go.Proofs.Ytajofhjlkaenhaa.H
open Go.RowKit Go.Proofs.YtajofhjlkaenhaaW.PrintWords Go.Proofs.YtajofhjlkaenhaaW.PrintLast Go.Proofs.YtajofhjlkaenhaaW.PrintMore
set_option linter.unusedVariables false
set_option linter.unusedSimpArgs false

theorem rd_at {l : List Pl} {i : Nat} (h : i < l.length) : B.rd_T27 l (i : Int) = l[i] := by unfold B.rd_T27; simp [List.getD_eq_getElem?_getD, h]
theorem wrap_nat {i : Nat} (h : i ≤ 4611686018427387904) : wrap64 ((i : Int) + 1) = ((i + 1 : Nat) : Int) := by unfold wrap64; omega
theorem refHas_tells (p : Pl) (x : Int) : B.mooringsref11_Has.f p.f0 p.f1 p.f2 x = some (hasP p x) := has_tells p x
theorem refFits_tells (p : Pl) (out : Int) (ho : out ≤ 4) : B.mooringsref11_fits.f p.f0 p.f1 p.f2 out = some (fitsP p out) := fits_tells p out ho
theorem refFits_some (p : Pl) (out : Int) : ∃ r, B.mooringsref11_fits.f p.f0 p.f1 p.f2 out = some r := by
  unfold B.mooringsref11_fits.f
  repeat (first | exact ⟨_, rfl⟩ | split)
theorem refMeet_loop (p q : Pl) (d : Nat) : ∀ (k i : Nat), i + d = 8 → d < k →
    B.mooringsref11_meet.l0 k (i : Int) p.f0 p.f1 p.f2 q.f0 q.f1 q.f2 = some ((List.range' i d).any fun x => hasP p (x : Int) && hasP q (x : Int)) := by
  induction d with
  | zero =>
    intro k i hd hk
    obtain ⟨k, rfl⟩ : ∃ m, k = m + 1 := ⟨k - 1, by omega⟩
    simp only [B.mooringsref11_meet.l0]
    rw [if_neg (show ¬ (i : Int) < 8 by omega)]
    rfl
  | succ d ih =>
    intro k i hd hk
    obtain ⟨k, rfl⟩ : ∃ m, k = m + 1 := ⟨k - 1, by omega⟩
    simp only [B.mooringsref11_meet.l0]
    rw [if_pos (show (i : Int) < 8 by omega), refHas_tells, refHas_tells, wrap_nat (by omega), ih k (i + 1) (by omega) (by omega), List.range'_succ, List.any_cons]
    cases hasP p (i : Int) <;> cases hasP q (i : Int) <;> rfl
theorem refMeet_tells {p q : Pl} {out : Int} (ho : out ≤ 4) (hp : fitsP p out = true) (hq : fitsP q out = true) (k : Nat) (hk : 8 < k) : B.mooringsref11_meet.f k p.f0 p.f1 p.f2 q.f0 q.f1 q.f2 = some (meetW p q) := by
  have h := refMeet_loop p q 8 k 0 rfl hk
  rw [Int.natCast_zero] at h
  unfold B.mooringsref11_meet.f
  rw [h]
  congr 1
  rw [Bool.eq_iff_iff, List.any_eq_true]
  have fp := fits_iff.1 hp
  have fq := fits_iff.1 hq
  constructor
  · rintro ⟨x, _, hx⟩
    rw [Bool.and_eq_true] at hx
    exact both_meet hx.1 hx.2
  · intro hm
    unfold meetW at hm
    have e1 : wrap64 (p.f0 + p.f1) = p.f0 + p.f1 := by unfold wrap64; omega
    have e2 : wrap64 (q.f0 + q.f1) = q.f0 + q.f1 := by unfold wrap64; omega
    rw [e1, e2, decide_eq_true_eq] at hm
    clear e1 e2
    refine ⟨(max p.f0 q.f0).toNat, ?_, ?_⟩
    · rw [List.mem_range'_1]
      omega
    · have hc : (((max p.f0 q.f0).toNat : Nat) : Int) = max p.f0 q.f0 := by omega
      rw [hc, Bool.and_eq_true, has_fits ho hp, has_fits ho hq, decide_eq_true_eq, decide_eq_true_eq]
      omega
theorem refMay_l1 {l : List Pl} {out : Int} (ho : out ≤ 4) (hl : l.length ≤ 3) {i : Nat} (hi : i < l.length) (hf : ∀ j (hj : j < l.length), j ≤ i → fitsP l[j] out = true) (F : Nat) (r : Bool) (hr : ∀ k, F ≤ k → B.mooringsref11_May.l0 k l out ((i + 1 : Nat) : Int) = some r) (d : Nat) :
    ∀ (k j : Nat), j + d = i → d + F + 10 ≤ k → B.mooringsref11_May.l1 k l out (i : Int) (j : Int) = some (!(((l.take i).drop j).any (meetW l[i])) && r) := by
  induction d with
  | zero =>
    intro k j hd hk
    obtain ⟨k, rfl⟩ : ∃ m, k = m + 1 := ⟨k - 1, by omega⟩
    simp only [B.mooringsref11_May.l1]
    rw [if_neg (show ¬ (j : Int) < i by omega), wrap_nat (by omega), hr k (by omega), List.drop_eq_nil_iff.2 (by simp; omega)]
    rfl
  | succ d ih =>
    intro k j hd hk
    obtain ⟨k, rfl⟩ : ∃ m, k = m + 1 := ⟨k - 1, by omega⟩
    have hj : j < l.length := by omega
    simp only [B.mooringsref11_May.l1]
    rw [if_pos (show (j : Int) < i by omega), if_pos (show (0 : Int) ≤ i by omega), if_pos (show (i : Int) < l.length by omega), if_pos (show (0 : Int) ≤ j by omega), if_pos (show (j : Int) < l.length by omega), rd_at hi, rd_at hj,
      refMeet_tells ho (hf i hi (by omega)) (hf j hj (by omega)) k (by omega), wrap_nat (by omega), ih k (j + 1) (by omega) (by omega)]
    have hjt : j < (l.take i).length := by simp; omega
    rw [List.drop_eq_getElem_cons hjt, List.any_cons, List.getElem_take]
    cases meetW l[i] l[j] <;> rfl
theorem refMay_l0 {l : List Pl} {out : Int} (ho : out ≤ 4) (hl : l.length ≤ 3) (d : Nat) :
    ∀ (i : Nat), i + d = l.length → (∀ j (hj : j < l.length), j < i → fitsP l[j] out = true) → ∀ k, 20 * d + 1 ≤ k → B.mooringsref11_May.l0 k l out (i : Int) = some (mayW (l.take i) (l.drop i) out) := by
  induction d with
  | zero =>
    intro i hd hf k hk
    obtain ⟨k, rfl⟩ : ∃ m, k = m + 1 := ⟨k - 1, by omega⟩
    simp only [B.mooringsref11_May.l0]
    rw [if_neg (show ¬ (i : Int) < l.length by omega), List.drop_eq_nil_iff.2 (by omega)]
    rfl
  | succ d ih =>
    intro i hd hf k hk
    obtain ⟨k, rfl⟩ : ∃ m, k = m + 1 := ⟨k - 1, by omega⟩
    have hi : i < l.length := by omega
    simp only [B.mooringsref11_May.l0]
    rw [if_pos (show (i : Int) < l.length by omega), if_pos (show (0 : Int) ≤ i by omega), rd_at hi, refFits_tells _ _ ho, mayW_drop l out i hi]
    cases hfi : fitsP l[i] out with
    | false => rfl
    | true =>
      have hf2 : ∀ j (hj : j < l.length), j ≤ i → fitsP l[j] out = true := by
        intro j hj hji
        rcases Nat.lt_or_ge j i with g | g
        · exact hf j hj g
        · obtain rfl : j = i := by omega
          exact hfi
      have h1 := refMay_l1 ho hl hi hf2 (20 * d + 1) _ (fun k hk => ih (i + 1) (by omega) (fun j hj hji => hf2 j hj (by omega)) k hk) i k 0 (by omega) (by omega)
      rw [Int.natCast_zero] at h1
      show (if true = true then B.mooringsref11_May.l1 k l out i 0 else some false) = _
      rw [if_pos rfl, h1, List.drop_zero, Bool.true_and]
theorem refMay_tells (l : List Pl) (out : Int) : B.mooringsref11_May.f 100 l out = some (maysP l out) := by
  unfold B.mooringsref11_May.f maysP
  by_cases h1 : out < 0
  · rw [if_pos h1, decide_eq_false (by omega)]
    rfl
  · rw [if_neg h1]
    by_cases h2 : out > 4
    · rw [if_pos h2, decide_eq_false (by omega)]
      rfl
    · rw [if_neg h2]
      by_cases h3 : l.length ≤ 3
      · rw [decide_eq_true (show 0 ≤ out ∧ out ≤ 4 ∧ l.length ≤ 3 by omega), decide_eq_false (by omega)]
        have := refMay_l0 (l := l) (out := out) (by omega) h3 l.length 0 (by omega) (fun j hj hji => by omega) 99 (by omega)
        simp only [B.mooringsref11_May.j0]
        rw [Int.natCast_zero] at this
        rw [if_neg (by decide), this]
        rfl
      · rw [decide_eq_false (show ¬ (0 ≤ out ∧ out ≤ 4 ∧ l.length ≤ 3) by omega), decide_eq_true (by omega)]
        rfl
theorem refOf_loop (l : List Pl) (x : Int) (hb : l.length ≤ 1000) (d : Nat) : ∀ (k i : Nat), i + d = l.length → d < k → B.mooringsref11_Of.l0 k l x (i : Int) = some (idxP (fun p => hasP p x) (l.drop i) (i : Int)) := by
  induction d with
  | zero =>
    intro k i hd hk
    obtain ⟨k, rfl⟩ : ∃ m, k = m + 1 := ⟨k - 1, by omega⟩
    simp only [B.mooringsref11_Of.l0]
    rw [if_neg (show ¬ (i : Int) < l.length by omega), List.drop_eq_nil_iff.2 (by omega)]
    rfl
  | succ d ih =>
    intro k i hd hk
    obtain ⟨k, rfl⟩ : ∃ m, k = m + 1 := ⟨k - 1, by omega⟩
    have hi : i < l.length := by omega
    simp only [B.mooringsref11_Of.l0]
    rw [if_pos (show (i : Int) < l.length by omega), if_pos (show (0 : Int) ≤ i by omega), rd_at hi, refHas_tells, wrap_nat (by omega), ih k (i + 1) (by omega) (by omega), idxP_drop _ l i hi]
    cases hasP l[i] x <;> rfl
theorem refOf_tells (l : List Pl) (x : Int) (hb : l.length ≤ 90) : B.mooringsref11_Of.f 100 l x = some (ofP l x) := by
  have h := refOf_loop l x (by omega) l.length 100 0 (by omega) (by omega)
  rw [Int.natCast_zero, List.drop_zero] at h
  exact h
theorem refGives_tells (l : List Pl) (x : Int) (hb : l.length ≤ 90) : B.mooringsref11_Gives.f 100 l x = some (givesP l x) := by
  have hr := ofP_range l x
  unfold B.mooringsref11_Gives.f givesP
  rw [refOf_tells l x hb]
  show (if ofP l x ≥ 0 then _ else _) = _
  by_cases h : 0 ≤ ofP l x
  · obtain ⟨k, hk⟩ := Int.eq_ofNat_of_zero_le h
    have hkl : k < l.length := by omega
    rw [if_pos h, if_pos h, if_pos (by omega), hk, rd_at hkl, getP_nat l k hkl, decide_eq_true (show (k : Int) ≠ -1 by omega), Bool.true_and]
    (try congr 1) <;> (try (by_cases h0 : l[k].f2 = 0 <;> simp [h0]))
  · rw [if_neg h, decide_eq_false (by omega)]
    rfl
theorem refOthers_loop (l : List Pl) (out : Int) (ho : out ≤ 4) (but : Int) (p : Pl) (hp : fitsP p out = true) (hf : ∀ j (hj : j < l.length), fitsP l[j] out = true) (hb : l.length ≤ 1000) (d : Nat) : ∀ (k i : Nat), i + d = l.length → d + 10 < k →
    B.mooringsref11_others.l0 k l but (i : Int) p.f0 p.f1 p.f2 = some (othersP p but (l.drop i) (i : Int)) := by
  induction d with
  | zero =>
    intro k i hd hk
    obtain ⟨k, rfl⟩ : ∃ m, k = m + 1 := ⟨k - 1, by omega⟩
    simp only [B.mooringsref11_others.l0]
    rw [if_neg (show ¬ (i : Int) < l.length by omega), List.drop_eq_nil_iff.2 (by omega)]
    rfl
  | succ d ih =>
    intro k i hd hk
    obtain ⟨k, rfl⟩ : ∃ m, k = m + 1 := ⟨k - 1, by omega⟩
    have hi : i < l.length := by omega
    simp only [B.mooringsref11_others.l0]
    rw [if_pos (show (i : Int) < l.length by omega), if_pos (show (0 : Int) ≤ i by omega), rd_at hi, refMeet_tells ho (hf i hi) hp k (by omega), wrap_nat (by omega), ih k (i + 1) (by omega) (by omega), othersP_drop p but l i hi, meetW_symm]
    by_cases e : (i : Int) = but
    · rw [show ((i : Int) == but) = true by simpa using e]
      show (if (i : Int) = but then _ else _) = _
      rw [if_pos e]
      rfl
    · rw [show ((i : Int) == but) = false by simpa using e]
      show (if (i : Int) = but then _ else _) = _
      rw [if_neg e]
      cases meetW p l[i] <;> rfl
theorem refOthers_tells {l : List Pl} {out : Int} (hm : maysP l out = true) (but : Int) {p : Pl} (hp : fitsP p out = true) : B.mooringsref11_others.f 100 l but p.f0 p.f1 p.f2 = some (othersP p but l 0) := by
  have ho := mays_out hm
  have h := refOthers_loop l out ho.2.1 but p hp (fun j hj => fits_of hm hj) (by omega) l.length 100 0 (by omega) (by omega)
  rw [Int.natCast_zero, List.drop_zero] at h
  exact h
theorem refSame_loop (x y : List Pl) (hl : x.length = y.length) (hb : x.length ≤ 1000) (d : Nat) : ∀ (k i : Nat), i + d = x.length → d < k →
    B.mooringsref11_Same.l0 k x y (i : Int) = some (decide (x.drop i = y.drop i)) := by
  induction d with
  | zero =>
    intro k i hd hk
    obtain ⟨k, rfl⟩ : ∃ m, k = m + 1 := ⟨k - 1, by omega⟩
    simp only [B.mooringsref11_Same.l0]
    rw [if_neg (show ¬ (i : Int) < x.length by omega)]
    have h1 : x.drop i = [] := List.drop_eq_nil_iff.2 (by omega)
    have h2 : y.drop i = [] := List.drop_eq_nil_iff.2 (by omega)
    rw [h1, h2]
    rfl
  | succ d ih =>
    intro k i hd hk
    obtain ⟨k, rfl⟩ : ∃ m, k = m + 1 := ⟨k - 1, by omega⟩
    have h1 : i < x.length := by omega
    have h2 : i < y.length := by omega
    have e1 : x.drop i = x[i] :: x.drop (i + 1) := List.drop_eq_getElem_cons h1
    have e2 : y.drop i = y[i] :: y.drop (i + 1) := List.drop_eq_getElem_cons h2
    simp only [B.mooringsref11_Same.l0]
    rw [if_pos (show (i : Int) < x.length by omega), if_pos (show (0 : Int) ≤ i by omega), if_pos (show (i : Int) < y.length by omega), rd_at h1, rd_at h2, wrap_nat (by omega)]
    by_cases h : x[i] = y[i]
    · rw [if_neg (by rw [h]; simp), ih k (i + 1) (by omega) (by omega), e1, e2, h]
      congr 1
      apply decide_eq_decide.2
      rw [List.cons.injEq]
      exact ⟨fun g => ⟨rfl, g⟩, fun g => g.2⟩
    · rw [if_pos, e1, e2]
      · have : ¬ (x[i] :: x.drop (i + 1) = y[i] :: y.drop (i + 1)) := fun g => h (by injection g)
        rw [decide_eq_false this]
      · simp only [Bool.or_eq_true, Bool.not_eq_true', beq_eq_false_iff_ne]
        refine Classical.byContradiction fun g => h ?_
        simp only [not_or, Decidable.not_not] at g
        exact pl_ext g.1 g.2.1 g.2.2
theorem refSame_tells (x y : List Pl) (hb : x.length ≤ 90) : B.mooringsref11_Same.f 100 x y = some (decide (x = y)) := by
  unfold B.mooringsref11_Same.f
  by_cases h : x.length = y.length
  · rw [if_pos (by omega)]
    have := refSame_loop x y h (by omega) x.length 100 0 (by omega) (by omega)
    simp only [Int.natCast_zero, List.drop_zero] at this
    exact this
  · rw [if_neg (by omega), decide_eq_false (fun e => h (by rw [e]))]

end Go.Proofs.Ytajofhjlkaenhaa.H
