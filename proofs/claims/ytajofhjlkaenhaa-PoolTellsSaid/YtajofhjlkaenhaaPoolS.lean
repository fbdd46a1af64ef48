import Derived.Test.YtajofhjlkaenhaaPoolQ
/-! Layer 11: what is added, drained, sized, and whose an address is: plain laws. -/
namespace Go.Proofs.Ytajofhjlkaenhaa.H
open Go.RowKit Go.Proofs.YtajofhjlkaenhaaW.PrintWords Go.Proofs.YtajofhjlkaenhaaW.PrintLast Go.Proofs.YtajofhjlkaenhaaW.PrintMore
set_option linter.unusedVariables false
set_option linter.unusedSimpArgs false

theorem fits_iff {p : Pl} {out : Int} : fitsP p out = true ↔ 0 ≤ p.f0 ∧ 1 ≤ p.f1 ∧ p.f0 < out ∧ p.f1 ≤ out - p.f0 ∧ 0 ≤ p.f2 ∧ p.f2 < 2 := by unfold fitsP; exact decide_eq_true_iff
theorem mays_out {l : List Pl} {out : Int} (h : maysP l out = true) : 0 ≤ out ∧ out ≤ 4 ∧ l.length ≤ 3 := ((mays_iff l out).1 h).1
theorem has_fits {p : Pl} {out x : Int} (ho : out ≤ 4) (h : fitsP p out = true) : hasP p x = decide (p.f0 ≤ x ∧ x < p.f0 + p.f1) := by
  have hf := fits_iff.1 h
  unfold hasP
  apply decide_eq_decide.2
  exact ⟨fun g => ⟨g.2.2.2.2.1, g.2.2.2.2.2⟩, fun g => ⟨by omega, by omega, by omega, by omega, g.1, g.2⟩⟩
theorem meet_self {p : Pl} {out : Int} (ho : out ≤ 4) (h : fitsP p out = true) : meetW p p = true := by
  have hf := fits_iff.1 h
  have e : wrap64 (p.f0 + p.f1) = p.f0 + p.f1 := (by unfold wrap64; omega)
  unfold meetW
  rw [e, decide_eq_true_eq]
  exact ⟨by omega, by omega⟩
/-- What is added. -/
theorem adds_ok {out f n x : Int} {l : List Pl} (he : (addR out ⟨f, n, 0⟩ l).2 = 0) :
    ((addR out ⟨f, n, 0⟩ l).1.length = l.length + 1 ∧ (addR out ⟨f, n, 0⟩ l).1.take l.length = l) ∧ (addR out ⟨f, n, 0⟩ (addR out ⟨f, n, 0⟩ l).1).2 = 11 ∧ (0 ≤ f ∧ 1 ≤ n ∧ f + n ≤ 4) ∧
      givesP (addR out ⟨f, n, 0⟩ l).1 x = (decide (f ≤ x ∧ x < f + n) || givesP l x) ∧ (f ≤ x → x < f + n → ofP (addR out ⟨f, n, 0⟩ l).1 x = (l.length : Int)) := by
  have g : wrongAdd out ⟨f, n, 0⟩ l = 0 := by
    unfold addR at he
    by_cases g : wrongAdd out ⟨f, n, 0⟩ l = 0
    · exact g
    · rw [if_neg g] at he
      exact he
  have hr : addR out ⟨f, n, 0⟩ l = (l ++ [⟨f, n, 0⟩], 0) := by unfold addR; exact if_pos g
  obtain ⟨hm, h2⟩ := addR_ok g
  obtain ⟨r1, r2, r3⟩ := roomP_zero h2
  have ho := mays_out hm
  have hf := fits_iff.1 r1
  have hm2 := mays_add hm h2
  rw [hr]
  simp only at hf ⊢
  have hlt : l.length < (l ++ [(⟨f, n, 0⟩ : Pl)]).length := by simp
  have hgl : (l ++ [(⟨f, n, 0⟩ : Pl)])[l.length] = ⟨f, n, 0⟩ := by simp
  refine ⟨⟨by simp, by simp⟩, ?_, ⟨by omega, by omega, by omega⟩, ?_, ?_⟩
  · have hoth : othersP ⟨f, n, 0⟩ (-1) (l ++ [⟨f, n, 0⟩]) 0 = true := by
      by_cases e : othersP ⟨f, n, 0⟩ (-1) (l ++ [⟨f, n, 0⟩]) 0 = true
      · exact e
      · rw [Bool.not_eq_true] at e
        have := (othersP_false (i := 0)).1 e l.length hlt (by omega)
        rw [hgl, meet_self ho.2.1 r1] at this
        cases this
    have hroom : roomP out (l ++ [⟨f, n, 0⟩]) (-1) ⟨f, n, 0⟩ = 11 := by
      unfold roomP
      rw [if_neg (by rw [r1]; decide), if_pos hoth]
    have hw : wrongAdd out ⟨f, n, 0⟩ (l ++ [⟨f, n, 0⟩]) = 11 := by
      unfold wrongAdd
      rw [hm2, hroom]
      rfl
    unfold addR
    rw [if_neg (by omega)]
    exact hw
  · rw [gives_any hm2, gives_any hm, List.any_append, Bool.or_comm]
    congr 1
    simp [has_fits ho.2.1 r1]
  · intro h3 h4
    have hh : hasP (⟨f, n, 0⟩ : Pl) x = true := by rw [has_fits ho.2.1 r1]; exact decide_eq_true ⟨h3, h4⟩
    rcases ofP_spec (l ++ [⟨f, n, 0⟩]) x with ⟨e1, e2⟩ | ⟨i, hi, e1, e2⟩
    · have := e2 l.length hlt
      rw [hgl, hh] at this
      cases this
    · have := uniq hm2 hi hlt e2 (by rw [hgl]; exact hh)
      rw [e1, this]
theorem pair_ok {α : Type} {c : Int} {a b : α} (h : (if c = 0 then (a, (0 : Int)) else (b, c)).2 = 0) : c = 0 := by
  by_cases g : c = 0
  · exact g
  · rw [if_neg g] at h
    exact h
theorem getP_set (l : List Pl) (k : Nat) (h : k < l.length) (y : Pl) : getP (l.set k y) (k : Int) = y := by
  rw [getP_nat _ k (by simpa using h), List.getElem_set_self]
/-- What drains. -/
theorem drains_ok {out k : Int} {l : List Pl} (he : (drainR out k l).2 = 0) : maysP l out = true ∧ 0 ≤ k ∧ k < l.length ∧ (getP l k).f2 = 0 ∧ (drainR out k l).1.length = l.length ∧ (getP (drainR out k l).1 k).f2 = 1 ∧ (drainR out k (drainR out k l).1).2 = 11 := by
  have g : wrongDrain out k l = 0 := by unfold drainR at he; exact pair_ok he
  have hr : drainR out k l = (l.set k.toNat ⟨(getP l k).f0, (getP l k).f1, 1⟩, 0) := by unfold drainR; exact if_pos g
  have hm2 := may_drain out k l
  obtain ⟨hm, h2⟩ := drain_ok g
  obtain ⟨hi0, hi1⟩ := wrongDrain_in g
  obtain ⟨kk, rfl⟩ := Int.eq_ofNat_of_zero_le hi0
  have hkk : kk < l.length := by omega
  rw [hm] at hm2
  rw [hr] at hm2 ⊢
  rw [getP_nat l kk hkk] at h2 hm2 ⊢
  rw [Int.toNat_natCast] at hm2 ⊢
  have hf := fits_iff.1 (fits_of hm hkk)
  have hgs := getP_set l kk hkk ⟨l[kk].f0, l[kk].f1, 1⟩
  refine ⟨hm, hi0, hi1, by omega, by simp, by rw [hgs], ?_⟩
  have hw : wrongDrain out kk (l.set kk ⟨l[kk].f0, l[kk].f1, 1⟩) = 11 := by
    unfold wrongDrain
    rw [hm2, cond_true, if_neg (by rw [List.length_set]; omega), hgs, if_pos rfl]
  show (drainR out kk (l.set kk ⟨l[kk].f0, l[kk].f1, 1⟩)).2 = 11
  unfold drainR
  rw [if_neg (by rw [hw]; decide)]
  exact hw
theorem drains_gone {out k : Int} {busy : List Int} {l : List Pl} (hm : maysP l out = true) (h0 : 0 ≤ k) (h1 : k < l.length) (h2 : (getP l k).f2 = 0) : (goneR out k busy l).2 = 12 := by
  have hw : wrongGone out k busy l = 12 := by
    unfold wrongGone
    rw [hm, cond_true, if_neg (by omega), if_pos h2]
  unfold goneR
  rw [if_neg (by omega)]
  exact hw
theorem size_keeps {out k n : Int} {busy : List Int} {l : List Pl} (h0 : 0 ≤ k) (h1 : k < l.length) : (sizeR out k n busy l).1.length = l.length ∧ (getP (sizeR out k n busy l).1 k).f2 = (getP l k).f2 := by
  unfold sizeR
  by_cases g : wrongSize out k n busy l = 0
  · rw [if_pos g]
    obtain ⟨kk, rfl⟩ := Int.eq_ofNat_of_zero_le h0
    have hkk : kk < l.length := by omega
    rw [Int.toNat_natCast]
    simp only
    rw [getP_set l kk hkk]
    exact ⟨by simp, rfl⟩
  · rw [if_neg g]
    exact ⟨rfl, rfl⟩
theorem drains_gives {b : List Pl} {k x : Int} (h2 : (getP b k).f2 = 1) (ho : ofP b x = k) : givesP b x = false := by
  unfold givesP
  rw [ho, h2]
  simp
/-- What is sized. -/
theorem sizes_ok {out k n : Int} {l : List Pl} (he : (sizeR out k n [] l).2 = 0) : 0 ≤ k ∧ k < l.length ∧ (sizeR out k n [] l).1.length = l.length ∧ getP (sizeR out k n [] l).1 k = ⟨(getP l k).f0, n, (getP l k).f2⟩ ∧
    sizeR out k (getP l k).f1 [] (sizeR out k n [] l).1 = (l, 0) := by
  have g : wrongSize out k n [] l = 0 := by unfold sizeR at he; exact pair_ok he
  have hr : sizeR out k n [] l = (l.set k.toNat (sizedP (getP l k) n), 0) := by unfold sizeR; exact if_pos g
  have hm2 := may_size out k n [] l
  obtain ⟨hm, h2, _⟩ := size_ok g
  obtain ⟨hi0, hi1⟩ := wrongSize_in g
  obtain ⟨kk, rfl⟩ := Int.eq_ofNat_of_zero_le hi0
  have hkk : kk < l.length := by omega
  rw [hm] at hm2
  rw [hr] at hm2 ⊢
  rw [getP_nat l kk hkk] at hm2 ⊢
  rw [Int.toNat_natCast] at hm2 ⊢
  have hgs := getP_set l kk hkk (sizedP l[kk] n)
  have hback : sizedP (sizedP l[kk] n) l[kk].f1 = l[kk] := rfl
  have hkk2 : kk < (l.set kk (sizedP l[kk] n)).length := by simpa using hkk
  refine ⟨hi0, hi1, by simp, hgs, ?_⟩
  have hoth : othersP l[kk] (kk : Int) (l.set kk (sizedP l[kk] n)) 0 = false := by
    refine (othersP_false (i := 0)).2 fun j hj hne => ?_
    have hj' : j < l.length := by simpa using hj
    have hjk : j ≠ kk := by intro e; subst e; exact hne (by simp)
    rw [List.getElem_set_ne (fun e => hjk e.symm)]
    exact apart_of hm hkk hj' hjk
  have hroom : roomP out (l.set kk (sizedP l[kk] n)) kk l[kk] = 0 := by
    unfold roomP
    rw [if_neg (by rw [fits_of hm hkk]; decide), if_neg (by rw [hoth]; decide), if_neg (by omega)]
  have hlost : lostP (sizedP l[kk] n) [] l[kk] = false := rfl
  have hw : wrongSize out kk l[kk].f1 [] (l.set kk (sizedP l[kk] n)) = 0 := by
    unfold wrongSize
    rw [hm2, cond_true, if_neg (by rw [List.length_set]; omega), hgs, hback, if_pos hroom, if_neg (by rw [hlost]; decide)]
  unfold sizeR
  rw [if_pos hw, hgs, hback, Int.toNat_natCast, List.set_set, List.set_getElem_self]
/-- Whose an address is. -/
theorem once_at {l : List Pl} {out x : Int} (hm : maysP l out = true) {i : Nat} (hi : i < l.length) : (l[i].f0 ≤ x ∧ x < l[i].f0 + l[i].f1) ↔ ofP l x = (i : Int) := by
  have ho := mays_out hm
  have hh := has_fits (x := x) ho.2.1 (fits_of hm hi)
  constructor
  · intro h
    rw [decide_eq_true h] at hh
    rcases ofP_spec l x with ⟨e1, e2⟩ | ⟨j, hj, e1, e2⟩
    · have := e2 i hi
      rw [hh] at this
      cases this
    · rw [e1, uniq hm hj hi e2 hh]
  · intro h
    rcases ofP_spec l x with ⟨e1, e2⟩ | ⟨j, hj, e1, e2⟩
    · omega
    · have : j = i := by omega
      subst this
      rw [hh] at e2
      exact of_decide_eq_true e2
theorem once_sum {l : List Pl} {out : Int} (hm : maysP l out = true) {i : Nat} (hi : i < l.length) : wrap64 (l[i].f0 + l[i].f1) = l[i].f0 + l[i].f1 := by
  have ho := mays_out hm
  have hf := fits_iff.1 (fits_of hm hi)
  exact (by unfold wrap64; omega)
theorem once_in {l : List Pl} {out x : Int} (hm : maysP l out = true) (h : 0 ≤ ofP l x) : 0 ≤ x ∧ x < out ∧ givesP l x = decide ((getP l (ofP l x)).f2 = 0) := by
  have ho := mays_out hm
  have hg : givesP l x = decide ((getP l (ofP l x)).f2 = 0) := by
    unfold givesP
    rw [decide_eq_true (show ofP l x ≠ -1 by omega), Bool.true_and]
  rcases ofP_spec l x with ⟨e1, e2⟩ | ⟨j, hj, e1, e2⟩
  · omega
  · have hf := fits_iff.1 (fits_of hm hj)
    have ha := (once_at (x := x) hm hj).2 e1
    exact ⟨by omega, by omega, hg⟩
theorem once_out {l : List Pl} {x : Int} (h : ofP l x < 0) : ofP l x = -1 ∧ givesP l x = false := by
  have e : ofP l x = -1 := by rcases ofP_range l x with h1 | h1 <;> omega
  refine ⟨e, ?_⟩
  unfold givesP
  rw [e]
  rfl

theorem drewB {B : Nat} {a w : World} (h : Below B a w) (n : Nat) : Below B a (w.drewN n) := h.trans ⟨rfl, rfl, rfl, Nat.le_refl _, fun _ _ => rfl⟩

end Go.Proofs.Ytajofhjlkaenhaa.H
