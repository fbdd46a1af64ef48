import Derived.Test.YtajofhjlkaenhaaPoolP
/-! Layer 11: plain laws of pools: who has an address. -/
namespace Go.Proofs.Ytajofhjlkaenhaa.H
open Go.RowKit Go.Proofs.YtajofhjlkaenhaaW.PrintWords Go.Proofs.YtajofhjlkaenhaaW.PrintLast Go.Proofs.YtajofhjlkaenhaaW.PrintMore
set_option linter.unusedVariables false
set_option linter.unusedSimpArgs false

theorem has_iff {p : Pl} {x : Int} : hasP p x = true ↔ 0 ≤ p.f0 ∧ p.f0 ≤ 4 ∧ 1 ≤ p.f1 ∧ p.f1 ≤ 4 ∧ p.f0 ≤ x ∧ x < p.f0 + p.f1 := by unfold hasP; exact decide_eq_true_iff
theorem both_meet {p q : Pl} {x : Int} (hp : hasP p x = true) (hq : hasP q x = true) : meetW p q = true := by
  have a := has_iff.1 hp
  have b := has_iff.1 hq
  unfold meetW
  have w1 : wrap64 (q.f0 + q.f1) = q.f0 + q.f1 := by unfold wrap64; omega
  have w2 : wrap64 (p.f0 + p.f1) = p.f0 + p.f1 := by unfold wrap64; omega
  rw [w1, w2, decide_eq_true_eq]
  omega
theorem uniq {l : List Pl} {out x : Int} (hm : maysP l out = true) {i j : Nat} (hi : i < l.length) (hj : j < l.length) (h1 : hasP l[i] x = true) (h2 : hasP l[j] x = true) : i = j := by
  rcases Nat.decEq i j with h | h
  · have := apart_of hm hi hj (fun e => h e.symm)
    rw [both_meet h1 h2] at this
    cases this
  · exact h
theorem idxP_spec {α : Type} (f : α → Bool) : ∀ (l : List α) (k : Nat), idxP f l (k : Int) = -1 ∧ (∀ j (hj : j < l.length), f l[j] = false) ∨ ∃ (i : Nat) (hi : i < l.length), idxP f l (k : Int) = ((k + i : Nat) : Int) ∧ f l[i] = true
  | [], k => .inl ⟨rfl, fun j hj => by simp at hj⟩
  | p :: l, k => by
    unfold idxP
    cases hp : f p with
    | true => exact .inr ⟨0, by simp, by simp, hp⟩
    | false =>
      rcases idxP_spec f l (k + 1) with ⟨h1, h2⟩ | ⟨i, hi, h1, h2⟩
      · left
        rw [show ((k : Int) + 1) = ((k + 1 : Nat) : Int) by omega, h1]
        refine ⟨by simp, fun j hj => ?_⟩
        cases j with
        | zero => exact hp
        | succ j => exact h2 j (by simpa using hj)
      · right
        rw [show ((k : Int) + 1) = ((k + 1 : Nat) : Int) by omega, h1]
        exact ⟨i + 1, by simpa using hi, by simp; omega, h2⟩
theorem ofP_spec (l : List Pl) (x : Int) : (ofP l x = -1 ∧ ∀ j (hj : j < l.length), hasP l[j] x = false) ∨ ∃ (i : Nat) (hi : i < l.length), ofP l x = (i : Int) ∧ hasP l[i] x = true := by
  rcases idxP_spec (fun p => hasP p x) l 0 with ⟨h1, h2⟩ | ⟨i, hi, h1, h2⟩
  · exact .inl ⟨h1, h2⟩
  · exact .inr ⟨i, hi, by show idxP (fun p => hasP p x) l 0 = _; simpa using h1, h2⟩
theorem was_any (l : List Pl) (x : Int) : decide (0 ≤ ofP l x) = l.any fun p => hasP p x := idxP_any _ l
theorem gives_any {l : List Pl} {out x : Int} (hm : maysP l out = true) : givesP l x = l.any fun p => hasP p x && decide (p.f2 = 0) := by
  unfold givesP
  rcases ofP_spec l x with ⟨h1, h2⟩ | ⟨i, hi, h1, h2⟩
  · rw [h1]
    symm
    have : (l.any fun p => hasP p x && decide (p.f2 = 0)) = false := by
      rw [List.any_eq_false]
      intro p hp
      obtain ⟨j, hj, rfl⟩ := List.mem_iff_getElem.1 hp
      rw [h2 j hj]
      simp
    rw [this]
    simp
  · rw [h1, getP_nat l i hi, decide_eq_true (by omega), Bool.true_and, Bool.eq_iff_iff, decide_eq_true_eq, List.any_eq_true]
    constructor
    · intro h
      exact ⟨l[i], List.getElem_mem hi, by rw [h2, decide_eq_true h]; rfl⟩
    · rintro ⟨p, hp, hq⟩
      obtain ⟨j, hj, rfl⟩ := List.mem_iff_getElem.1 hp
      rw [Bool.and_eq_true, decide_eq_true_eq] at hq
      have := uniq hm hi hj h2 hq.1
      subst this
      exact hq.2
/-- Where a pool is of an address, 'any' is told by that one alone. -/
theorem any_at {l : List Pl} {out x : Int} (hm : maysP l out = true) {i : Nat} (hi : i < l.length) (h : hasP l[i] x = true) (f : Pl → Bool) : (l.any fun p => hasP p x && f p) = f l[i] := by
  rw [Bool.eq_iff_iff, List.any_eq_true]
  constructor
  · rintro ⟨p, hp, hq⟩
    obtain ⟨j, hj, rfl⟩ := List.mem_iff_getElem.1 hp
    rw [Bool.and_eq_true] at hq
    have := uniq hm hi hj h hq.1
    subst this
    exact hq.2
  · intro g
    exact ⟨l[i], List.getElem_mem hi, by rw [h, g]; rfl⟩
theorem lost_not {y q : Pl} {busy : List Int} (h : lostP y busy q = false) {x : Int} (hx : x ∈ busy) (hy : hasP y x = true) : hasP q x = true := by
  unfold lostP at h
  rw [List.any_eq_false] at h
  have := h x hx
  rw [hy] at this
  simpa using this
theorem has_zero (x : Int) : hasP ⟨0, 0, 0⟩ x = false := by
  unfold hasP
  rw [decide_eq_false]
  intro h
  have := h.2.2.1
  simp at this

/-- What is busy stays where it was: sized. -/
theorem busy_size {out k n : Int} {busy : List Int} {l : List Pl} {x : Int} (hm : maysP l out = true) (hx : x ∈ busy) (hw : 0 ≤ ofP l x) :
    0 ≤ ofP (sizeR out k n busy l).1 x ∧ givesP (sizeR out k n busy l).1 x = givesP l x := by
  have hmc := may_size out k n busy l
  rw [hm] at hmc
  unfold sizeR at hmc ⊢
  by_cases g : wrongSize out k n busy l = 0
  · rw [if_pos g] at hmc ⊢
    obtain ⟨_, h2, h3⟩ := size_ok g
    obtain ⟨hi0, hi1⟩ := wrongSize_in g
    obtain ⟨kk, rfl⟩ := Int.eq_ofNat_of_zero_le hi0
    have hkk : kk < l.length := by omega
    rw [getP_nat l kk hkk] at h2 h3 hmc ⊢
    rw [Int.toNat_natCast] at hmc ⊢
    obtain ⟨r1, r2, _⟩ := roomP_zero h2
    rcases ofP_spec l x with ⟨e1, _⟩ | ⟨i, hi, e1, e2⟩
    · omega
    · have hset : ∃ (hi' : i < (l.set kk (sizedP l[kk] n)).length), hasP (l.set kk (sizedP l[kk] n))[i] x = true ∧ (l.set kk (sizedP l[kk] n))[i].f2 = l[i].f2 := by
        refine ⟨by simpa using hi, ?_⟩
        rw [List.getElem_set]
        by_cases e : kk = i
        · subst e
          rw [if_pos rfl]
          exact ⟨lost_not h3 hx e2, rfl⟩
        · rw [if_neg e]
          exact ⟨e2, rfl⟩
      obtain ⟨hi', f1, f2⟩ := hset
      constructor
      · have : decide (0 ≤ ofP (l.set kk (sizedP l[kk] n)) x) = true := by
          rw [was_any, List.any_eq_true]
          exact ⟨_, List.getElem_mem hi', f1⟩
        exact of_decide_eq_true this
      · rw [gives_any hmc, gives_any hm, any_at hmc hi' f1, any_at hm hi e2, f2]
  · rw [if_neg g]
    exact ⟨hw, rfl⟩
/-- What is busy stays where it was: another one gone. -/
theorem busy_gone {out k : Int} {busy : List Int} {l : List Pl} {x : Int} (hm : maysP l out = true) (hx : x ∈ busy) (hw : 0 ≤ ofP l x) :
    0 ≤ ofP (goneR out k busy l).1 x ∧ givesP (goneR out k busy l).1 x = givesP l x := by
  have hmc := may_gone out k busy l
  rw [hm] at hmc
  unfold goneR at hmc ⊢
  by_cases g : wrongGone out k busy l = 0
  · rw [if_pos g] at hmc ⊢
    obtain ⟨_, _, h3⟩ := gone_ok g
    obtain ⟨hi0, hi1⟩ := wrongGone_in g
    obtain ⟨kk, rfl⟩ := Int.eq_ofNat_of_zero_le hi0
    have hkk : kk < l.length := by omega
    rw [getP_nat l kk hkk] at h3
    rw [Int.toNat_natCast] at hmc ⊢
    rcases ofP_spec l x with ⟨e1, _⟩ | ⟨i, hi, e1, e2⟩
    · omega
    · have hne : i ≠ kk := by
        intro e
        subst e
        have := lost_not h3 hx e2
        rw [has_zero] at this
        cases this
      have hmem : ∃ (j : Nat) (hj : j < (l.eraseIdx kk).length), (l.eraseIdx kk)[j] = l[i] := by
        have hlen := eraseIdx_len l kk hkk
        by_cases e : i < kk
        · exact ⟨i, by omega, by rw [List.getElem_eraseIdx_of_lt _ e]⟩
        · refine ⟨i - 1, by omega, ?_⟩
          rw [List.getElem_eraseIdx_of_ge _ (by omega)]
          congr 1
          omega
      obtain ⟨j, hj, ej⟩ := hmem
      have f1 : hasP (l.eraseIdx kk)[j] x = true := by rw [ej]; exact e2
      constructor
      · have : decide (0 ≤ ofP (l.eraseIdx kk) x) = true := by
          rw [was_any, List.any_eq_true]
          exact ⟨_, List.getElem_mem hj, f1⟩
        exact of_decide_eq_true this
      · rw [gives_any hmc, gives_any hm, any_at hmc hj f1, any_at hm hi e2, ej]
  · rw [if_neg g]
    exact ⟨hw, rfl⟩
theorem gone_done {out k : Int} {busy : List Int} {l : List Pl} {x : Int} (hx : x ∈ busy) (he : (goneR out k busy l).2 = 0) :
    (goneR out k busy l).1.length = l.length - 1 ∧ 0 ≤ k ∧ k < l.length ∧ (getP l k).f2 = 1 ∧ ofP l x ≠ k := by
  unfold goneR at he ⊢
  by_cases g : wrongGone out k busy l = 0
  · rw [if_pos g]
    obtain ⟨hm, h2, h3⟩ := gone_ok g
    obtain ⟨hi0, hi1⟩ := wrongGone_in g
    obtain ⟨kk, rfl⟩ := Int.eq_ofNat_of_zero_le hi0
    have hkk : kk < l.length := by omega
    rw [getP_nat l kk hkk] at h2 h3 ⊢
    have hf := fits_of hm hkk
    unfold fitsP at hf
    rw [decide_eq_true_eq] at hf
    refine ⟨by rw [Int.toNat_natCast]; exact eraseIdx_len l kk hkk, hi0, hi1, by omega, ?_⟩
    rcases ofP_spec l x with ⟨e1, _⟩ | ⟨i, hi, e1, e2⟩
    · omega
    · intro e
      rw [e1] at e
      have : i = kk := by omega
      subst this
      have := lost_not h3 hx e2
      rw [has_zero] at this
      cases this
  · rw [if_neg g] at he
    exact absurd he g
end Go.Proofs.Ytajofhjlkaenhaa.H
