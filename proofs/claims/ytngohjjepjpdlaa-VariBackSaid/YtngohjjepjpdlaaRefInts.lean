import Derived.Test.YtngohjjepjpdlaaVariA
/-! The reference's Ints. -/
namespace Go.Proofs.Ytngohjjepjpdlaa.H
open Go.RowKit Moor Go.Proofs.YtngohjjepjpdlaaW.PrintWords Go.Proofs.YtngohjjepjpdlaaW.PrintLast Go.Proofs.YtngohjjepjpdlaaW.PrintMore
set_option linter.unusedVariables false
set_option linter.unusedSimpArgs false

attribute [local irreducible] shl Go.bits

theorem ints_loop (l m : List Int) (hlm : l.length = m.length) (hl : l.length ≤ 4611686018427387904) (d : Nat) : ∀ (k i : Nat), i + d = l.length → d < k → B.mooringsref01_Ints.l0 k l m (i : Int) = some (decide (l.drop i = m.drop i)) := by
  induction d with
  | zero =>
    intro k i hd hk
    obtain ⟨k, rfl⟩ : ∃ m, k = m + 1 := ⟨k - 1, by omega⟩
    simp only [B.mooringsref01_Ints.l0]
    rw [if_neg (show ¬ (i : Int) < l.length by omega), List.drop_eq_nil_iff.2 (show l.length ≤ i by omega), List.drop_eq_nil_iff.2 (show m.length ≤ i by omega)]
    rfl
  | succ d ih =>
    intro k i hd hk
    obtain ⟨k, rfl⟩ : ∃ m, k = m + 1 := ⟨k - 1, by omega⟩
    have h1 : i < l.length := by omega
    have h2 : i < m.length := by omega
    have hi6 : i ≤ 4611686018427387904 := by omega
    simp only [B.mooringsref01_Ints.l0]
    rw [if_pos (show (i : Int) < l.length by omega), if_pos (show (0 : Int) ≤ i by omega), if_pos (show (i : Int) < m.length by omega), rd_nat l i h1, rd_nat m i h2, List.drop_eq_getElem_cons h1, List.drop_eq_getElem_cons h2, wrap64_nat i hi6, ih k (i + 1) (by omega) (by omega)]
    generalize l.drop (i + 1) = p
    generalize m.drop (i + 1) = q
    generalize l[i] = x
    generalize m[i] = y
    by_cases h : x = y <;> simp [h]
theorem refInts_tells (l m : List Int) (hl : l.length ≤ 4611686018427387904) (k : Nat) (hk : l.length < k) : B.mooringsref01_Ints.f k l m = some (decide (l = m)) := by
  unfold B.mooringsref01_Ints.f
  by_cases h : l.length = m.length
  · rw [if_pos (show (l.length : Int) = m.length by omega)]
    have := ints_loop l m h hl l.length k 0 (by omega) hk
    simpa using this
  · rw [if_neg (show ¬ (l.length : Int) = m.length by omega)]
    congr 1
    symm
    simp
    rintro rfl
    exact h rfl

end Go.Proofs.Ytngohjjepjpdlaa.H
