import Derived.Test.YtiopafdndlodoaaVariA
/-! The reference's Put. -/
namespace Go.Proofs.Ytiopafdndlodoaa.H
open Go.RowKit Moor Go.Proofs.YtiopafdndlodoaaW.PrintWords Go.Proofs.YtiopafdndlodoaaW.PrintLast Go.Proofs.YtiopafdndlodoaaW.PrintMore
set_option linter.unusedVariables false
set_option linter.unusedSimpArgs false

attribute [local irreducible] shl Go.bits

theorem ref_put_loop (f : Nat) : ∀ (k : Nat) (out : List Int) (n : Int), f < k → 0 ≤ n → n < 128 ^ (f + 1) → n ≤ 1099511627776 → out.length + f < 140737488355328 → B.mooringsref01_Put.l0 k n out = some (out ++ putF f n) := by
  induction f with
  | zero =>
    intro k out n hk h0 h1 h3 hl
    obtain ⟨k, rfl⟩ : ∃ m, k = m + 1 := ⟨k - 1, by omega⟩
    have h2 : n < 128 := by simpa using h1
    simp only [B.mooringsref01_Put.l0]
    rw [if_neg (show ¬ n ≥ 128 by omega), if_pos (by omega)]
    rfl
  | succ f ih =>
    intro k out n hk h0 h1 h3 hl
    obtain ⟨k, rfl⟩ : ∃ m, k = m + 1 := ⟨k - 1, by omega⟩
    have e1 : Int.tdiv n 128 = n / 128 := Int.tdiv_eq_ediv_of_nonneg h0
    have e2 : Int.tmod n 128 = n % 128 := Int.tmod_eq_emod_of_nonneg h0
    simp only [B.mooringsref01_Put.l0]
    have hol : out.length < 140737488355328 := by omega
    by_cases h : n < 128
    · rw [if_neg (show ¬ n ≥ 128 by omega), if_pos hol, putF, if_pos h]
      have : n % 256 = n := by omega
      rw [this]
    · have e4 : (n % 128 + 128) % 256 = n % 128 + 128 := by omega
      rw [if_pos (show n ≥ 128 by omega), if_pos hol, e1, e2, wrap64_id (n := n / 128) (by omega) (by omega), wrap64_id (n := n % 128 + 128) (by omega) (by omega), e4, ih k _ (n / 128) (by omega) (by omega) (pow_step f n h1) (by omega) (by simp; omega), putF, if_neg h]
      simp
theorem refPut_tells (n : Int) (k : Nat) (hk : 10 ≤ k) : B.mooringsref01_Put.f k n = some (vPut n) := by
  obtain ⟨k, rfl⟩ : ∃ m, k = m + 1 := ⟨k - 1, by omega⟩
  unfold B.mooringsref01_Put.f vPut
  by_cases h : mayN n
  · have h1 := h.1
    have h2 := h.2
    rw [if_neg (show ¬ n < 0 by omega), decide_eq_false (show ¬ n > 1099511627776 by omega), if_pos h]
    simp only [B.mooringsref01_Put.j0]
    rw [if_neg (by decide), ref_put_loop 5 k [] n (by omega) h.1 (by show n < 4398046511104; omega) h2 (by simp)]
    rfl
  · rw [if_neg h]
    unfold mayN at h
    by_cases h1 : n < 0
    · rw [if_pos h1]
      rfl
    · rw [if_neg h1, decide_eq_true (show n > 1099511627776 by omega)]
      rfl

end Go.Proofs.Ytiopafdndlodoaa.H
