import Derived.Test.YtiopafdndlodoaaVariA
/-! The printed functions of layer 1 answer as the plain ones: put, all. -/
namespace Go.Proofs.Ytiopafdndlodoaa.H
open Go.RowKit Moor Go.Proofs.YtiopafdndlodoaaW.PrintWords Go.Proofs.YtiopafdndlodoaaW.PrintLast Go.Proofs.YtiopafdndlodoaaW.PrintMore
set_option linter.unusedVariables false
set_option linter.unusedSimpArgs false

set_option maxRecDepth 20000 in
theorem or128 : ∀ a : Nat, a < 256 → (a ||| 128) = a % 128 + 128 := by decide
theorem u8_or128 (n : Int) (h : 0 ≤ n) : bits .or .u8 (n % 256) 128 = n % 128 + 128 := by
  rw [u8_or (n % 256) 128 (by omega) (by omega) (by omega) (by omega)]
  have := or128 (n % 256).toNat (by omega)
  rw [show (128 : Int).toNat = 128 from rfl, this]
  omega

attribute [local irreducible] shl Go.bits

theorem put_loop (f : Nat) : ∀ (k : Nat) (out : List Int) (n : Int), f < k → 0 ≤ n → n < 128 ^ (f + 1) → out.length + f < 140737488355328 → B.vari_put.l0 k out n = some (out ++ putF f n) := by
  induction f with
  | zero =>
    intro k out n hk h0 h1 hl
    obtain ⟨k, rfl⟩ : ∃ m, k = m + 1 := ⟨k - 1, by omega⟩
    have h2 : n < 128 := by simpa using h1
    simp only [B.vari_put.l0]
    rw [if_neg (show ¬ n ≥ 128 by omega), if_pos (by omega)]
    rfl
  | succ f ih =>
    intro k out n hk h0 h1 hl
    obtain ⟨k, rfl⟩ : ∃ m, k = m + 1 := ⟨k - 1, by omega⟩
    simp only [B.vari_put.l0]
    have hol : out.length < 140737488355328 := by omega
    by_cases h : n < 128
    · rw [if_neg (show ¬ n ≥ 128 by omega), if_pos hol, putF, if_pos h]
      have : n % 256 = n := by omega
      rw [this]
    · rw [if_pos (show n ≥ 128 by omega), if_pos hol, u8_or128 n h0, ih k _ (n / 128) (by omega) (by omega) (pow_step f n h1) (by simp; omega), putF, if_neg h]
      simp
theorem vput_tells (out : List Int) (n : Int) (hn : mayN n) (hl : out.length < 140737488355000) (k : Nat) (hk : 10 ≤ k) : B.vari_put.f k out n = some (out ++ put n) :=
  put_loop 5 k out n (by omega) hn.1 (by have := hn.2; show n < 4398046511104; omega) (by omega)
theorem vmay_tells (n : Int) : B.vari_may.f n = some (decide (mayN n)) := by
  unfold B.vari_may.f
  by_cases h : n ≥ 0
  · rw [if_pos h]
    congr 1
    exact decide_eq_decide.2 ⟨fun g => ⟨h, g⟩, fun g => g.2⟩
  · rw [if_neg h, decide_eq_false (show ¬ mayN n from fun g => h g.1)]

end Go.Proofs.Ytiopafdndlodoaa.H
