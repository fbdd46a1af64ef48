import Derived.Test.YtiopafdndlodoaaVariB0
/-! The printed functions of layer 1 answer as the plain ones: Put. -/
namespace Go.Proofs.Ytiopafdndlodoaa.H
open Go.RowKit Moor Go.Proofs.YtiopafdndlodoaaW.PrintWords Go.Proofs.YtiopafdndlodoaaW.PrintLast Go.Proofs.YtiopafdndlodoaaW.PrintMore
set_option linter.unusedVariables false
set_option linter.unusedSimpArgs false

theorem vPut_tells (n : Int) (k : Nat) (hk : 10 ≤ k) : B.vari_Put.f k n = some (vPut n) := by
  unfold B.vari_Put.f vPut
  rw [vmay_tells]
  simp only [Option.bind_some]
  by_cases h : mayN n
  · rw [decide_eq_true h, if_pos rfl, vput_tells [] n h (by simp) k hk, if_pos h]
    rfl
  · rw [decide_eq_false h, if_neg h]
    rfl

end Go.Proofs.Ytiopafdndlodoaa.H
