/- Functions and laws of the program moorings: contracts of the Go functions, and, in a text named ..Law.., that the law returns true at every input that its row lets in. No conditions but those stated. Written for this claim by a run of the printer with some functions given (wip/myprint.sh). -/
import Derived.Test.YtiallcoopdlneaaBx0
namespace Go.Proofs.Ytiallcoopdlneaa.B
open Go.RowKit Go.Proofs.YtiallcoopdlneaaW.PrintWords Go.Proofs.YtiallcoopdlneaaW.PrintLast Go.Proofs.YtiallcoopdlneaaW.PrintMore
attribute [local go_sem] max2_int min2_int max_two min_two max_three min_three max_four min_four   -- for this text's walks alone
set_option linter.unusedVariables false
set_option linter.unusedSimpArgs false

/-! ### zig_Zag: function 10 -/
def zig_Zag.f (a0 : Int) : Option (Int) := if a0 < 0 then (some 0) else (if a0 > 549755813888 then (some 0) else (some (Go.bits .xor .i64 (a0 / 2) (wrap64 (-(Go.bits .and .i64 a0 1))))))
set_option maxHeartbeats 8000000 in
set_option maxRecDepth 100000 in
theorem zig_Zag.calls (a0 : Int) (r : Int) (w : World) (h : zig_Zag.f a0 = some r) :
    Calls Try.prog 10 #[.int .i64 a0] w fun e w' => e = .returned (.int .i64 r) ∧ Drawn0 w w' := by
  have H : (if a0 < 0 then (some 0) else (if a0 > 549755813888 then (some 0) else (some (Go.bits .xor .i64 (a0 / 2) (wrap64 (-(Go.bits .and .i64 a0 1))))))) = some r := h
  clear h
  by_cases c2 : a0 < 0
  · rw [if_pos c2] at H
    have c2b0 : decide (a0 < 0) = true := decide_eq_true c2
    clear c2
    obtain rfl := Option.some.inj H
    go_enter Try.func10, Try.ntmps10
    go_wp2
    go_ret
    exact ⟨by first | rfl | (simp; done) | (simp [*]; done), by repeat (first | exact Drawn0.refl _ | apply Drawn0.step)⟩
  · rw [if_neg c2] at H
    have c2b0 : decide (a0 < 0) = false := decide_eq_false c2
    clear c2
    by_cases c3 : a0 > 549755813888
    · rw [if_pos c3] at H
      have c3b0 : decide (549755813888 < a0) = true := decide_eq_true c3
      clear c3
      obtain rfl := Option.some.inj H
      go_enter Try.func10, Try.ntmps10
      go_wp2
      go_ret
      exact ⟨by first | rfl | (simp; done) | (simp [*]; done), by repeat (first | exact Drawn0.refl _ | apply Drawn0.step)⟩
    · rw [if_neg c3] at H
      have c3b0 : decide (549755813888 < a0) = false := decide_eq_false c3
      clear c3
      obtain rfl := Option.some.inj H
      go_enter Try.func10, Try.ntmps10
      go_wp2
      go_ret
      exact ⟨by first | rfl | (simp; done) | (simp [*]; done), by repeat (first | exact Drawn0.refl _ | apply Drawn0.step)⟩

end Go.Proofs.Ytiallcoopdlneaa.B
