/- Functions and laws of the program moorings: contracts of the Go functions, and, in a text named ..Law.., that the law returns true at every input that its row lets in. No conditions but those stated. Written for this claim by a run of the printer with some functions given (wip/myprint.sh). -/
import Derived.Test.YtodjlacbjcbafaaBx0
namespace Go.Proofs.Ytodjlacbjcbafaa.B
open Go.RowKit Go.Proofs.YtodjlacbjcbafaaW.PrintWords Go.Proofs.YtodjlacbjcbafaaW.PrintLast Go.Proofs.YtodjlacbjcbafaaW.PrintMore
attribute [local go_sem] max2_int min2_int max_two min_two max_three min_three max_four min_four   -- for this text's walks alone
set_option linter.unusedVariables false
set_option linter.unusedSimpArgs false

theorem eqA32 (d : Nat) (w : World) (x0 y0 : Int) (x1 y1 : Int) (x2 y2 : Int) (x3 y3 : Bool) :
    (Op.equalIn (d + 2) 32 (.agg #[.int .i64 x0, .int .i64 x1, .int .i64 x2, .bool x3]) (.agg #[.int .i64 y0, .int .i64 y1, .int .i64 y2, .bool y3])).run Try.prog w = .ok (x0 == y0 && (x1 == y1 && (x2 == y2 && (x3 == y3)))) w := by
  refine eqA_of Try.underlying32 (by kernel_rfl) ?_
  refine eqf_cons (by rfl) (by go_simp; rfl) (by go_simp; rfl) (by go_simp) ?_
  refine eqf_cons (by rfl) (by go_simp; rfl) (by go_simp; rfl) (by go_simp) ?_
  refine eqf_cons (by rfl) (by go_simp; rfl) (by go_simp; rfl) (by go_simp) ?_
  exact eqf_last (by rfl) (by go_simp; rfl) (by go_simp; rfl) (by go_simp)
end Go.Proofs.Ytodjlacbjcbafaa.B
