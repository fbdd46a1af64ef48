/- Functions and laws of the program moorings: contracts of the Go functions, and, in a text named ..Law.., that the law returns true at every input that its row lets in. No conditions but those stated. Written for this claim by a run of the printer with some functions given (wip/myprint.sh). -/
import Derived.Test.YtodjlacbjcbafaaBx0
import Derived.Test.YtodjlacbjcbafaaBx1
import Derived.Test.YtodjlacbjcbafaaBx2
import Derived.Test.YtodjlacbjcbafaaBx3
import Derived.Test.YtodjlacbjcbafaaBx4
import Derived.Test.YtodjlacbjcbafaaBx5
import Derived.Test.YtodjlacbjcbafaaBx6
import Derived.Test.YtodjlacbjcbafaaBx7
import Derived.Test.YtodjlacbjcbafaaBx8
import Derived.Test.YtodjlacbjcbafaaBx9
import Derived.Test.YtodjlacbjcbafaaBx10
namespace Go.Proofs.Ytodjlacbjcbafaa.B
open Go.RowKit Go.Proofs.YtodjlacbjcbafaaW.PrintWords Go.Proofs.YtodjlacbjcbafaaW.PrintLast Go.Proofs.YtodjlacbjcbafaaW.PrintMore
attribute [local go_sem] max2_int min2_int max_two min_two max_three min_three max_four min_four   -- for this text's walks alone
set_option linter.unusedVariables false
set_option linter.unusedSimpArgs false

end Go.Proofs.Ytodjlacbjcbafaa.B
