-- Written by wip/myprint.sh (the kit's printer, with some functions given) for this claim. Lean checks it.
import Derived.Test.YtngohjjepjpdlaaBx0
import Derived.Test.YtngohjjepjpdlaaBx1
import Derived.Test.YtngohjjepjpdlaaBx2
import Derived.Test.YtngohjjepjpdlaaBx3
import Derived.Test.YtngohjjepjpdlaaBx4
import Derived.Test.YtngohjjepjpdlaaBx5
import Derived.Test.YtngohjjepjpdlaaBx6
import Derived.Test.YtngohjjepjpdlaaBx7
import Derived.Test.YtngohjjepjpdlaaBx8
import Derived.Test.YtngohjjepjpdlaaBx9
import Derived.Test.YtngohjjepjpdlaaBx10
namespace Go.Proofs.Ytngohjjepjpdlaa.B
open Go.RowKit Go.Proofs.YtngohjjepjpdlaaW.PrintWords Go.Proofs.YtngohjjepjpdlaaW.PrintLast Go.Proofs.YtngohjjepjpdlaaW.PrintMore
attribute [local go_sem] max2_int min2_int max_two min_two max_three min_three max_four min_four   -- for this text's walks alone
set_option linter.unusedVariables false
set_option linter.unusedSimpArgs false

end Go.Proofs.Ytngohjjepjpdlaa.B
