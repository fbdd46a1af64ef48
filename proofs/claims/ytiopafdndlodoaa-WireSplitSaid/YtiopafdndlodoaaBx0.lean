/- Functions and laws of the program moorings: contracts of the Go functions, and, in a text named ..Law.., that the law returns true at every input that its row lets in. No conditions but those stated. Written for this claim by a run of the printer with some functions given (wip/myprint.sh). -/
import Derived.Test.YtiopafdndlodoaaProg
import Derived.Below
import Derived.Deep.Draws
import Derived.Deep.AppendLies
import Derived.Maps.AppendAt
import Derived.OwnWalk
import Derived.Laws.BytesArg
import Derived.Laws.MakeOwn
import Derived.Laws.OwnMore
import Derived.Deep.OwnRows
import Derived.Tactics
import Derived.Lib.ConvBytes
import Derived.Laws.Slices
import Derived.WalkKit
import Derived.KernelRfl
import Derived.RowKit3
import Derived.Deep.LoopGhost
import Derived.Deep.QuietTactic
import Derived.BigQuiet
import Derived.WideLaws
import Derived.Deep.DeepCutAuto
import Derived.Deep.CutBlock
import Derived.Deep.RegionHeld3
import Derived.Laws.Rows
import Derived.Lib.AppendStr
import Derived.ArgAppend
import Derived.Laws.IdiomCopy
import Derived.OrdersHeld
import Derived.Laws.BitsLemmas
import Derived.RowKit
import Derived.Test.YtiopafdndlodoaaWWords
import Derived.Test.YtiopafdndlodoaaWLast
import Derived.Test.YtiopafdndlodoaaWTab
import Derived.Test.YtiopafdndlodoaaWFour
import Derived.Test.YtiopafdndlodoaaWQPut
import Derived.Test.YtiopafdndlodoaaWApart
import Derived.Test.YtiopafdndlodoaaWArr
import Derived.Test.YtiopafdndlodoaaWZeros
import Derived.Test.YtiopafdndlodoaaWFoot
import Derived.Test.YtiopafdndlodoaaWKept
import Derived.Test.YtiopafdndlodoaaWShare
import Derived.Test.YtiopafdndlodoaaWN
import Derived.Test.YtiopafdndlodoaaWFootNe
import Derived.Test.YtiopafdndlodoaaWAt
import Derived.Test.YtiopafdndlodoaaWEqStruct
import Derived.Test.YtiopafdndlodoaaWRepsOne
import Derived.Test.YtiopafdndlodoaaWInv
import Derived.Test.YtiopafdndlodoaaWInvWords
import Derived.Test.YtiopafdndlodoaaWGuard
import Derived.Test.YtiopafdndlodoaaWNEv
import Derived.Test.YtiopafdndlodoaaWMore
namespace Go.Proofs.Ytiopafdndlodoaa.B
open Go.RowKit Go.Proofs.YtiopafdndlodoaaW.PrintWords Go.Proofs.YtiopafdndlodoaaW.PrintLast Go.Proofs.YtiopafdndlodoaaW.PrintMore
attribute [local go_sem] max2_int min2_int max_two min_two max_three min_three max_four min_four   -- for this text's walks alone
set_option linter.unusedVariables false
set_option linter.unusedSimpArgs false



def errW : Option Int → Value
  | none => .nilIface
  | some c => .iface 0 (.int .i64 c)
theorem errW_none : errW none = .nilIface := rfl
theorem errW_some (c : Int) : errW (some c) = .iface 0 (.int .i64 c) := rfl

theorem info3 : (Try.prog.info? 3).map (fun i => (i.zero, i.size, i.bytes)) = some (some (.int .i64 0), 1, 8) := by kernel_rfl
theorem info5 : (Try.prog.info? 5).map (fun i => (i.zero, i.size, i.bytes)) = some (some (.int .u8 0), 1, 1) := by kernel_rfl
-- the values' own types

end Go.Proofs.Ytiopafdndlodoaa.B
