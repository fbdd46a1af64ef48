/- Functions and laws of the program moorings: contracts of the Go functions, and, in a text named ..Law.., that the law returns true at every input that its row lets in. No conditions but those stated. Written for this claim by a run of the printer with some functions given (wip/myprint.sh). -/
import Derived.Test.YtegcphdlkheboaaProg
import Derived.Below
import Derived.Deep.Draws
import Derived.Deep.AppendLies
import Derived.Maps.AppendAt
import Derived.OwnWalk
import Derived.Laws.BytesArg
import Derived.Laws.MakeOwn
import Derived.Laws.OwnMore
import Derived.Deep.OwnRows
import Derived.Tactics
import Derived.Lib.ConvBytes
import Derived.Laws.Slices
import Derived.WalkKit
import Derived.KernelRfl
import Derived.RowKit3
import Derived.Deep.LoopGhost
import Derived.Deep.QuietTactic
import Derived.BigQuiet
import Derived.WideLaws
import Derived.Deep.DeepCutAuto
import Derived.Deep.CutBlock
import Derived.Deep.RegionHeld3
import Derived.Laws.Rows
import Derived.Lib.AppendStr
import Derived.ArgAppend
import Derived.Laws.IdiomCopy
import Derived.OrdersHeld
import Derived.Laws.BitsLemmas
import Derived.RowKit
import Derived.Test.YtegcphdlkheboaaWWords
import Derived.Test.YtegcphdlkheboaaWLast
import Derived.Test.YtegcphdlkheboaaWTab
import Derived.Test.YtegcphdlkheboaaWFour
import Derived.Test.YtegcphdlkheboaaWQPut
import Derived.Test.YtegcphdlkheboaaWApart
import Derived.Test.YtegcphdlkheboaaWArr
import Derived.Test.YtegcphdlkheboaaWZeros
import Derived.Test.YtegcphdlkheboaaWFoot
import Derived.Test.YtegcphdlkheboaaWKept
import Derived.Test.YtegcphdlkheboaaWShare
import Derived.Test.YtegcphdlkheboaaWN
import Derived.Test.YtegcphdlkheboaaWFootNe
import Derived.Test.YtegcphdlkheboaaWAt
import Derived.Test.YtegcphdlkheboaaWEqStruct
import Derived.Test.YtegcphdlkheboaaWRepsOne
import Derived.Test.YtegcphdlkheboaaWInv
import Derived.Test.YtegcphdlkheboaaWInvWords
import Derived.Test.YtegcphdlkheboaaWGuard
import Derived.Test.YtegcphdlkheboaaWNEv
import Derived.Test.YtegcphdlkheboaaWMore
namespace Go.Proofs.Ytegcphdlkheboaa.B
open Go.RowKit Go.Proofs.YtegcphdlkheboaaW.PrintWords Go.Proofs.YtegcphdlkheboaaW.PrintLast Go.Proofs.YtegcphdlkheboaaW.PrintMore
attribute [local go_sem] max2_int min2_int max_two min_two max_three min_three max_four min_four   -- for this text's walks alone
set_option linter.unusedVariables false
set_option linter.unusedSimpArgs false



def errW : Option Int → Value
  | none => .nilIface
  | some c => .iface 0 (.int .i64 c)
theorem errW_none : errW none = .nilIface := rfl
theorem errW_some (c : Int) : errW (some c) = .iface 0 (.int .i64 c) := rfl

theorem info5 : (Try.prog.info? 5).map (fun i => (i.zero, i.size, i.bytes)) = some (some (.int .u8 0), 1, 1) := by kernel_rfl
-- the values' own types

end Go.Proofs.Ytegcphdlkheboaa.B
