/- Functions and laws of the program moorings: contracts of the Go functions, and, in a text named ..Law.., that the law returns true at every input that its row lets in. No conditions but those stated. Written for this claim by a run of the printer with some functions given (wip/myprint.sh). -/
import Derived.Test.YtngohjjepjpdlaaProg
import Derived.Below
import Derived.Deep.Draws
import Derived.Deep.AppendLies
import Derived.Maps.AppendAt
import Derived.OwnWalk
import Derived.Laws.BytesArg
import Derived.Laws.MakeOwn
import Derived.Laws.OwnMore
import Derived.Deep.OwnRows
import Derived.Tactics
import Derived.Lib.ConvBytes
import Derived.Laws.Slices
import Derived.WalkKit
import Derived.KernelRfl
import Derived.RowKit3
import Derived.Deep.LoopGhost
import Derived.Deep.QuietTactic
import Derived.BigQuiet
import Derived.WideLaws
import Derived.Deep.DeepCutAuto
import Derived.Deep.CutBlock
import Derived.Deep.RegionHeld3
import Derived.Laws.Rows
import Derived.Lib.AppendStr
import Derived.ArgAppend
import Derived.Laws.IdiomCopy
import Derived.OrdersHeld
import Derived.Laws.BitsLemmas
import Derived.RowKit
import Derived.Test.YtngohjjepjpdlaaWWords
import Derived.Test.YtngohjjepjpdlaaWLast
import Derived.Test.YtngohjjepjpdlaaWTab
import Derived.Test.YtngohjjepjpdlaaWFour
import Derived.Test.YtngohjjepjpdlaaWQPut
import Derived.Test.YtngohjjepjpdlaaWApart
import Derived.Test.YtngohjjepjpdlaaWArr
import Derived.Test.YtngohjjepjpdlaaWZeros
import Derived.Test.YtngohjjepjpdlaaWFoot
import Derived.Test.YtngohjjepjpdlaaWKept
import Derived.Test.YtngohjjepjpdlaaWShare
import Derived.Test.YtngohjjepjpdlaaWN
import Derived.Test.YtngohjjepjpdlaaWFootNe
import Derived.Test.YtngohjjepjpdlaaWAt
import Derived.Test.YtngohjjepjpdlaaWEqStruct
import Derived.Test.YtngohjjepjpdlaaWRepsOne
import Derived.Test.YtngohjjepjpdlaaWInv
import Derived.Test.YtngohjjepjpdlaaWInvWords
import Derived.Test.YtngohjjepjpdlaaWGuard
import Derived.Test.YtngohjjepjpdlaaWNEv
import Derived.Test.YtngohjjepjpdlaaWMore
namespace Go.Proofs.Ytngohjjepjpdlaa.B
open Go.RowKit Go.Proofs.YtngohjjepjpdlaaW.PrintWords Go.Proofs.YtngohjjepjpdlaaW.PrintLast Go.Proofs.YtngohjjepjpdlaaW.PrintMore
attribute [local go_sem] max2_int min2_int max_two min_two max_three min_three max_four min_four   -- for this text's walks alone
set_option linter.unusedVariables false
set_option linter.unusedSimpArgs false



def errW : Option Int → Value
  | none => .nilIface
  | some c => .iface 0 (.int .i64 c)
theorem errW_none : errW none = .nilIface := rfl
theorem errW_some (c : Int) : errW (some c) = .iface 0 (.int .i64 c) := rfl

theorem info3 : (Try.prog.info? 3).map (fun i => (i.zero, i.size, i.bytes)) = some (some (.int .i64 0), 1, 8) := by kernel_rfl
theorem info5 : (Try.prog.info? 5).map (fun i => (i.zero, i.size, i.bytes)) = some (some (.int .u8 0), 1, 1) := by kernel_rfl
-- the values' own types

end Go.Proofs.Ytngohjjepjpdlaa.B
