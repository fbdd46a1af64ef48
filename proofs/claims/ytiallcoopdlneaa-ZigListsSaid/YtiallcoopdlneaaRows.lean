/-
  No cell of these rows narrows 'for every input' (looked for: loops, veiled, ifaces, maps, wideKeys, modest, calm, conditions, laid).
  DERIVED. THE GIVEN ROWS OF THIS SEAT. 5 by the template 'for every input the law returns true; each argument reads behind the call as it read before'; 0 by the template 'total and deterministic' (their statements: YtiallcoopdlneaaTotals.lean).
  GIVEN WITH THE SEED: the statements are not yours to turn. If you find one false, say at which input.
  Laid BY PROGRAM, IN A SANDBOX (cutbox-rows.mjs): the forced cells as the released guide's own fill.sh prints them over the translation ebc9aee4519e51f8… (all of the seat's roots in one cut). By AI agents, Wed Nov 11 2026. No macro, syntax, notation, axiom, sorry.
-/
import Derived.Test.YtiallcoopdlneaaChecked
import GoSem.Claim
import GoSem.ClaimJoined
import GoSem.ClaimMapViews
import Derived.JoinedTies
import Derived.KernelRfl
namespace Go.Proofs.Ytiallcoopdlneaa
/- THE CELL 'sum', in the pinned program and in every row, IS THE sha256 OF THE DUMP (.gsa) THAT YtiallcoopdlneaaProg.lean LOADS. Nothing in Lean hashes anything: it is a label: what it is worth is what the hold of that sum in a sandbox is worth. -/
noncomputable def Try.pinned : Pinned := { name := "ytiallcoopdlneaa", sum := "ebc9aee4519e51f84563e0686472a33dee8625a89a80cddea79d264b6365fd5c", checked := Try.checked }
namespace Rows
def none {H : Type} : Left H := { results := [], args := [] }

/-- 'mooringslaw02.ZigBack': WHATEVER THE INPUT: true; the input reads as it did. -/
def zigBackSpec : ChangeSpec := { name := "zigBack", fn := fun _ => fun
  | [d1, d2, d3] => { results := [.lit (.bool true)], args := [d1, d2, d3] }
  | _ => none }
def zigBackRow : OpenClaim := { program := "ytiallcoopdlneaa", sum := "ebc9aee4519e51f84563e0686472a33dee8625a89a80cddea79d264b6365fd5c", func := "moorings/mooringslaw02.ZigBack", spec := "zigBack", unfollowed := true, recurses := true, apart := false }
def ZigBackSaid : Prop := zigBackRow.holds Try.pinned (OpenSpec.ofChange zigBackSpec)

/-- ITS FALSE NEIGHBOUR: 'it returns false'. Refute it at one input. -/
def zigBackWrong : ChangeSpec := { name := "zigBack", fn := fun _ => fun
  | [d1, d2, d3] => { results := [.lit (.bool false)], args := [d1, d2, d3] }
  | _ => none }
def ZigBackWrongFalsely : Prop := zigBackRow.holds Try.pinned (OpenSpec.ofChange zigBackWrong)

/-- 'mooringslaw02.ZigLists': WHATEVER THE INPUT: true; the input reads as it did. -/
def zigListsSpec : ChangeSpec := { name := "zigLists", fn := fun _ => fun
  | [d1, d2, d3] => { results := [.lit (.bool true)], args := [d1, d2, d3] }
  | _ => none }
def zigListsRow : OpenClaim := { program := "ytiallcoopdlneaa", sum := "ebc9aee4519e51f84563e0686472a33dee8625a89a80cddea79d264b6365fd5c", func := "moorings/mooringslaw02.ZigLists", spec := "zigLists", unfollowed := true, recurses := true, apart := false }
def ZigListsSaid : Prop := zigListsRow.holds Try.pinned (OpenSpec.ofChange zigListsSpec)

/-- ITS FALSE NEIGHBOUR: 'it returns false'. Refute it at one input. -/
def zigListsWrong : ChangeSpec := { name := "zigLists", fn := fun _ => fun
  | [d1, d2, d3] => { results := [.lit (.bool false)], args := [d1, d2, d3] }
  | _ => none }
def ZigListsWrongFalsely : Prop := zigListsRow.holds Try.pinned (OpenSpec.ofChange zigListsWrong)

/-- 'mooringslaw02.ZigClose': WHATEVER THE INPUT: true; the input reads as it did. -/
def zigCloseSpec : ChangeSpec := { name := "zigClose", fn := fun _ => fun
  | [d] => { results := [.lit (.bool true)], args := [d] }
  | _ => none }
def zigCloseRow : OpenClaim := { program := "ytiallcoopdlneaa", sum := "ebc9aee4519e51f84563e0686472a33dee8625a89a80cddea79d264b6365fd5c", func := "moorings/mooringslaw02.ZigClose", spec := "zigClose", unfollowed := true, recurses := true, apart := false }
def ZigCloseSaid : Prop := zigCloseRow.holds Try.pinned (OpenSpec.ofChange zigCloseSpec)

/-- ITS FALSE NEIGHBOUR: 'it returns false'. Refute it at one input. -/
def zigCloseWrong : ChangeSpec := { name := "zigClose", fn := fun _ => fun
  | [d] => { results := [.lit (.bool false)], args := [d] }
  | _ => none }
def ZigCloseWrongFalsely : Prop := zigCloseRow.holds Try.pinned (OpenSpec.ofChange zigCloseWrong)

/-- 'mooringslaw02.ZigNear': WHATEVER THE INPUT: true; the input reads as it did. -/
def zigNearSpec : ChangeSpec := { name := "zigNear", fn := fun _ => fun
  | [d1, d2] => { results := [.lit (.bool true)], args := [d1, d2] }
  | _ => none }
def zigNearRow : OpenClaim := { program := "ytiallcoopdlneaa", sum := "ebc9aee4519e51f84563e0686472a33dee8625a89a80cddea79d264b6365fd5c", func := "moorings/mooringslaw02.ZigNear", spec := "zigNear", unfollowed := true, recurses := true, apart := false }
def ZigNearSaid : Prop := zigNearRow.holds Try.pinned (OpenSpec.ofChange zigNearSpec)

/-- ITS FALSE NEIGHBOUR: 'it returns false'. Refute it at one input. -/
def zigNearWrong : ChangeSpec := { name := "zigNear", fn := fun _ => fun
  | [d1, d2] => { results := [.lit (.bool false)], args := [d1, d2] }
  | _ => none }
def ZigNearWrongFalsely : Prop := zigNearRow.holds Try.pinned (OpenSpec.ofChange zigNearWrong)

/-- 'mooringslaw02.ZigFlat': WHATEVER THE INPUT: true; the input reads as it did. -/
def zigFlatSpec : ChangeSpec := { name := "zigFlat", fn := fun _ => fun
  | [d1, d2, d3] => { results := [.lit (.bool true)], args := [d1, d2, d3] }
  | _ => none }
def zigFlatRow : OpenClaim := { program := "ytiallcoopdlneaa", sum := "ebc9aee4519e51f84563e0686472a33dee8625a89a80cddea79d264b6365fd5c", func := "moorings/mooringslaw02.ZigFlat", spec := "zigFlat", unfollowed := true, recurses := true, apart := false }
def ZigFlatSaid : Prop := zigFlatRow.holds Try.pinned (OpenSpec.ofChange zigFlatSpec)

/-- ITS FALSE NEIGHBOUR: 'it returns false'. Refute it at one input. -/
def zigFlatWrong : ChangeSpec := { name := "zigFlat", fn := fun _ => fun
  | [d1, d2, d3] => { results := [.lit (.bool false)], args := [d1, d2, d3] }
  | _ => none }
def ZigFlatWrongFalsely : Prop := zigFlatRow.holds Try.pinned (OpenSpec.ofChange zigFlatWrong)

/- THE SECOND FORM. 'bulk': how many values and letters a reading holds, each counted each time it is reached (what is shared counts as often as it is met; a slice's spare places count too). A statement '..UptoSaid' is the law's where the arguments, and the package variables that the reading takes, are together of bulk at most 1048576: NARROWER than '..Said'. Prove '..Said' where nothing that the law and all that it calls make is longer than what came in: it says more and counts as full. Else prove '..UptoSaid'. A law counts once. -/
mutual
def uptoBulk {H : Type} : DataW H → Nat
  | .lit (.string bytes) => bytes.length + 1
  | .lit _ => 1
  | .nil => 1
  | .ptr d => uptoBulk d + 1
  | .slice elems spare => uptoBulkAll elems + uptoBulkAll spare + 1
  | .agg parts => uptoBulkAll parts + 1
  | .iface _ d => uptoBulk d + 1
  | .map entries => uptoBulkEntries entries + 1
  | .held _ => 1
def uptoBulkAll {H : Type} : List (DataW H) → Nat
  | [] => 0
  | d :: r => uptoBulk d + uptoBulkAll r
def uptoBulkEntries {H : Type} : List (Lit × DataW H) → Nat
  | [] => 0
  | x :: r => uptoBulkEntry x + uptoBulkEntries r
def uptoBulkEntry {H : Type} : Lit × DataW H → Nat
  | (.string bytes, d) => bytes.length + uptoBulk d + 1
  | (_, d) => uptoBulk d + 1
 end
def uptoSmall : (H : Type) → List (DataW H) → Bool := fun _ ds => decide (uptoBulkAll ds ≤ 1048576)
def OpenSpec.upto (s : _root_.Go.ChangeSpec) : _root_.Go.OpenSpec := { _root_.Go.OpenSpec.ofChange s with cond := some uptoSmall }

/-- 'mooringslaw02.ZigBack', WHERE WHAT IT READS IS OF BULK AT MOST 1048576: true; the input reads as it did. -/
def zigBackUptoRow : OpenClaim := { program := "ytiallcoopdlneaa", sum := "ebc9aee4519e51f84563e0686472a33dee8625a89a80cddea79d264b6365fd5c", func := "moorings/mooringslaw02.ZigBack", spec := "zigBack", unfollowed := true, recurses := true, apart := false, narrowed := true }
def ZigBackUptoSaid : Prop := zigBackUptoRow.holds Try.pinned (OpenSpec.upto zigBackSpec)

/-- 'mooringslaw02.ZigLists', WHERE WHAT IT READS IS OF BULK AT MOST 1048576: true; the input reads as it did. -/
def zigListsUptoRow : OpenClaim := { program := "ytiallcoopdlneaa", sum := "ebc9aee4519e51f84563e0686472a33dee8625a89a80cddea79d264b6365fd5c", func := "moorings/mooringslaw02.ZigLists", spec := "zigLists", unfollowed := true, recurses := true, apart := false, narrowed := true }
def ZigListsUptoSaid : Prop := zigListsUptoRow.holds Try.pinned (OpenSpec.upto zigListsSpec)

/-- 'mooringslaw02.ZigClose', WHERE WHAT IT READS IS OF BULK AT MOST 1048576: true; the input reads as it did. -/
def zigCloseUptoRow : OpenClaim := { program := "ytiallcoopdlneaa", sum := "ebc9aee4519e51f84563e0686472a33dee8625a89a80cddea79d264b6365fd5c", func := "moorings/mooringslaw02.ZigClose", spec := "zigClose", unfollowed := true, recurses := true, apart := false, narrowed := true }
def ZigCloseUptoSaid : Prop := zigCloseUptoRow.holds Try.pinned (OpenSpec.upto zigCloseSpec)

/-- 'mooringslaw02.ZigNear', WHERE WHAT IT READS IS OF BULK AT MOST 1048576: true; the input reads as it did. -/
def zigNearUptoRow : OpenClaim := { program := "ytiallcoopdlneaa", sum := "ebc9aee4519e51f84563e0686472a33dee8625a89a80cddea79d264b6365fd5c", func := "moorings/mooringslaw02.ZigNear", spec := "zigNear", unfollowed := true, recurses := true, apart := false, narrowed := true }
def ZigNearUptoSaid : Prop := zigNearUptoRow.holds Try.pinned (OpenSpec.upto zigNearSpec)

/-- 'mooringslaw02.ZigFlat', WHERE WHAT IT READS IS OF BULK AT MOST 1048576: true; the input reads as it did. -/
def zigFlatUptoRow : OpenClaim := { program := "ytiallcoopdlneaa", sum := "ebc9aee4519e51f84563e0686472a33dee8625a89a80cddea79d264b6365fd5c", func := "moorings/mooringslaw02.ZigFlat", spec := "zigFlat", unfollowed := true, recurses := true, apart := false, narrowed := true }
def ZigFlatUptoSaid : Prop := zigFlatUptoRow.holds Try.pinned (OpenSpec.upto zigFlatSpec)

end Rows
end Go.Proofs.Ytiallcoopdlneaa
