/-
  No cell of these rows narrows 'for every input' (looked for: loops, veiled, ifaces, maps, wideKeys, modest, calm, conditions, laid).
  DERIVED. THE GIVEN ROWS OF THIS SEAT. 6 by the template 'for every input the law returns true; each argument reads behind the call as it read before'; 0 by the template 'total and deterministic' (their statements: YtngohjjepjpdlaaTotals.lean).
  GIVEN WITH THE SEED: the statements are not yours to turn. If you find one false, say at which input.
  Laid BY PROGRAM, IN A SANDBOX (cutbox-rows.mjs): the forced cells as the released guide's own fill.sh prints them over the translation 123944c9271162a2… (all of the seat's roots in one cut). By AI agents, Wed Nov 11 2026. No macro, syntax, notation, axiom, sorry.
-/
import Derived.Test.YtngohjjepjpdlaaChecked
import GoSem.Claim
import GoSem.ClaimJoined
import GoSem.ClaimMapViews
import Derived.JoinedTies
import Derived.KernelRfl
namespace Go.Proofs.Ytngohjjepjpdlaa
/- THE CELL 'sum', in the pinned program and in every row, IS THE sha256 OF THE DUMP (.gsa) THAT YtngohjjepjpdlaaProg.lean LOADS. Nothing in Lean hashes anything: it is a label: what it is worth is what the hold of that sum in a sandbox is worth. -/
noncomputable def Try.pinned : Pinned := { name := "ytngohjjepjpdlaa", sum := "123944c9271162a263f6ee87853e2465469ee9b52e4f4326e92674ed376d6edc", checked := Try.checked }
namespace Rows
def none {H : Type} : Left H := { results := [], args := [] }

/-- 'mooringslaw01.VariTells': WHATEVER THE INPUT: true; the input reads as it did. -/
def variTellsSpec : ChangeSpec := { name := "variTells", fn := fun _ => fun
  | [d1, d2, d3, d4] => { results := [.lit (.bool true)], args := [d1, d2, d3, d4] }
  | _ => none }
def variTellsRow : OpenClaim := { program := "ytngohjjepjpdlaa", sum := "123944c9271162a263f6ee87853e2465469ee9b52e4f4326e92674ed376d6edc", func := "moorings/mooringslaw01.VariTells", spec := "variTells", unfollowed := true, recurses := true, apart := false }
def VariTellsSaid : Prop := variTellsRow.holds Try.pinned (OpenSpec.ofChange variTellsSpec)

/-- ITS FALSE NEIGHBOUR: 'it returns false'. Refute it at one input. -/
def variTellsWrong : ChangeSpec := { name := "variTells", fn := fun _ => fun
  | [d1, d2, d3, d4] => { results := [.lit (.bool false)], args := [d1, d2, d3, d4] }
  | _ => none }
def VariTellsWrongFalsely : Prop := variTellsRow.holds Try.pinned (OpenSpec.ofChange variTellsWrong)

/-- 'mooringslaw01.VariBack': WHATEVER THE INPUT: true; the input reads as it did. -/
def variBackSpec : ChangeSpec := { name := "variBack", fn := fun _ => fun
  | [d1, d2, d3, d4] => { results := [.lit (.bool true)], args := [d1, d2, d3, d4] }
  | _ => none }
def variBackRow : OpenClaim := { program := "ytngohjjepjpdlaa", sum := "123944c9271162a263f6ee87853e2465469ee9b52e4f4326e92674ed376d6edc", func := "moorings/mooringslaw01.VariBack", spec := "variBack", unfollowed := true, recurses := true, apart := false }
def VariBackSaid : Prop := variBackRow.holds Try.pinned (OpenSpec.ofChange variBackSpec)

/-- ITS FALSE NEIGHBOUR: 'it returns false'. Refute it at one input. -/
def variBackWrong : ChangeSpec := { name := "variBack", fn := fun _ => fun
  | [d1, d2, d3, d4] => { results := [.lit (.bool false)], args := [d1, d2, d3, d4] }
  | _ => none }
def VariBackWrongFalsely : Prop := variBackRow.holds Try.pinned (OpenSpec.ofChange variBackWrong)

/-- 'mooringslaw01.VariAll': WHATEVER THE INPUT: true; the input reads as it did. -/
def variAllSpec : ChangeSpec := { name := "variAll", fn := fun _ => fun
  | [d1, d2, d3] => { results := [.lit (.bool true)], args := [d1, d2, d3] }
  | _ => none }
def variAllRow : OpenClaim := { program := "ytngohjjepjpdlaa", sum := "123944c9271162a263f6ee87853e2465469ee9b52e4f4326e92674ed376d6edc", func := "moorings/mooringslaw01.VariAll", spec := "variAll", unfollowed := true, recurses := true, apart := false }
def VariAllSaid : Prop := variAllRow.holds Try.pinned (OpenSpec.ofChange variAllSpec)

/-- ITS FALSE NEIGHBOUR: 'it returns false'. Refute it at one input. -/
def variAllWrong : ChangeSpec := { name := "variAll", fn := fun _ => fun
  | [d1, d2, d3] => { results := [.lit (.bool false)], args := [d1, d2, d3] }
  | _ => none }
def VariAllWrongFalsely : Prop := variAllRow.holds Try.pinned (OpenSpec.ofChange variAllWrong)

/-- 'mooringslaw01.VariLeast': WHATEVER THE INPUT: true; the input reads as it did. -/
def variLeastSpec : ChangeSpec := { name := "variLeast", fn := fun _ => fun
  | [d1, d2, d3] => { results := [.lit (.bool true)], args := [d1, d2, d3] }
  | _ => none }
def variLeastRow : OpenClaim := { program := "ytngohjjepjpdlaa", sum := "123944c9271162a263f6ee87853e2465469ee9b52e4f4326e92674ed376d6edc", func := "moorings/mooringslaw01.VariLeast", spec := "variLeast", unfollowed := true, recurses := true, apart := false }
def VariLeastSaid : Prop := variLeastRow.holds Try.pinned (OpenSpec.ofChange variLeastSpec)

/-- ITS FALSE NEIGHBOUR: 'it returns false'. Refute it at one input. -/
def variLeastWrong : ChangeSpec := { name := "variLeast", fn := fun _ => fun
  | [d1, d2, d3] => { results := [.lit (.bool false)], args := [d1, d2, d3] }
  | _ => none }
def VariLeastWrongFalsely : Prop := variLeastRow.holds Try.pinned (OpenSpec.ofChange variLeastWrong)

/-- 'mooringslaw01.VariCount': WHATEVER THE INPUT: true; the input reads as it did. -/
def variCountSpec : ChangeSpec := { name := "variCount", fn := fun _ => fun
  | [d1, d2] => { results := [.lit (.bool true)], args := [d1, d2] }
  | _ => none }
def variCountRow : OpenClaim := { program := "ytngohjjepjpdlaa", sum := "123944c9271162a263f6ee87853e2465469ee9b52e4f4326e92674ed376d6edc", func := "moorings/mooringslaw01.VariCount", spec := "variCount", unfollowed := true, recurses := true, apart := false }
def VariCountSaid : Prop := variCountRow.holds Try.pinned (OpenSpec.ofChange variCountSpec)

/-- ITS FALSE NEIGHBOUR: 'it returns false'. Refute it at one input. -/
def variCountWrong : ChangeSpec := { name := "variCount", fn := fun _ => fun
  | [d1, d2] => { results := [.lit (.bool false)], args := [d1, d2] }
  | _ => none }
def VariCountWrongFalsely : Prop := variCountRow.holds Try.pinned (OpenSpec.ofChange variCountWrong)

/-- 'mooringslaw01.VariApart': WHATEVER THE INPUT: true; the input reads as it did. -/
def variApartSpec : ChangeSpec := { name := "variApart", fn := fun _ => fun
  | [d1, d2] => { results := [.lit (.bool true)], args := [d1, d2] }
  | _ => none }
def variApartRow : OpenClaim := { program := "ytngohjjepjpdlaa", sum := "123944c9271162a263f6ee87853e2465469ee9b52e4f4326e92674ed376d6edc", func := "moorings/mooringslaw01.VariApart", spec := "variApart", unfollowed := true, recurses := true, apart := false }
def VariApartSaid : Prop := variApartRow.holds Try.pinned (OpenSpec.ofChange variApartSpec)

/-- ITS FALSE NEIGHBOUR: 'it returns false'. Refute it at one input. -/
def variApartWrong : ChangeSpec := { name := "variApart", fn := fun _ => fun
  | [d1, d2] => { results := [.lit (.bool false)], args := [d1, d2] }
  | _ => none }
def VariApartWrongFalsely : Prop := variApartRow.holds Try.pinned (OpenSpec.ofChange variApartWrong)

/- THE SECOND FORM. 'bulk': how many values and letters a reading holds, each counted each time it is reached (what is shared counts as often as it is met; a slice's spare places count too). A statement '..UptoSaid' is the law's where the arguments, and the package variables that the reading takes, are together of bulk at most 1048576: NARROWER than '..Said'. Prove '..Said' where nothing that the law and all that it calls make is longer than what came in: it says more and counts as full. Else prove '..UptoSaid'. A law counts once. -/
mutual
def uptoBulk {H : Type} : DataW H → Nat
  | .lit (.string bytes) => bytes.length + 1
  | .lit _ => 1
  | .nil => 1
  | .ptr d => uptoBulk d + 1
  | .slice elems spare => uptoBulkAll elems + uptoBulkAll spare + 1
  | .agg parts => uptoBulkAll parts + 1
  | .iface _ d => uptoBulk d + 1
  | .map entries => uptoBulkEntries entries + 1
  | .held _ => 1
def uptoBulkAll {H : Type} : List (DataW H) → Nat
  | [] => 0
  | d :: r => uptoBulk d + uptoBulkAll r
def uptoBulkEntries {H : Type} : List (Lit × DataW H) → Nat
  | [] => 0
  | x :: r => uptoBulkEntry x + uptoBulkEntries r
def uptoBulkEntry {H : Type} : Lit × DataW H → Nat
  | (.string bytes, d) => bytes.length + uptoBulk d + 1
  | (_, d) => uptoBulk d + 1
 end
def uptoSmall : (H : Type) → List (DataW H) → Bool := fun _ ds => decide (uptoBulkAll ds ≤ 1048576)
def OpenSpec.upto (s : _root_.Go.ChangeSpec) : _root_.Go.OpenSpec := { _root_.Go.OpenSpec.ofChange s with cond := some uptoSmall }

/-- 'mooringslaw01.VariTells', WHERE WHAT IT READS IS OF BULK AT MOST 1048576: true; the input reads as it did. -/
def variTellsUptoRow : OpenClaim := { program := "ytngohjjepjpdlaa", sum := "123944c9271162a263f6ee87853e2465469ee9b52e4f4326e92674ed376d6edc", func := "moorings/mooringslaw01.VariTells", spec := "variTells", unfollowed := true, recurses := true, apart := false, narrowed := true }
def VariTellsUptoSaid : Prop := variTellsUptoRow.holds Try.pinned (OpenSpec.upto variTellsSpec)

/-- 'mooringslaw01.VariBack', WHERE WHAT IT READS IS OF BULK AT MOST 1048576: true; the input reads as it did. -/
def variBackUptoRow : OpenClaim := { program := "ytngohjjepjpdlaa", sum := "123944c9271162a263f6ee87853e2465469ee9b52e4f4326e92674ed376d6edc", func := "moorings/mooringslaw01.VariBack", spec := "variBack", unfollowed := true, recurses := true, apart := false, narrowed := true }
def VariBackUptoSaid : Prop := variBackUptoRow.holds Try.pinned (OpenSpec.upto variBackSpec)

/-- 'mooringslaw01.VariAll', WHERE WHAT IT READS IS OF BULK AT MOST 1048576: true; the input reads as it did. -/
def variAllUptoRow : OpenClaim := { program := "ytngohjjepjpdlaa", sum := "123944c9271162a263f6ee87853e2465469ee9b52e4f4326e92674ed376d6edc", func := "moorings/mooringslaw01.VariAll", spec := "variAll", unfollowed := true, recurses := true, apart := false, narrowed := true }
def VariAllUptoSaid : Prop := variAllUptoRow.holds Try.pinned (OpenSpec.upto variAllSpec)

/-- 'mooringslaw01.VariLeast', WHERE WHAT IT READS IS OF BULK AT MOST 1048576: true; the input reads as it did. -/
def variLeastUptoRow : OpenClaim := { program := "ytngohjjepjpdlaa", sum := "123944c9271162a263f6ee87853e2465469ee9b52e4f4326e92674ed376d6edc", func := "moorings/mooringslaw01.VariLeast", spec := "variLeast", unfollowed := true, recurses := true, apart := false, narrowed := true }
def VariLeastUptoSaid : Prop := variLeastUptoRow.holds Try.pinned (OpenSpec.upto variLeastSpec)

/-- 'mooringslaw01.VariCount', WHERE WHAT IT READS IS OF BULK AT MOST 1048576: true; the input reads as it did. -/
def variCountUptoRow : OpenClaim := { program := "ytngohjjepjpdlaa", sum := "123944c9271162a263f6ee87853e2465469ee9b52e4f4326e92674ed376d6edc", func := "moorings/mooringslaw01.VariCount", spec := "variCount", unfollowed := true, recurses := true, apart := false, narrowed := true }
def VariCountUptoSaid : Prop := variCountUptoRow.holds Try.pinned (OpenSpec.upto variCountSpec)

/-- 'mooringslaw01.VariApart', WHERE WHAT IT READS IS OF BULK AT MOST 1048576: true; the input reads as it did. -/
def variApartUptoRow : OpenClaim := { program := "ytngohjjepjpdlaa", sum := "123944c9271162a263f6ee87853e2465469ee9b52e4f4326e92674ed376d6edc", func := "moorings/mooringslaw01.VariApart", spec := "variApart", unfollowed := true, recurses := true, apart := false, narrowed := true }
def VariApartUptoSaid : Prop := variApartUptoRow.holds Try.pinned (OpenSpec.upto variApartSpec)

end Rows
end Go.Proofs.Ytngohjjepjpdlaa
