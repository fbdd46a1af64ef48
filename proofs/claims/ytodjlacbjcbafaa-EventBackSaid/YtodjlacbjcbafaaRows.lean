/-
  No cell of these rows narrows 'for every input' (looked for: loops, veiled, ifaces, maps, wideKeys, modest, calm, conditions, laid).
  DERIVED. THE GIVEN ROWS OF THIS SEAT. 7 by the template 'for every input the law returns true; each argument reads behind the call as it read before'; 0 by the template 'total and deterministic' (their statements: YtodjlacbjcbafaaTotals.lean).
  GIVEN WITH THE SEED: the statements are not yours to turn. If you find one false, say at which input.
  Laid BY PROGRAM, IN A SANDBOX (cutbox-rows.mjs): the forced cells as the released guide's own fill.sh prints them over the translation e54dcdadfe5f2af5… (all of the seat's roots in one cut). By AI agents, Wed Nov 11 2026. No macro, syntax, notation, axiom, sorry.
-/
import Derived.Test.YtodjlacbjcbafaaChecked
import GoSem.Claim
import GoSem.ClaimJoined
import GoSem.ClaimMapViews
import Derived.JoinedTies
import Derived.KernelRfl
namespace Go.Proofs.Ytodjlacbjcbafaa
/- THE CELL 'sum', in the pinned program and in every row, IS THE sha256 OF THE DUMP (.gsa) THAT YtodjlacbjcbafaaProg.lean LOADS. Nothing in Lean hashes anything: it is a label: what it is worth is what the hold of that sum in a sandbox is worth. -/
noncomputable def Try.pinned : Pinned := { name := "ytodjlacbjcbafaa", sum := "e54dcdadfe5f2af51bda12dc574240d15af0d73b6b02c957424811acaa25ae7d", checked := Try.checked }
namespace Rows
def none {H : Type} : Left H := { results := [], args := [] }

/-- 'mooringslaw14.EventTells': WHATEVER THE INPUT: true; the input reads as it did. -/
def eventTellsSpec : ChangeSpec := { name := "eventTells", fn := fun _ => fun
  | [d1, d2, d3, d4] => { results := [.lit (.bool true)], args := [d1, d2, d3, d4] }
  | _ => none }
def eventTellsRow : OpenClaim := { program := "ytodjlacbjcbafaa", sum := "e54dcdadfe5f2af51bda12dc574240d15af0d73b6b02c957424811acaa25ae7d", func := "moorings/mooringslaw14.EventTells", spec := "eventTells", unfollowed := true, recurses := true, apart := false }
def EventTellsSaid : Prop := eventTellsRow.holds Try.pinned (OpenSpec.ofChange eventTellsSpec)

/-- ITS FALSE NEIGHBOUR: 'it returns false'. Refute it at one input. -/
def eventTellsWrong : ChangeSpec := { name := "eventTells", fn := fun _ => fun
  | [d1, d2, d3, d4] => { results := [.lit (.bool false)], args := [d1, d2, d3, d4] }
  | _ => none }
def EventTellsWrongFalsely : Prop := eventTellsRow.holds Try.pinned (OpenSpec.ofChange eventTellsWrong)

/-- 'mooringslaw14.EventBack': WHATEVER THE INPUT: true; the input reads as it did. -/
def eventBackSpec : ChangeSpec := { name := "eventBack", fn := fun _ => fun
  | [d1, d2, d3, d4] => { results := [.lit (.bool true)], args := [d1, d2, d3, d4] }
  | _ => none }
def eventBackRow : OpenClaim := { program := "ytodjlacbjcbafaa", sum := "e54dcdadfe5f2af51bda12dc574240d15af0d73b6b02c957424811acaa25ae7d", func := "moorings/mooringslaw14.EventBack", spec := "eventBack", unfollowed := true, recurses := true, apart := false }
def EventBackSaid : Prop := eventBackRow.holds Try.pinned (OpenSpec.ofChange eventBackSpec)

/-- ITS FALSE NEIGHBOUR: 'it returns false'. Refute it at one input. -/
def eventBackWrong : ChangeSpec := { name := "eventBack", fn := fun _ => fun
  | [d1, d2, d3, d4] => { results := [.lit (.bool false)], args := [d1, d2, d3, d4] }
  | _ => none }
def EventBackWrongFalsely : Prop := eventBackRow.holds Try.pinned (OpenSpec.ofChange eventBackWrong)

/-- 'mooringslaw14.EventShort': WHATEVER THE INPUT: true; the input reads as it did. -/
def eventShortSpec : ChangeSpec := { name := "eventShort", fn := fun _ => fun
  | [d1, d2] => { results := [.lit (.bool true)], args := [d1, d2] }
  | _ => none }
def eventShortRow : OpenClaim := { program := "ytodjlacbjcbafaa", sum := "e54dcdadfe5f2af51bda12dc574240d15af0d73b6b02c957424811acaa25ae7d", func := "moorings/mooringslaw14.EventShort", spec := "eventShort", unfollowed := true, recurses := true, apart := false }
def EventShortSaid : Prop := eventShortRow.holds Try.pinned (OpenSpec.ofChange eventShortSpec)

/-- ITS FALSE NEIGHBOUR: 'it returns false'. Refute it at one input. -/
def eventShortWrong : ChangeSpec := { name := "eventShort", fn := fun _ => fun
  | [d1, d2] => { results := [.lit (.bool false)], args := [d1, d2] }
  | _ => none }
def EventShortWrongFalsely : Prop := eventShortRow.holds Try.pinned (OpenSpec.ofChange eventShortWrong)

/-- 'mooringslaw14.EventJoins': WHATEVER THE INPUT: true; the input reads as it did. -/
def eventJoinsSpec : ChangeSpec := { name := "eventJoins", fn := fun _ => fun
  | [d1, d2, d3] => { results := [.lit (.bool true)], args := [d1, d2, d3] }
  | _ => none }
def eventJoinsRow : OpenClaim := { program := "ytodjlacbjcbafaa", sum := "e54dcdadfe5f2af51bda12dc574240d15af0d73b6b02c957424811acaa25ae7d", func := "moorings/mooringslaw14.EventJoins", spec := "eventJoins", unfollowed := true, recurses := true, apart := false }
def EventJoinsSaid : Prop := eventJoinsRow.holds Try.pinned (OpenSpec.ofChange eventJoinsSpec)

/-- ITS FALSE NEIGHBOUR: 'it returns false'. Refute it at one input. -/
def eventJoinsWrong : ChangeSpec := { name := "eventJoins", fn := fun _ => fun
  | [d1, d2, d3] => { results := [.lit (.bool false)], args := [d1, d2, d3] }
  | _ => none }
def EventJoinsWrongFalsely : Prop := eventJoinsRow.holds Try.pinned (OpenSpec.ofChange eventJoinsWrong)

/-- 'mooringslaw14.EventStays': WHATEVER THE INPUT: true; the input reads as it did. -/
def eventStaysSpec : ChangeSpec := { name := "eventStays", fn := fun _ => fun
  | [d1, d2, d3] => { results := [.lit (.bool true)], args := [d1, d2, d3] }
  | _ => none }
def eventStaysRow : OpenClaim := { program := "ytodjlacbjcbafaa", sum := "e54dcdadfe5f2af51bda12dc574240d15af0d73b6b02c957424811acaa25ae7d", func := "moorings/mooringslaw14.EventStays", spec := "eventStays", unfollowed := true, recurses := true, apart := false }
def EventStaysSaid : Prop := eventStaysRow.holds Try.pinned (OpenSpec.ofChange eventStaysSpec)

/-- ITS FALSE NEIGHBOUR: 'it returns false'. Refute it at one input. -/
def eventStaysWrong : ChangeSpec := { name := "eventStays", fn := fun _ => fun
  | [d1, d2, d3] => { results := [.lit (.bool false)], args := [d1, d2, d3] }
  | _ => none }
def EventStaysWrongFalsely : Prop := eventStaysRow.holds Try.pinned (OpenSpec.ofChange eventStaysWrong)

/-- 'mooringslaw14.EventCut': WHATEVER THE INPUT: true; the input reads as it did. -/
def eventCutSpec : ChangeSpec := { name := "eventCut", fn := fun _ => fun
  | [d1, d2, d3] => { results := [.lit (.bool true)], args := [d1, d2, d3] }
  | _ => none }
def eventCutRow : OpenClaim := { program := "ytodjlacbjcbafaa", sum := "e54dcdadfe5f2af51bda12dc574240d15af0d73b6b02c957424811acaa25ae7d", func := "moorings/mooringslaw14.EventCut", spec := "eventCut", unfollowed := true, recurses := true, apart := false }
def EventCutSaid : Prop := eventCutRow.holds Try.pinned (OpenSpec.ofChange eventCutSpec)

/-- ITS FALSE NEIGHBOUR: 'it returns false'. Refute it at one input. -/
def eventCutWrong : ChangeSpec := { name := "eventCut", fn := fun _ => fun
  | [d1, d2, d3] => { results := [.lit (.bool false)], args := [d1, d2, d3] }
  | _ => none }
def EventCutWrongFalsely : Prop := eventCutRow.holds Try.pinned (OpenSpec.ofChange eventCutWrong)

/-- 'mooringslaw14.EventNone': WHATEVER THE INPUT: true; the input reads as it did. -/
def eventNoneSpec : ChangeSpec := { name := "eventNone", fn := fun _ => fun
  | [d1, d2] => { results := [.lit (.bool true)], args := [d1, d2] }
  | _ => none }
def eventNoneRow : OpenClaim := { program := "ytodjlacbjcbafaa", sum := "e54dcdadfe5f2af51bda12dc574240d15af0d73b6b02c957424811acaa25ae7d", func := "moorings/mooringslaw14.EventNone", spec := "eventNone", unfollowed := true, recurses := true, apart := false }
def EventNoneSaid : Prop := eventNoneRow.holds Try.pinned (OpenSpec.ofChange eventNoneSpec)

/-- ITS FALSE NEIGHBOUR: 'it returns false'. Refute it at one input. -/
def eventNoneWrong : ChangeSpec := { name := "eventNone", fn := fun _ => fun
  | [d1, d2] => { results := [.lit (.bool false)], args := [d1, d2] }
  | _ => none }
def EventNoneWrongFalsely : Prop := eventNoneRow.holds Try.pinned (OpenSpec.ofChange eventNoneWrong)

/- THE SECOND FORM. 'bulk': how many values and letters a reading holds, each counted each time it is reached (what is shared counts as often as it is met; a slice's spare places count too). A statement '..UptoSaid' is the law's where the arguments, and the package variables that the reading takes, are together of bulk at most 1048576: NARROWER than '..Said'. Prove '..Said' where nothing that the law and all that it calls make is longer than what came in: it says more and counts as full. Else prove '..UptoSaid'. A law counts once. -/
mutual
def uptoBulk {H : Type} : DataW H → Nat
  | .lit (.string bytes) => bytes.length + 1
  | .lit _ => 1
  | .nil => 1
  | .ptr d => uptoBulk d + 1
  | .slice elems spare => uptoBulkAll elems + uptoBulkAll spare + 1
  | .agg parts => uptoBulkAll parts + 1
  | .iface _ d => uptoBulk d + 1
  | .map entries => uptoBulkEntries entries + 1
  | .held _ => 1
def uptoBulkAll {H : Type} : List (DataW H) → Nat
  | [] => 0
  | d :: r => uptoBulk d + uptoBulkAll r
def uptoBulkEntries {H : Type} : List (Lit × DataW H) → Nat
  | [] => 0
  | x :: r => uptoBulkEntry x + uptoBulkEntries r
def uptoBulkEntry {H : Type} : Lit × DataW H → Nat
  | (.string bytes, d) => bytes.length + uptoBulk d + 1
  | (_, d) => uptoBulk d + 1
 end
def uptoSmall : (H : Type) → List (DataW H) → Bool := fun _ ds => decide (uptoBulkAll ds ≤ 1048576)
def OpenSpec.upto (s : _root_.Go.ChangeSpec) : _root_.Go.OpenSpec := { _root_.Go.OpenSpec.ofChange s with cond := some uptoSmall }

/-- 'mooringslaw14.EventTells', WHERE WHAT IT READS IS OF BULK AT MOST 1048576: true; the input reads as it did. -/
def eventTellsUptoRow : OpenClaim := { program := "ytodjlacbjcbafaa", sum := "e54dcdadfe5f2af51bda12dc574240d15af0d73b6b02c957424811acaa25ae7d", func := "moorings/mooringslaw14.EventTells", spec := "eventTells", unfollowed := true, recurses := true, apart := false, narrowed := true }
def EventTellsUptoSaid : Prop := eventTellsUptoRow.holds Try.pinned (OpenSpec.upto eventTellsSpec)

/-- 'mooringslaw14.EventBack', WHERE WHAT IT READS IS OF BULK AT MOST 1048576: true; the input reads as it did. -/
def eventBackUptoRow : OpenClaim := { program := "ytodjlacbjcbafaa", sum := "e54dcdadfe5f2af51bda12dc574240d15af0d73b6b02c957424811acaa25ae7d", func := "moorings/mooringslaw14.EventBack", spec := "eventBack", unfollowed := true, recurses := true, apart := false, narrowed := true }
def EventBackUptoSaid : Prop := eventBackUptoRow.holds Try.pinned (OpenSpec.upto eventBackSpec)

/-- 'mooringslaw14.EventShort', WHERE WHAT IT READS IS OF BULK AT MOST 1048576: true; the input reads as it did. -/
def eventShortUptoRow : OpenClaim := { program := "ytodjlacbjcbafaa", sum := "e54dcdadfe5f2af51bda12dc574240d15af0d73b6b02c957424811acaa25ae7d", func := "moorings/mooringslaw14.EventShort", spec := "eventShort", unfollowed := true, recurses := true, apart := false, narrowed := true }
def EventShortUptoSaid : Prop := eventShortUptoRow.holds Try.pinned (OpenSpec.upto eventShortSpec)

/-- 'mooringslaw14.EventJoins', WHERE WHAT IT READS IS OF BULK AT MOST 1048576: true; the input reads as it did. -/
def eventJoinsUptoRow : OpenClaim := { program := "ytodjlacbjcbafaa", sum := "e54dcdadfe5f2af51bda12dc574240d15af0d73b6b02c957424811acaa25ae7d", func := "moorings/mooringslaw14.EventJoins", spec := "eventJoins", unfollowed := true, recurses := true, apart := false, narrowed := true }
def EventJoinsUptoSaid : Prop := eventJoinsUptoRow.holds Try.pinned (OpenSpec.upto eventJoinsSpec)

/-- 'mooringslaw14.EventStays', WHERE WHAT IT READS IS OF BULK AT MOST 1048576: true; the input reads as it did. -/
def eventStaysUptoRow : OpenClaim := { program := "ytodjlacbjcbafaa", sum := "e54dcdadfe5f2af51bda12dc574240d15af0d73b6b02c957424811acaa25ae7d", func := "moorings/mooringslaw14.EventStays", spec := "eventStays", unfollowed := true, recurses := true, apart := false, narrowed := true }
def EventStaysUptoSaid : Prop := eventStaysUptoRow.holds Try.pinned (OpenSpec.upto eventStaysSpec)

/-- 'mooringslaw14.EventCut', WHERE WHAT IT READS IS OF BULK AT MOST 1048576: true; the input reads as it did. -/
def eventCutUptoRow : OpenClaim := { program := "ytodjlacbjcbafaa", sum := "e54dcdadfe5f2af51bda12dc574240d15af0d73b6b02c957424811acaa25ae7d", func := "moorings/mooringslaw14.EventCut", spec := "eventCut", unfollowed := true, recurses := true, apart := false, narrowed := true }
def EventCutUptoSaid : Prop := eventCutUptoRow.holds Try.pinned (OpenSpec.upto eventCutSpec)

/-- 'mooringslaw14.EventNone', WHERE WHAT IT READS IS OF BULK AT MOST 1048576: true; the input reads as it did. -/
def eventNoneUptoRow : OpenClaim := { program := "ytodjlacbjcbafaa", sum := "e54dcdadfe5f2af51bda12dc574240d15af0d73b6b02c957424811acaa25ae7d", func := "moorings/mooringslaw14.EventNone", spec := "eventNone", unfollowed := true, recurses := true, apart := false, narrowed := true }
def EventNoneUptoSaid : Prop := eventNoneUptoRow.holds Try.pinned (OpenSpec.upto eventNoneSpec)

end Rows
end Go.Proofs.Ytodjlacbjcbafaa
