/-
  No cell of these rows narrows 'for every input' (looked for: loops, veiled, ifaces, maps, wideKeys, modest, calm, conditions, laid).
  DERIVED. THE GIVEN ROWS OF THIS SEAT. 7 by the template 'for every input the law returns true; each argument reads behind the call as it read before'; 0 by the template 'total and deterministic' (their statements: YtahiigcofgnncaaTotals.lean).
  GIVEN WITH THE SEED: the statements are not yours to turn. If you find one false, say at which input.
  Laid BY PROGRAM, IN A SANDBOX (cutbox-rows.mjs): the forced cells as the released guide's own fill.sh prints them over the translation 3af295dcacbd4417… (all of the seat's roots in one cut). By AI agents, Wed Nov 11 2026. No macro, syntax, notation, axiom, sorry.
-/
import Derived.Test.YtahiigcofgnncaaChecked
import GoSem.Claim
import GoSem.ClaimJoined
import GoSem.ClaimMapViews
import Derived.JoinedTies
import Derived.KernelRfl
namespace Go.Proofs.Ytahiigcofgnncaa
/- THE CELL 'sum', in the pinned program and in every row, IS THE sha256 OF THE DUMP (.gsa) THAT YtahiigcofgnncaaProg.lean LOADS. Nothing in Lean hashes anything: it is a label: what it is worth is what the hold of that sum in a sandbox is worth. -/
noncomputable def Try.pinned : Pinned := { name := "ytahiigcofgnncaa", sum := "3af295dcacbd4417dc1392ff367141c15721d4526b01e9af0c6a7df6e5d8c5b3", checked := Try.checked }
namespace Rows
def none {H : Type} : Left H := { results := [], args := [] }

/-- 'mooringslaw06.DiskCrash': WHATEVER THE INPUT: true; the input reads as it did. -/
def diskCrashSpec : ChangeSpec := { name := "diskCrash", fn := fun _ => fun
  | [d1, d2, d3] => { results := [.lit (.bool true)], args := [d1, d2, d3] }
  | _ => none }
def diskCrashRow : OpenClaim := { program := "ytahiigcofgnncaa", sum := "3af295dcacbd4417dc1392ff367141c15721d4526b01e9af0c6a7df6e5d8c5b3", func := "moorings/mooringslaw06.DiskCrash", spec := "diskCrash", unfollowed := true, recurses := true, apart := false }
def DiskCrashSaid : Prop := diskCrashRow.holds Try.pinned (OpenSpec.ofChange diskCrashSpec)

/-- ITS FALSE NEIGHBOUR: 'it returns false'. Refute it at one input. -/
def diskCrashWrong : ChangeSpec := { name := "diskCrash", fn := fun _ => fun
  | [d1, d2, d3] => { results := [.lit (.bool false)], args := [d1, d2, d3] }
  | _ => none }
def DiskCrashWrongFalsely : Prop := diskCrashRow.holds Try.pinned (OpenSpec.ofChange diskCrashWrong)

/-- 'mooringslaw06.DiskRoom': WHATEVER THE INPUT: true; the input reads as it did. -/
def diskRoomSpec : ChangeSpec := { name := "diskRoom", fn := fun _ => fun
  | [d1, d2, d3] => { results := [.lit (.bool true)], args := [d1, d2, d3] }
  | _ => none }
def diskRoomRow : OpenClaim := { program := "ytahiigcofgnncaa", sum := "3af295dcacbd4417dc1392ff367141c15721d4526b01e9af0c6a7df6e5d8c5b3", func := "moorings/mooringslaw06.DiskRoom", spec := "diskRoom", unfollowed := true, recurses := true, apart := false }
def DiskRoomSaid : Prop := diskRoomRow.holds Try.pinned (OpenSpec.ofChange diskRoomSpec)

/-- ITS FALSE NEIGHBOUR: 'it returns false'. Refute it at one input. -/
def diskRoomWrong : ChangeSpec := { name := "diskRoom", fn := fun _ => fun
  | [d1, d2, d3] => { results := [.lit (.bool false)], args := [d1, d2, d3] }
  | _ => none }
def DiskRoomWrongFalsely : Prop := diskRoomRow.holds Try.pinned (OpenSpec.ofChange diskRoomWrong)

/-- 'mooringslaw06.DiskWrites': WHATEVER THE INPUT: true; the input reads as it did. -/
def diskWritesSpec : ChangeSpec := { name := "diskWrites", fn := fun _ => fun
  | [d1, d2, d3, d4, d5] => { results := [.lit (.bool true)], args := [d1, d2, d3, d4, d5] }
  | _ => none }
def diskWritesRow : OpenClaim := { program := "ytahiigcofgnncaa", sum := "3af295dcacbd4417dc1392ff367141c15721d4526b01e9af0c6a7df6e5d8c5b3", func := "moorings/mooringslaw06.DiskWrites", spec := "diskWrites", unfollowed := true, recurses := true, apart := false }
def DiskWritesSaid : Prop := diskWritesRow.holds Try.pinned (OpenSpec.ofChange diskWritesSpec)

/-- ITS FALSE NEIGHBOUR: 'it returns false'. Refute it at one input. -/
def diskWritesWrong : ChangeSpec := { name := "diskWrites", fn := fun _ => fun
  | [d1, d2, d3, d4, d5] => { results := [.lit (.bool false)], args := [d1, d2, d3, d4, d5] }
  | _ => none }
def DiskWritesWrongFalsely : Prop := diskWritesRow.holds Try.pinned (OpenSpec.ofChange diskWritesWrong)

/-- 'mooringslaw06.DiskFiles': WHATEVER THE INPUT: true; the input reads as it did. -/
def diskFilesSpec : ChangeSpec := { name := "diskFiles", fn := fun _ => fun
  | [d1, d2, d3] => { results := [.lit (.bool true)], args := [d1, d2, d3] }
  | _ => none }
def diskFilesRow : OpenClaim := { program := "ytahiigcofgnncaa", sum := "3af295dcacbd4417dc1392ff367141c15721d4526b01e9af0c6a7df6e5d8c5b3", func := "moorings/mooringslaw06.DiskFiles", spec := "diskFiles", inPlace := ["slices.overlaps[moorings/api.File]"], unfollowed := true, recurses := true, apart := false }
def DiskFilesSaid : Prop := diskFilesRow.holds Try.pinned (OpenSpec.ofChange diskFilesSpec)

/-- ITS FALSE NEIGHBOUR: 'it returns false'. Refute it at one input. -/
def diskFilesWrong : ChangeSpec := { name := "diskFiles", fn := fun _ => fun
  | [d1, d2, d3] => { results := [.lit (.bool false)], args := [d1, d2, d3] }
  | _ => none }
def DiskFilesWrongFalsely : Prop := diskFilesRow.holds Try.pinned (OpenSpec.ofChange diskFilesWrong)

/-- 'mooringslaw06.DiskStays': WHATEVER THE INPUT: true; the input reads as it did. -/
def diskStaysSpec : ChangeSpec := { name := "diskStays", fn := fun _ => fun
  | [d1, d2] => { results := [.lit (.bool true)], args := [d1, d2] }
  | _ => none }
def diskStaysRow : OpenClaim := { program := "ytahiigcofgnncaa", sum := "3af295dcacbd4417dc1392ff367141c15721d4526b01e9af0c6a7df6e5d8c5b3", func := "moorings/mooringslaw06.DiskStays", spec := "diskStays", inPlace := ["slices.overlaps[moorings/api.File]"], unfollowed := true, recurses := true, apart := false }
def DiskStaysSaid : Prop := diskStaysRow.holds Try.pinned (OpenSpec.ofChange diskStaysSpec)

/-- ITS FALSE NEIGHBOUR: 'it returns false'. Refute it at one input. -/
def diskStaysWrong : ChangeSpec := { name := "diskStays", fn := fun _ => fun
  | [d1, d2] => { results := [.lit (.bool false)], args := [d1, d2] }
  | _ => none }
def DiskStaysWrongFalsely : Prop := diskStaysRow.holds Try.pinned (OpenSpec.ofChange diskStaysWrong)

/-- 'mooringslaw06.DiskSure': WHATEVER THE INPUT: true; the input reads as it did. -/
def diskSureSpec : ChangeSpec := { name := "diskSure", fn := fun _ => fun
  | [d1, d2, d3] => { results := [.lit (.bool true)], args := [d1, d2, d3] }
  | _ => none }
def diskSureRow : OpenClaim := { program := "ytahiigcofgnncaa", sum := "3af295dcacbd4417dc1392ff367141c15721d4526b01e9af0c6a7df6e5d8c5b3", func := "moorings/mooringslaw06.DiskSure", spec := "diskSure", inPlace := ["slices.overlaps[moorings/api.File]"], unfollowed := true, recurses := true, apart := false }
def DiskSureSaid : Prop := diskSureRow.holds Try.pinned (OpenSpec.ofChange diskSureSpec)

/-- ITS FALSE NEIGHBOUR: 'it returns false'. Refute it at one input. -/
def diskSureWrong : ChangeSpec := { name := "diskSure", fn := fun _ => fun
  | [d1, d2, d3] => { results := [.lit (.bool false)], args := [d1, d2, d3] }
  | _ => none }
def DiskSureWrongFalsely : Prop := diskSureRow.holds Try.pinned (OpenSpec.ofChange diskSureWrong)

/-- 'mooringslaw06.DiskTells': WHATEVER THE INPUT: true; the input reads as it did. -/
def diskTellsSpec : ChangeSpec := { name := "diskTells", fn := fun _ => fun
  | [d1, d2, d3, d4, d5] => { results := [.lit (.bool true)], args := [d1, d2, d3, d4, d5] }
  | _ => none }
def diskTellsRow : OpenClaim := { program := "ytahiigcofgnncaa", sum := "3af295dcacbd4417dc1392ff367141c15721d4526b01e9af0c6a7df6e5d8c5b3", func := "moorings/mooringslaw06.DiskTells", spec := "diskTells", inPlace := ["slices.overlaps[moorings/api.File]"], unfollowed := true, recurses := true, apart := false }
def DiskTellsSaid : Prop := diskTellsRow.holds Try.pinned (OpenSpec.ofChange diskTellsSpec)

/-- ITS FALSE NEIGHBOUR: 'it returns false'. Refute it at one input. -/
def diskTellsWrong : ChangeSpec := { name := "diskTells", fn := fun _ => fun
  | [d1, d2, d3, d4, d5] => { results := [.lit (.bool false)], args := [d1, d2, d3, d4, d5] }
  | _ => none }
def DiskTellsWrongFalsely : Prop := diskTellsRow.holds Try.pinned (OpenSpec.ofChange diskTellsWrong)

/- THE SECOND FORM. 'bulk': how many values and letters a reading holds, each counted each time it is reached (what is shared counts as often as it is met; a slice's spare places count too). A statement '..UptoSaid' is the law's where the arguments, and the package variables that the reading takes, are together of bulk at most 1048576: NARROWER than '..Said'. Prove '..Said' where nothing that the law and all that it calls make is longer than what came in: it says more and counts as full. Else prove '..UptoSaid'. A law counts once. -/
mutual
def uptoBulk {H : Type} : DataW H → Nat
  | .lit (.string bytes) => bytes.length + 1
  | .lit _ => 1
  | .nil => 1
  | .ptr d => uptoBulk d + 1
  | .slice elems spare => uptoBulkAll elems + uptoBulkAll spare + 1
  | .agg parts => uptoBulkAll parts + 1
  | .iface _ d => uptoBulk d + 1
  | .map entries => uptoBulkEntries entries + 1
  | .held _ => 1
def uptoBulkAll {H : Type} : List (DataW H) → Nat
  | [] => 0
  | d :: r => uptoBulk d + uptoBulkAll r
def uptoBulkEntries {H : Type} : List (Lit × DataW H) → Nat
  | [] => 0
  | x :: r => uptoBulkEntry x + uptoBulkEntries r
def uptoBulkEntry {H : Type} : Lit × DataW H → Nat
  | (.string bytes, d) => bytes.length + uptoBulk d + 1
  | (_, d) => uptoBulk d + 1
 end
def uptoSmall : (H : Type) → List (DataW H) → Bool := fun _ ds => decide (uptoBulkAll ds ≤ 1048576)
def OpenSpec.upto (s : _root_.Go.ChangeSpec) : _root_.Go.OpenSpec := { _root_.Go.OpenSpec.ofChange s with cond := some uptoSmall }

/-- 'mooringslaw06.DiskCrash', WHERE WHAT IT READS IS OF BULK AT MOST 1048576: true; the input reads as it did. -/
def diskCrashUptoRow : OpenClaim := { program := "ytahiigcofgnncaa", sum := "3af295dcacbd4417dc1392ff367141c15721d4526b01e9af0c6a7df6e5d8c5b3", func := "moorings/mooringslaw06.DiskCrash", spec := "diskCrash", unfollowed := true, recurses := true, apart := false, narrowed := true }
def DiskCrashUptoSaid : Prop := diskCrashUptoRow.holds Try.pinned (OpenSpec.upto diskCrashSpec)

/-- 'mooringslaw06.DiskRoom', WHERE WHAT IT READS IS OF BULK AT MOST 1048576: true; the input reads as it did. -/
def diskRoomUptoRow : OpenClaim := { program := "ytahiigcofgnncaa", sum := "3af295dcacbd4417dc1392ff367141c15721d4526b01e9af0c6a7df6e5d8c5b3", func := "moorings/mooringslaw06.DiskRoom", spec := "diskRoom", unfollowed := true, recurses := true, apart := false, narrowed := true }
def DiskRoomUptoSaid : Prop := diskRoomUptoRow.holds Try.pinned (OpenSpec.upto diskRoomSpec)

/-- 'mooringslaw06.DiskWrites', WHERE WHAT IT READS IS OF BULK AT MOST 1048576: true; the input reads as it did. -/
def diskWritesUptoRow : OpenClaim := { program := "ytahiigcofgnncaa", sum := "3af295dcacbd4417dc1392ff367141c15721d4526b01e9af0c6a7df6e5d8c5b3", func := "moorings/mooringslaw06.DiskWrites", spec := "diskWrites", unfollowed := true, recurses := true, apart := false, narrowed := true }
def DiskWritesUptoSaid : Prop := diskWritesUptoRow.holds Try.pinned (OpenSpec.upto diskWritesSpec)

/-- 'mooringslaw06.DiskFiles', WHERE WHAT IT READS IS OF BULK AT MOST 1048576: true; the input reads as it did. -/
def diskFilesUptoRow : OpenClaim := { program := "ytahiigcofgnncaa", sum := "3af295dcacbd4417dc1392ff367141c15721d4526b01e9af0c6a7df6e5d8c5b3", func := "moorings/mooringslaw06.DiskFiles", spec := "diskFiles", inPlace := ["slices.overlaps[moorings/api.File]"], unfollowed := true, recurses := true, apart := false, narrowed := true }
def DiskFilesUptoSaid : Prop := diskFilesUptoRow.holds Try.pinned (OpenSpec.upto diskFilesSpec)

/-- 'mooringslaw06.DiskStays', WHERE WHAT IT READS IS OF BULK AT MOST 1048576: true; the input reads as it did. -/
def diskStaysUptoRow : OpenClaim := { program := "ytahiigcofgnncaa", sum := "3af295dcacbd4417dc1392ff367141c15721d4526b01e9af0c6a7df6e5d8c5b3", func := "moorings/mooringslaw06.DiskStays", spec := "diskStays", inPlace := ["slices.overlaps[moorings/api.File]"], unfollowed := true, recurses := true, apart := false, narrowed := true }
def DiskStaysUptoSaid : Prop := diskStaysUptoRow.holds Try.pinned (OpenSpec.upto diskStaysSpec)

/-- 'mooringslaw06.DiskSure', WHERE WHAT IT READS IS OF BULK AT MOST 1048576: true; the input reads as it did. -/
def diskSureUptoRow : OpenClaim := { program := "ytahiigcofgnncaa", sum := "3af295dcacbd4417dc1392ff367141c15721d4526b01e9af0c6a7df6e5d8c5b3", func := "moorings/mooringslaw06.DiskSure", spec := "diskSure", inPlace := ["slices.overlaps[moorings/api.File]"], unfollowed := true, recurses := true, apart := false, narrowed := true }
def DiskSureUptoSaid : Prop := diskSureUptoRow.holds Try.pinned (OpenSpec.upto diskSureSpec)

/-- 'mooringslaw06.DiskTells', WHERE WHAT IT READS IS OF BULK AT MOST 1048576: true; the input reads as it did. -/
def diskTellsUptoRow : OpenClaim := { program := "ytahiigcofgnncaa", sum := "3af295dcacbd4417dc1392ff367141c15721d4526b01e9af0c6a7df6e5d8c5b3", func := "moorings/mooringslaw06.DiskTells", spec := "diskTells", inPlace := ["slices.overlaps[moorings/api.File]"], unfollowed := true, recurses := true, apart := false, narrowed := true }
def DiskTellsUptoSaid : Prop := diskTellsUptoRow.holds Try.pinned (OpenSpec.upto diskTellsSpec)

end Rows
end Go.Proofs.Ytahiigcofgnncaa
