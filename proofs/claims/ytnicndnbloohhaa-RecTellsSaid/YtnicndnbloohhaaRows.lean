/-
  No cell of these rows narrows 'for every input' (looked for: loops, veiled, ifaces, maps, wideKeys, modest, calm, conditions, laid).
  DERIVED. THE GIVEN ROWS OF THIS SEAT. 7 by the template 'for every input the law returns true; each argument reads behind the call as it read before'; 0 by the template 'total and deterministic' (their statements: YtnicndnbloohhaaTotals.lean).
  GIVEN WITH THE SEED: the statements are not yours to turn. If you find one false, say at which input.
  Laid BY PROGRAM, IN A SANDBOX (cutbox-rows.mjs): the forced cells as the released guide's own fill.sh prints them over the translation 207e212e4c17d788… (all of the seat's roots in one cut). By AI agents, Wed Nov 11 2026. No macro, syntax, notation, axiom, sorry.
-/
import Derived.Test.YtnicndnbloohhaaChecked
import GoSem.Claim
import GoSem.ClaimJoined
import GoSem.ClaimMapViews
import Derived.JoinedTies
import Derived.KernelRfl
namespace Go.Proofs.Ytnicndnbloohhaa
/- THE CELL 'sum', in the pinned program and in every row, IS THE sha256 OF THE DUMP (.gsa) THAT YtnicndnbloohhaaProg.lean LOADS. Nothing in Lean hashes anything: it is a label: what it is worth is what the hold of that sum in a sandbox is worth. -/
noncomputable def Try.pinned : Pinned := { name := "ytnicndnbloohhaa", sum := "207e212e4c17d788249edb28fc60bf90aeafa009cb74c93c57a50cd2c74708ee", checked := Try.checked }
namespace Rows
def none {H : Type} : Left H := { results := [], args := [] }

/-- 'mooringslaw05.RecTells': WHATEVER THE INPUT: true; the input reads as it did. -/
def recTellsSpec : ChangeSpec := { name := "recTells", fn := fun _ => fun
  | [d1, d2, d3, d4] => { results := [.lit (.bool true)], args := [d1, d2, d3, d4] }
  | _ => none }
def recTellsRow : OpenClaim := { program := "ytnicndnbloohhaa", sum := "207e212e4c17d788249edb28fc60bf90aeafa009cb74c93c57a50cd2c74708ee", func := "moorings/mooringslaw05.RecTells", spec := "recTells", unfollowed := true, recurses := true, apart := false }
def RecTellsSaid : Prop := recTellsRow.holds Try.pinned (OpenSpec.ofChange recTellsSpec)

/-- ITS FALSE NEIGHBOUR: 'it returns false'. Refute it at one input. -/
def recTellsWrong : ChangeSpec := { name := "recTells", fn := fun _ => fun
  | [d1, d2, d3, d4] => { results := [.lit (.bool false)], args := [d1, d2, d3, d4] }
  | _ => none }
def RecTellsWrongFalsely : Prop := recTellsRow.holds Try.pinned (OpenSpec.ofChange recTellsWrong)

/-- 'mooringslaw05.RecBack': WHATEVER THE INPUT: true; the input reads as it did. -/
def recBackSpec : ChangeSpec := { name := "recBack", fn := fun _ => fun
  | [d1, d2, d3, d4] => { results := [.lit (.bool true)], args := [d1, d2, d3, d4] }
  | _ => none }
def recBackRow : OpenClaim := { program := "ytnicndnbloohhaa", sum := "207e212e4c17d788249edb28fc60bf90aeafa009cb74c93c57a50cd2c74708ee", func := "moorings/mooringslaw05.RecBack", spec := "recBack", unfollowed := true, recurses := true, apart := false }
def RecBackSaid : Prop := recBackRow.holds Try.pinned (OpenSpec.ofChange recBackSpec)

/-- ITS FALSE NEIGHBOUR: 'it returns false'. Refute it at one input. -/
def recBackWrong : ChangeSpec := { name := "recBack", fn := fun _ => fun
  | [d1, d2, d3, d4] => { results := [.lit (.bool false)], args := [d1, d2, d3, d4] }
  | _ => none }
def RecBackWrongFalsely : Prop := recBackRow.holds Try.pinned (OpenSpec.ofChange recBackWrong)

/-- 'mooringslaw05.RecTorn': WHATEVER THE INPUT: true; the input reads as it did. -/
def recTornSpec : ChangeSpec := { name := "recTorn", fn := fun _ => fun
  | [d1, d2, d3] => { results := [.lit (.bool true)], args := [d1, d2, d3] }
  | _ => none }
def recTornRow : OpenClaim := { program := "ytnicndnbloohhaa", sum := "207e212e4c17d788249edb28fc60bf90aeafa009cb74c93c57a50cd2c74708ee", func := "moorings/mooringslaw05.RecTorn", spec := "recTorn", unfollowed := true, recurses := true, apart := false }
def RecTornSaid : Prop := recTornRow.holds Try.pinned (OpenSpec.ofChange recTornSpec)

/-- ITS FALSE NEIGHBOUR: 'it returns false'. Refute it at one input. -/
def recTornWrong : ChangeSpec := { name := "recTorn", fn := fun _ => fun
  | [d1, d2, d3] => { results := [.lit (.bool false)], args := [d1, d2, d3] }
  | _ => none }
def RecTornWrongFalsely : Prop := recTornRow.holds Try.pinned (OpenSpec.ofChange recTornWrong)

/-- 'mooringslaw05.RecSpoiled': WHATEVER THE INPUT: true; the input reads as it did. -/
def recSpoiledSpec : ChangeSpec := { name := "recSpoiled", fn := fun _ => fun
  | [d1, d2, d3] => { results := [.lit (.bool true)], args := [d1, d2, d3] }
  | _ => none }
def recSpoiledRow : OpenClaim := { program := "ytnicndnbloohhaa", sum := "207e212e4c17d788249edb28fc60bf90aeafa009cb74c93c57a50cd2c74708ee", func := "moorings/mooringslaw05.RecSpoiled", spec := "recSpoiled", unfollowed := true, recurses := true, apart := false }
def RecSpoiledSaid : Prop := recSpoiledRow.holds Try.pinned (OpenSpec.ofChange recSpoiledSpec)

/-- ITS FALSE NEIGHBOUR: 'it returns false'. Refute it at one input. -/
def recSpoiledWrong : ChangeSpec := { name := "recSpoiled", fn := fun _ => fun
  | [d1, d2, d3] => { results := [.lit (.bool false)], args := [d1, d2, d3] }
  | _ => none }
def RecSpoiledWrongFalsely : Prop := recSpoiledRow.holds Try.pinned (OpenSpec.ofChange recSpoiledWrong)

/-- 'mooringslaw05.RecScans': WHATEVER THE INPUT: true; the input reads as it did. -/
def recScansSpec : ChangeSpec := { name := "recScans", fn := fun _ => fun
  | [d] => { results := [.lit (.bool true)], args := [d] }
  | _ => none }
def recScansRow : OpenClaim := { program := "ytnicndnbloohhaa", sum := "207e212e4c17d788249edb28fc60bf90aeafa009cb74c93c57a50cd2c74708ee", func := "moorings/mooringslaw05.RecScans", spec := "recScans", unfollowed := true, recurses := true, apart := false }
def RecScansSaid : Prop := recScansRow.holds Try.pinned (OpenSpec.ofChange recScansSpec)

/-- ITS FALSE NEIGHBOUR: 'it returns false'. Refute it at one input. -/
def recScansWrong : ChangeSpec := { name := "recScans", fn := fun _ => fun
  | [d] => { results := [.lit (.bool false)], args := [d] }
  | _ => none }
def RecScansWrongFalsely : Prop := recScansRow.holds Try.pinned (OpenSpec.ofChange recScansWrong)

/-- 'mooringslaw05.RecLong': WHATEVER THE INPUT: true; the input reads as it did. -/
def recLongSpec : ChangeSpec := { name := "recLong", fn := fun _ => fun
  | [d] => { results := [.lit (.bool true)], args := [d] }
  | _ => none }
def recLongRow : OpenClaim := { program := "ytnicndnbloohhaa", sum := "207e212e4c17d788249edb28fc60bf90aeafa009cb74c93c57a50cd2c74708ee", func := "moorings/mooringslaw05.RecLong", spec := "recLong", unfollowed := true, recurses := true, apart := false }
def RecLongSaid : Prop := recLongRow.holds Try.pinned (OpenSpec.ofChange recLongSpec)

/-- ITS FALSE NEIGHBOUR: 'it returns false'. Refute it at one input. -/
def recLongWrong : ChangeSpec := { name := "recLong", fn := fun _ => fun
  | [d] => { results := [.lit (.bool false)], args := [d] }
  | _ => none }
def RecLongWrongFalsely : Prop := recLongRow.holds Try.pinned (OpenSpec.ofChange recLongWrong)

/-- 'mooringslaw05.RecSame': WHATEVER THE INPUT: true; the input reads as it did. -/
def recSameSpec : ChangeSpec := { name := "recSame", fn := fun _ => fun
  | [d1, d2] => { results := [.lit (.bool true)], args := [d1, d2] }
  | _ => none }
def recSameRow : OpenClaim := { program := "ytnicndnbloohhaa", sum := "207e212e4c17d788249edb28fc60bf90aeafa009cb74c93c57a50cd2c74708ee", func := "moorings/mooringslaw05.RecSame", spec := "recSame", unfollowed := true, recurses := true, apart := false }
def RecSameSaid : Prop := recSameRow.holds Try.pinned (OpenSpec.ofChange recSameSpec)

/-- ITS FALSE NEIGHBOUR: 'it returns false'. Refute it at one input. -/
def recSameWrong : ChangeSpec := { name := "recSame", fn := fun _ => fun
  | [d1, d2] => { results := [.lit (.bool false)], args := [d1, d2] }
  | _ => none }
def RecSameWrongFalsely : Prop := recSameRow.holds Try.pinned (OpenSpec.ofChange recSameWrong)

/- THE SECOND FORM. 'bulk': how many values and letters a reading holds, each counted each time it is reached (what is shared counts as often as it is met; a slice's spare places count too). A statement '..UptoSaid' is the law's where the arguments, and the package variables that the reading takes, are together of bulk at most 1048576: NARROWER than '..Said'. Prove '..Said' where nothing that the law and all that it calls make is longer than what came in: it says more and counts as full. Else prove '..UptoSaid'. A law counts once. -/
mutual
def uptoBulk {H : Type} : DataW H → Nat
  | .lit (.string bytes) => bytes.length + 1
  | .lit _ => 1
  | .nil => 1
  | .ptr d => uptoBulk d + 1
  | .slice elems spare => uptoBulkAll elems + uptoBulkAll spare + 1
  | .agg parts => uptoBulkAll parts + 1
  | .iface _ d => uptoBulk d + 1
  | .map entries => uptoBulkEntries entries + 1
  | .held _ => 1
def uptoBulkAll {H : Type} : List (DataW H) → Nat
  | [] => 0
  | d :: r => uptoBulk d + uptoBulkAll r
def uptoBulkEntries {H : Type} : List (Lit × DataW H) → Nat
  | [] => 0
  | x :: r => uptoBulkEntry x + uptoBulkEntries r
def uptoBulkEntry {H : Type} : Lit × DataW H → Nat
  | (.string bytes, d) => bytes.length + uptoBulk d + 1
  | (_, d) => uptoBulk d + 1
 end
def uptoSmall : (H : Type) → List (DataW H) → Bool := fun _ ds => decide (uptoBulkAll ds ≤ 1048576)
def OpenSpec.upto (s : _root_.Go.ChangeSpec) : _root_.Go.OpenSpec := { _root_.Go.OpenSpec.ofChange s with cond := some uptoSmall }

/-- 'mooringslaw05.RecTells', WHERE WHAT IT READS IS OF BULK AT MOST 1048576: true; the input reads as it did. -/
def recTellsUptoRow : OpenClaim := { program := "ytnicndnbloohhaa", sum := "207e212e4c17d788249edb28fc60bf90aeafa009cb74c93c57a50cd2c74708ee", func := "moorings/mooringslaw05.RecTells", spec := "recTells", unfollowed := true, recurses := true, apart := false, narrowed := true }
def RecTellsUptoSaid : Prop := recTellsUptoRow.holds Try.pinned (OpenSpec.upto recTellsSpec)

/-- 'mooringslaw05.RecBack', WHERE WHAT IT READS IS OF BULK AT MOST 1048576: true; the input reads as it did. -/
def recBackUptoRow : OpenClaim := { program := "ytnicndnbloohhaa", sum := "207e212e4c17d788249edb28fc60bf90aeafa009cb74c93c57a50cd2c74708ee", func := "moorings/mooringslaw05.RecBack", spec := "recBack", unfollowed := true, recurses := true, apart := false, narrowed := true }
def RecBackUptoSaid : Prop := recBackUptoRow.holds Try.pinned (OpenSpec.upto recBackSpec)

/-- 'mooringslaw05.RecTorn', WHERE WHAT IT READS IS OF BULK AT MOST 1048576: true; the input reads as it did. -/
def recTornUptoRow : OpenClaim := { program := "ytnicndnbloohhaa", sum := "207e212e4c17d788249edb28fc60bf90aeafa009cb74c93c57a50cd2c74708ee", func := "moorings/mooringslaw05.RecTorn", spec := "recTorn", unfollowed := true, recurses := true, apart := false, narrowed := true }
def RecTornUptoSaid : Prop := recTornUptoRow.holds Try.pinned (OpenSpec.upto recTornSpec)

/-- 'mooringslaw05.RecSpoiled', WHERE WHAT IT READS IS OF BULK AT MOST 1048576: true; the input reads as it did. -/
def recSpoiledUptoRow : OpenClaim := { program := "ytnicndnbloohhaa", sum := "207e212e4c17d788249edb28fc60bf90aeafa009cb74c93c57a50cd2c74708ee", func := "moorings/mooringslaw05.RecSpoiled", spec := "recSpoiled", unfollowed := true, recurses := true, apart := false, narrowed := true }
def RecSpoiledUptoSaid : Prop := recSpoiledUptoRow.holds Try.pinned (OpenSpec.upto recSpoiledSpec)

/-- 'mooringslaw05.RecScans', WHERE WHAT IT READS IS OF BULK AT MOST 1048576: true; the input reads as it did. -/
def recScansUptoRow : OpenClaim := { program := "ytnicndnbloohhaa", sum := "207e212e4c17d788249edb28fc60bf90aeafa009cb74c93c57a50cd2c74708ee", func := "moorings/mooringslaw05.RecScans", spec := "recScans", unfollowed := true, recurses := true, apart := false, narrowed := true }
def RecScansUptoSaid : Prop := recScansUptoRow.holds Try.pinned (OpenSpec.upto recScansSpec)

/-- 'mooringslaw05.RecLong', WHERE WHAT IT READS IS OF BULK AT MOST 1048576: true; the input reads as it did. -/
def recLongUptoRow : OpenClaim := { program := "ytnicndnbloohhaa", sum := "207e212e4c17d788249edb28fc60bf90aeafa009cb74c93c57a50cd2c74708ee", func := "moorings/mooringslaw05.RecLong", spec := "recLong", unfollowed := true, recurses := true, apart := false, narrowed := true }
def RecLongUptoSaid : Prop := recLongUptoRow.holds Try.pinned (OpenSpec.upto recLongSpec)

/-- 'mooringslaw05.RecSame', WHERE WHAT IT READS IS OF BULK AT MOST 1048576: true; the input reads as it did. -/
def recSameUptoRow : OpenClaim := { program := "ytnicndnbloohhaa", sum := "207e212e4c17d788249edb28fc60bf90aeafa009cb74c93c57a50cd2c74708ee", func := "moorings/mooringslaw05.RecSame", spec := "recSame", unfollowed := true, recurses := true, apart := false, narrowed := true }
def RecSameUptoSaid : Prop := recSameUptoRow.holds Try.pinned (OpenSpec.upto recSameSpec)

end Rows
end Go.Proofs.Ytnicndnbloohhaa
