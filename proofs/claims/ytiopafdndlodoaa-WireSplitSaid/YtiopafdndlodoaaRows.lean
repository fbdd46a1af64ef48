/-
  No cell of these rows narrows 'for every input' (looked for: loops, veiled, ifaces, maps, wideKeys, modest, calm, conditions, laid).
  DERIVED. THE GIVEN ROWS OF THIS SEAT. 7 by the template 'for every input the law returns true; each argument reads behind the call as it read before'; 0 by the template 'total and deterministic' (their statements: YtiopafdndlodoaaTotals.lean).
  GIVEN WITH THE SEED: the statements are not yours to turn. If you find one false, say at which input.
  Laid BY PROGRAM, IN A SANDBOX (cutbox-rows.mjs): the forced cells as the released guide's own fill.sh prints them over the translation c9fc8d10e07d79a8… (all of the seat's roots in one cut). By AI agents, Wed Nov 11 2026. No macro, syntax, notation, axiom, sorry.
-/
import Derived.Test.YtiopafdndlodoaaChecked
import GoSem.Claim
import GoSem.ClaimJoined
import GoSem.ClaimMapViews
import Derived.JoinedTies
import Derived.KernelRfl
namespace Go.Proofs.Ytiopafdndlodoaa
/- THE CELL 'sum', in the pinned program and in every row, IS THE sha256 OF THE DUMP (.gsa) THAT YtiopafdndlodoaaProg.lean LOADS. Nothing in Lean hashes anything: it is a label: what it is worth is what the hold of that sum in a sandbox is worth. -/
noncomputable def Try.pinned : Pinned := { name := "ytiopafdndlodoaa", sum := "c9fc8d10e07d79a8f5e9a391e728e46028aa68be44932e695de57432c946449c", checked := Try.checked }
namespace Rows
def none {H : Type} : Left H := { results := [], args := [] }

/-- 'mooringslaw19.WireTells': WHATEVER THE INPUT: true; the input reads as it did. -/
def wireTellsSpec : ChangeSpec := { name := "wireTells", fn := fun _ => fun
  | [d1, d2, d3] => { results := [.lit (.bool true)], args := [d1, d2, d3] }
  | _ => none }
def wireTellsRow : OpenClaim := { program := "ytiopafdndlodoaa", sum := "c9fc8d10e07d79a8f5e9a391e728e46028aa68be44932e695de57432c946449c", func := "moorings/mooringslaw19.WireTells", spec := "wireTells", unfollowed := true, recurses := true, apart := false }
def WireTellsSaid : Prop := wireTellsRow.holds Try.pinned (OpenSpec.ofChange wireTellsSpec)

/-- ITS FALSE NEIGHBOUR: 'it returns false'. Refute it at one input. -/
def wireTellsWrong : ChangeSpec := { name := "wireTells", fn := fun _ => fun
  | [d1, d2, d3] => { results := [.lit (.bool false)], args := [d1, d2, d3] }
  | _ => none }
def WireTellsWrongFalsely : Prop := wireTellsRow.holds Try.pinned (OpenSpec.ofChange wireTellsWrong)

/-- 'mooringslaw19.WireBack': WHATEVER THE INPUT: true; the input reads as it did. -/
def wireBackSpec : ChangeSpec := { name := "wireBack", fn := fun _ => fun
  | [d1, d2, d3] => { results := [.lit (.bool true)], args := [d1, d2, d3] }
  | _ => none }
def wireBackRow : OpenClaim := { program := "ytiopafdndlodoaa", sum := "c9fc8d10e07d79a8f5e9a391e728e46028aa68be44932e695de57432c946449c", func := "moorings/mooringslaw19.WireBack", spec := "wireBack", unfollowed := true, recurses := true, apart := false }
def WireBackSaid : Prop := wireBackRow.holds Try.pinned (OpenSpec.ofChange wireBackSpec)

/-- ITS FALSE NEIGHBOUR: 'it returns false'. Refute it at one input. -/
def wireBackWrong : ChangeSpec := { name := "wireBack", fn := fun _ => fun
  | [d1, d2, d3] => { results := [.lit (.bool false)], args := [d1, d2, d3] }
  | _ => none }
def WireBackWrongFalsely : Prop := wireBackRow.holds Try.pinned (OpenSpec.ofChange wireBackWrong)

/-- 'mooringslaw19.WireSplit': WHATEVER THE INPUT: true; the input reads as it did. -/
def wireSplitSpec : ChangeSpec := { name := "wireSplit", fn := fun _ => fun
  | [d1, d2, d3, d4] => { results := [.lit (.bool true)], args := [d1, d2, d3, d4] }
  | _ => none }
def wireSplitRow : OpenClaim := { program := "ytiopafdndlodoaa", sum := "c9fc8d10e07d79a8f5e9a391e728e46028aa68be44932e695de57432c946449c", func := "moorings/mooringslaw19.WireSplit", spec := "wireSplit", unfollowed := true, recurses := true, apart := false }
def WireSplitSaid : Prop := wireSplitRow.holds Try.pinned (OpenSpec.ofChange wireSplitSpec)

/-- ITS FALSE NEIGHBOUR: 'it returns false'. Refute it at one input. -/
def wireSplitWrong : ChangeSpec := { name := "wireSplit", fn := fun _ => fun
  | [d1, d2, d3, d4] => { results := [.lit (.bool false)], args := [d1, d2, d3, d4] }
  | _ => none }
def WireSplitWrongFalsely : Prop := wireSplitRow.holds Try.pinned (OpenSpec.ofChange wireSplitWrong)

/-- 'mooringslaw19.WireKinds': WHATEVER THE INPUT: true; the input reads as it did. -/
def wireKindsSpec : ChangeSpec := { name := "wireKinds", fn := fun _ => fun
  | [d1, d2, d3, d4] => { results := [.lit (.bool true)], args := [d1, d2, d3, d4] }
  | _ => none }
def wireKindsRow : OpenClaim := { program := "ytiopafdndlodoaa", sum := "c9fc8d10e07d79a8f5e9a391e728e46028aa68be44932e695de57432c946449c", func := "moorings/mooringslaw19.WireKinds", spec := "wireKinds", unfollowed := true, recurses := true, apart := false }
def WireKindsSaid : Prop := wireKindsRow.holds Try.pinned (OpenSpec.ofChange wireKindsSpec)

/-- ITS FALSE NEIGHBOUR: 'it returns false'. Refute it at one input. -/
def wireKindsWrong : ChangeSpec := { name := "wireKinds", fn := fun _ => fun
  | [d1, d2, d3, d4] => { results := [.lit (.bool false)], args := [d1, d2, d3, d4] }
  | _ => none }
def WireKindsWrongFalsely : Prop := wireKindsRow.holds Try.pinned (OpenSpec.ofChange wireKindsWrong)

/-- 'mooringslaw19.WireLong': WHATEVER THE INPUT: true; the input reads as it did. -/
def wireLongSpec : ChangeSpec := { name := "wireLong", fn := fun _ => fun
  | [d1, d2] => { results := [.lit (.bool true)], args := [d1, d2] }
  | _ => none }
def wireLongRow : OpenClaim := { program := "ytiopafdndlodoaa", sum := "c9fc8d10e07d79a8f5e9a391e728e46028aa68be44932e695de57432c946449c", func := "moorings/mooringslaw19.WireLong", spec := "wireLong", unfollowed := true, recurses := true, apart := false }
def WireLongSaid : Prop := wireLongRow.holds Try.pinned (OpenSpec.ofChange wireLongSpec)

/-- ITS FALSE NEIGHBOUR: 'it returns false'. Refute it at one input. -/
def wireLongWrong : ChangeSpec := { name := "wireLong", fn := fun _ => fun
  | [d1, d2] => { results := [.lit (.bool false)], args := [d1, d2] }
  | _ => none }
def WireLongWrongFalsely : Prop := wireLongRow.holds Try.pinned (OpenSpec.ofChange wireLongWrong)

/-- 'mooringslaw19.WireSpoiled': WHATEVER THE INPUT: true; the input reads as it did. -/
def wireSpoiledSpec : ChangeSpec := { name := "wireSpoiled", fn := fun _ => fun
  | [d1, d2, d3] => { results := [.lit (.bool true)], args := [d1, d2, d3] }
  | _ => none }
def wireSpoiledRow : OpenClaim := { program := "ytiopafdndlodoaa", sum := "c9fc8d10e07d79a8f5e9a391e728e46028aa68be44932e695de57432c946449c", func := "moorings/mooringslaw19.WireSpoiled", spec := "wireSpoiled", unfollowed := true, recurses := true, apart := false }
def WireSpoiledSaid : Prop := wireSpoiledRow.holds Try.pinned (OpenSpec.ofChange wireSpoiledSpec)

/-- ITS FALSE NEIGHBOUR: 'it returns false'. Refute it at one input. -/
def wireSpoiledWrong : ChangeSpec := { name := "wireSpoiled", fn := fun _ => fun
  | [d1, d2, d3] => { results := [.lit (.bool false)], args := [d1, d2, d3] }
  | _ => none }
def WireSpoiledWrongFalsely : Prop := wireSpoiledRow.holds Try.pinned (OpenSpec.ofChange wireSpoiledWrong)

/-- 'mooringslaw19.WireCut': WHATEVER THE INPUT: true; the input reads as it did. -/
def wireCutSpec : ChangeSpec := { name := "wireCut", fn := fun _ => fun
  | [d1, d2, d3] => { results := [.lit (.bool true)], args := [d1, d2, d3] }
  | _ => none }
def wireCutRow : OpenClaim := { program := "ytiopafdndlodoaa", sum := "c9fc8d10e07d79a8f5e9a391e728e46028aa68be44932e695de57432c946449c", func := "moorings/mooringslaw19.WireCut", spec := "wireCut", unfollowed := true, recurses := true, apart := false }
def WireCutSaid : Prop := wireCutRow.holds Try.pinned (OpenSpec.ofChange wireCutSpec)

/-- ITS FALSE NEIGHBOUR: 'it returns false'. Refute it at one input. -/
def wireCutWrong : ChangeSpec := { name := "wireCut", fn := fun _ => fun
  | [d1, d2, d3] => { results := [.lit (.bool false)], args := [d1, d2, d3] }
  | _ => none }
def WireCutWrongFalsely : Prop := wireCutRow.holds Try.pinned (OpenSpec.ofChange wireCutWrong)

/- THE SECOND FORM. 'bulk': how many values and letters a reading holds, each counted each time it is reached (what is shared counts as often as it is met; a slice's spare places count too). A statement '..UptoSaid' is the law's where the arguments, and the package variables that the reading takes, are together of bulk at most 1048576: NARROWER than '..Said'. Prove '..Said' where nothing that the law and all that it calls make is longer than what came in: it says more and counts as full. Else prove '..UptoSaid'. A law counts once. -/
mutual
def uptoBulk {H : Type} : DataW H → Nat
  | .lit (.string bytes) => bytes.length + 1
  | .lit _ => 1
  | .nil => 1
  | .ptr d => uptoBulk d + 1
  | .slice elems spare => uptoBulkAll elems + uptoBulkAll spare + 1
  | .agg parts => uptoBulkAll parts + 1
  | .iface _ d => uptoBulk d + 1
  | .map entries => uptoBulkEntries entries + 1
  | .held _ => 1
def uptoBulkAll {H : Type} : List (DataW H) → Nat
  | [] => 0
  | d :: r => uptoBulk d + uptoBulkAll r
def uptoBulkEntries {H : Type} : List (Lit × DataW H) → Nat
  | [] => 0
  | x :: r => uptoBulkEntry x + uptoBulkEntries r
def uptoBulkEntry {H : Type} : Lit × DataW H → Nat
  | (.string bytes, d) => bytes.length + uptoBulk d + 1
  | (_, d) => uptoBulk d + 1
 end
def uptoSmall : (H : Type) → List (DataW H) → Bool := fun _ ds => decide (uptoBulkAll ds ≤ 1048576)
def OpenSpec.upto (s : _root_.Go.ChangeSpec) : _root_.Go.OpenSpec := { _root_.Go.OpenSpec.ofChange s with cond := some uptoSmall }

/-- 'mooringslaw19.WireTells', WHERE WHAT IT READS IS OF BULK AT MOST 1048576: true; the input reads as it did. -/
def wireTellsUptoRow : OpenClaim := { program := "ytiopafdndlodoaa", sum := "c9fc8d10e07d79a8f5e9a391e728e46028aa68be44932e695de57432c946449c", func := "moorings/mooringslaw19.WireTells", spec := "wireTells", unfollowed := true, recurses := true, apart := false, narrowed := true }
def WireTellsUptoSaid : Prop := wireTellsUptoRow.holds Try.pinned (OpenSpec.upto wireTellsSpec)

/-- 'mooringslaw19.WireBack', WHERE WHAT IT READS IS OF BULK AT MOST 1048576: true; the input reads as it did. -/
def wireBackUptoRow : OpenClaim := { program := "ytiopafdndlodoaa", sum := "c9fc8d10e07d79a8f5e9a391e728e46028aa68be44932e695de57432c946449c", func := "moorings/mooringslaw19.WireBack", spec := "wireBack", unfollowed := true, recurses := true, apart := false, narrowed := true }
def WireBackUptoSaid : Prop := wireBackUptoRow.holds Try.pinned (OpenSpec.upto wireBackSpec)

/-- 'mooringslaw19.WireSplit', WHERE WHAT IT READS IS OF BULK AT MOST 1048576: true; the input reads as it did. -/
def wireSplitUptoRow : OpenClaim := { program := "ytiopafdndlodoaa", sum := "c9fc8d10e07d79a8f5e9a391e728e46028aa68be44932e695de57432c946449c", func := "moorings/mooringslaw19.WireSplit", spec := "wireSplit", unfollowed := true, recurses := true, apart := false, narrowed := true }
def WireSplitUptoSaid : Prop := wireSplitUptoRow.holds Try.pinned (OpenSpec.upto wireSplitSpec)

/-- 'mooringslaw19.WireKinds', WHERE WHAT IT READS IS OF BULK AT MOST 1048576: true; the input reads as it did. -/
def wireKindsUptoRow : OpenClaim := { program := "ytiopafdndlodoaa", sum := "c9fc8d10e07d79a8f5e9a391e728e46028aa68be44932e695de57432c946449c", func := "moorings/mooringslaw19.WireKinds", spec := "wireKinds", unfollowed := true, recurses := true, apart := false, narrowed := true }
def WireKindsUptoSaid : Prop := wireKindsUptoRow.holds Try.pinned (OpenSpec.upto wireKindsSpec)

/-- 'mooringslaw19.WireLong', WHERE WHAT IT READS IS OF BULK AT MOST 1048576: true; the input reads as it did. -/
def wireLongUptoRow : OpenClaim := { program := "ytiopafdndlodoaa", sum := "c9fc8d10e07d79a8f5e9a391e728e46028aa68be44932e695de57432c946449c", func := "moorings/mooringslaw19.WireLong", spec := "wireLong", unfollowed := true, recurses := true, apart := false, narrowed := true }
def WireLongUptoSaid : Prop := wireLongUptoRow.holds Try.pinned (OpenSpec.upto wireLongSpec)

/-- 'mooringslaw19.WireSpoiled', WHERE WHAT IT READS IS OF BULK AT MOST 1048576: true; the input reads as it did. -/
def wireSpoiledUptoRow : OpenClaim := { program := "ytiopafdndlodoaa", sum := "c9fc8d10e07d79a8f5e9a391e728e46028aa68be44932e695de57432c946449c", func := "moorings/mooringslaw19.WireSpoiled", spec := "wireSpoiled", unfollowed := true, recurses := true, apart := false, narrowed := true }
def WireSpoiledUptoSaid : Prop := wireSpoiledUptoRow.holds Try.pinned (OpenSpec.upto wireSpoiledSpec)

/-- 'mooringslaw19.WireCut', WHERE WHAT IT READS IS OF BULK AT MOST 1048576: true; the input reads as it did. -/
def wireCutUptoRow : OpenClaim := { program := "ytiopafdndlodoaa", sum := "c9fc8d10e07d79a8f5e9a391e728e46028aa68be44932e695de57432c946449c", func := "moorings/mooringslaw19.WireCut", spec := "wireCut", unfollowed := true, recurses := true, apart := false, narrowed := true }
def WireCutUptoSaid : Prop := wireCutUptoRow.holds Try.pinned (OpenSpec.upto wireCutSpec)

end Rows
end Go.Proofs.Ytiopafdndlodoaa
