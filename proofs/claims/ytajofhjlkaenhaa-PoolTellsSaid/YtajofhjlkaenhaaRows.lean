/-
  No cell of these rows narrows 'for every input' (looked for: loops, veiled, ifaces, maps, wideKeys, modest, calm, conditions, laid).
  DERIVED. THE GIVEN ROWS OF THIS SEAT. 7 by the template 'for every input the law returns true; each argument reads behind the call as it read before'; 0 by the template 'total and deterministic' (their statements: YtajofhjlkaenhaaTotals.lean).
  GIVEN WITH THE SEED: the statements are not yours to turn. If you find one false, say at which input.
  Laid BY PROGRAM, IN A SANDBOX (cutbox-rows.mjs): the forced cells as the released guide's own fill.sh prints them over the translation 3d09e4982f50730e… (all of the seat's roots in one cut). By AI agents, Wed Nov 11 2026. No macro, syntax, notation, axiom, sorry.
-/
import Derived.Test.YtajofhjlkaenhaaChecked
import GoSem.Claim
import GoSem.ClaimJoined
import GoSem.ClaimMapViews
import Derived.JoinedTies
import Derived.KernelRfl
namespace Go.Proofs.Ytajofhjlkaenhaa
/- THE CELL 'sum', in the pinned program and in every row, IS THE sha256 OF THE DUMP (.gsa) THAT YtajofhjlkaenhaaProg.lean LOADS. Nothing in Lean hashes anything: it is a label: what it is worth is what the hold of that sum in a sandbox is worth. -/
noncomputable def Try.pinned : Pinned := { name := "ytajofhjlkaenhaa", sum := "3d09e4982f50730e77c0a84fd667f870b5341f7ca6b7e2bb97541e0bfd686646", checked := Try.checked }
namespace Rows
def none {H : Type} : Left H := { results := [], args := [] }

/-- 'mooringslaw11.PoolOnce': WHATEVER THE INPUT: true; the input reads as it did. -/
def poolOnceSpec : ChangeSpec := { name := "poolOnce", fn := fun _ => fun
  | [d1, d2, d3] => { results := [.lit (.bool true)], args := [d1, d2, d3] }
  | _ => none }
def poolOnceRow : OpenClaim := { program := "ytajofhjlkaenhaa", sum := "3d09e4982f50730e77c0a84fd667f870b5341f7ca6b7e2bb97541e0bfd686646", func := "moorings/mooringslaw11.PoolOnce", spec := "poolOnce", unfollowed := true, recurses := true, apart := false }
def PoolOnceSaid : Prop := poolOnceRow.holds Try.pinned (OpenSpec.ofChange poolOnceSpec)

/-- ITS FALSE NEIGHBOUR: 'it returns false'. Refute it at one input. -/
def poolOnceWrong : ChangeSpec := { name := "poolOnce", fn := fun _ => fun
  | [d1, d2, d3] => { results := [.lit (.bool false)], args := [d1, d2, d3] }
  | _ => none }
def PoolOnceWrongFalsely : Prop := poolOnceRow.holds Try.pinned (OpenSpec.ofChange poolOnceWrong)

/-- 'mooringslaw11.PoolAdds': WHATEVER THE INPUT: true; the input reads as it did. -/
def poolAddsSpec : ChangeSpec := { name := "poolAdds", fn := fun _ => fun
  | [d1, d2, d3, d4, d5] => { results := [.lit (.bool true)], args := [d1, d2, d3, d4, d5] }
  | _ => none }
def poolAddsRow : OpenClaim := { program := "ytajofhjlkaenhaa", sum := "3d09e4982f50730e77c0a84fd667f870b5341f7ca6b7e2bb97541e0bfd686646", func := "moorings/mooringslaw11.PoolAdds", spec := "poolAdds", unfollowed := true, recurses := true, apart := false }
def PoolAddsSaid : Prop := poolAddsRow.holds Try.pinned (OpenSpec.ofChange poolAddsSpec)

/-- ITS FALSE NEIGHBOUR: 'it returns false'. Refute it at one input. -/
def poolAddsWrong : ChangeSpec := { name := "poolAdds", fn := fun _ => fun
  | [d1, d2, d3, d4, d5] => { results := [.lit (.bool false)], args := [d1, d2, d3, d4, d5] }
  | _ => none }
def PoolAddsWrongFalsely : Prop := poolAddsRow.holds Try.pinned (OpenSpec.ofChange poolAddsWrong)

/-- 'mooringslaw11.PoolSizes': WHATEVER THE INPUT: true; the input reads as it did. -/
def poolSizesSpec : ChangeSpec := { name := "poolSizes", fn := fun _ => fun
  | [d1, d2, d3, d4] => { results := [.lit (.bool true)], args := [d1, d2, d3, d4] }
  | _ => none }
def poolSizesRow : OpenClaim := { program := "ytajofhjlkaenhaa", sum := "3d09e4982f50730e77c0a84fd667f870b5341f7ca6b7e2bb97541e0bfd686646", func := "moorings/mooringslaw11.PoolSizes", spec := "poolSizes", unfollowed := true, recurses := true, apart := false }
def PoolSizesSaid : Prop := poolSizesRow.holds Try.pinned (OpenSpec.ofChange poolSizesSpec)

/-- ITS FALSE NEIGHBOUR: 'it returns false'. Refute it at one input. -/
def poolSizesWrong : ChangeSpec := { name := "poolSizes", fn := fun _ => fun
  | [d1, d2, d3, d4] => { results := [.lit (.bool false)], args := [d1, d2, d3, d4] }
  | _ => none }
def PoolSizesWrongFalsely : Prop := poolSizesRow.holds Try.pinned (OpenSpec.ofChange poolSizesWrong)

/-- 'mooringslaw11.PoolTells': WHATEVER THE INPUT: true; the input reads as it did. -/
def poolTellsSpec : ChangeSpec := { name := "poolTells", fn := fun _ => fun
  | [d1, d2, d3, d4, d5, d6, d7] => { results := [.lit (.bool true)], args := [d1, d2, d3, d4, d5, d6, d7] }
  | _ => none }
def poolTellsRow : OpenClaim := { program := "ytajofhjlkaenhaa", sum := "3d09e4982f50730e77c0a84fd667f870b5341f7ca6b7e2bb97541e0bfd686646", func := "moorings/mooringslaw11.PoolTells", spec := "poolTells", unfollowed := true, recurses := true, apart := false }
def PoolTellsSaid : Prop := poolTellsRow.holds Try.pinned (OpenSpec.ofChange poolTellsSpec)

/-- ITS FALSE NEIGHBOUR: 'it returns false'. Refute it at one input. -/
def poolTellsWrong : ChangeSpec := { name := "poolTells", fn := fun _ => fun
  | [d1, d2, d3, d4, d5, d6, d7] => { results := [.lit (.bool false)], args := [d1, d2, d3, d4, d5, d6, d7] }
  | _ => none }
def PoolTellsWrongFalsely : Prop := poolTellsRow.holds Try.pinned (OpenSpec.ofChange poolTellsWrong)

/-- 'mooringslaw11.PoolStays': WHATEVER THE INPUT: true; the input reads as it did. -/
def poolStaysSpec : ChangeSpec := { name := "poolStays", fn := fun _ => fun
  | [d1, d2, d3, d4, d5, d6] => { results := [.lit (.bool true)], args := [d1, d2, d3, d4, d5, d6] }
  | _ => none }
def poolStaysRow : OpenClaim := { program := "ytajofhjlkaenhaa", sum := "3d09e4982f50730e77c0a84fd667f870b5341f7ca6b7e2bb97541e0bfd686646", func := "moorings/mooringslaw11.PoolStays", spec := "poolStays", unfollowed := true, recurses := true, apart := false }
def PoolStaysSaid : Prop := poolStaysRow.holds Try.pinned (OpenSpec.ofChange poolStaysSpec)

/-- ITS FALSE NEIGHBOUR: 'it returns false'. Refute it at one input. -/
def poolStaysWrong : ChangeSpec := { name := "poolStays", fn := fun _ => fun
  | [d1, d2, d3, d4, d5, d6] => { results := [.lit (.bool false)], args := [d1, d2, d3, d4, d5, d6] }
  | _ => none }
def PoolStaysWrongFalsely : Prop := poolStaysRow.holds Try.pinned (OpenSpec.ofChange poolStaysWrong)

/-- 'mooringslaw11.PoolBusy': WHATEVER THE INPUT: true; the input reads as it did. -/
def poolBusySpec : ChangeSpec := { name := "poolBusy", fn := fun _ => fun
  | [d1, d2, d3, d4, d5, d6] => { results := [.lit (.bool true)], args := [d1, d2, d3, d4, d5, d6] }
  | _ => none }
def poolBusyRow : OpenClaim := { program := "ytajofhjlkaenhaa", sum := "3d09e4982f50730e77c0a84fd667f870b5341f7ca6b7e2bb97541e0bfd686646", func := "moorings/mooringslaw11.PoolBusy", spec := "poolBusy", unfollowed := true, recurses := true, apart := false }
def PoolBusySaid : Prop := poolBusyRow.holds Try.pinned (OpenSpec.ofChange poolBusySpec)

/-- ITS FALSE NEIGHBOUR: 'it returns false'. Refute it at one input. -/
def poolBusyWrong : ChangeSpec := { name := "poolBusy", fn := fun _ => fun
  | [d1, d2, d3, d4, d5, d6] => { results := [.lit (.bool false)], args := [d1, d2, d3, d4, d5, d6] }
  | _ => none }
def PoolBusyWrongFalsely : Prop := poolBusyRow.holds Try.pinned (OpenSpec.ofChange poolBusyWrong)

/-- 'mooringslaw11.PoolDrains': WHATEVER THE INPUT: true; the input reads as it did. -/
def poolDrainsSpec : ChangeSpec := { name := "poolDrains", fn := fun _ => fun
  | [d1, d2, d3, d4, d5, d6] => { results := [.lit (.bool true)], args := [d1, d2, d3, d4, d5, d6] }
  | _ => none }
def poolDrainsRow : OpenClaim := { program := "ytajofhjlkaenhaa", sum := "3d09e4982f50730e77c0a84fd667f870b5341f7ca6b7e2bb97541e0bfd686646", func := "moorings/mooringslaw11.PoolDrains", spec := "poolDrains", unfollowed := true, recurses := true, apart := false }
def PoolDrainsSaid : Prop := poolDrainsRow.holds Try.pinned (OpenSpec.ofChange poolDrainsSpec)

/-- ITS FALSE NEIGHBOUR: 'it returns false'. Refute it at one input. -/
def poolDrainsWrong : ChangeSpec := { name := "poolDrains", fn := fun _ => fun
  | [d1, d2, d3, d4, d5, d6] => { results := [.lit (.bool false)], args := [d1, d2, d3, d4, d5, d6] }
  | _ => none }
def PoolDrainsWrongFalsely : Prop := poolDrainsRow.holds Try.pinned (OpenSpec.ofChange poolDrainsWrong)

/- THE SECOND FORM. 'bulk': how many values and letters a reading holds, each counted each time it is reached (what is shared counts as often as it is met; a slice's spare places count too). A statement '..UptoSaid' is the law's where the arguments, and the package variables that the reading takes, are together of bulk at most 1048576: NARROWER than '..Said'. Prove '..Said' where nothing that the law and all that it calls make is longer than what came in: it says more and counts as full. Else prove '..UptoSaid'. A law counts once. -/
mutual
def uptoBulk {H : Type} : DataW H → Nat
  | .lit (.string bytes) => bytes.length + 1
  | .lit _ => 1
  | .nil => 1
  | .ptr d => uptoBulk d + 1
  | .slice elems spare => uptoBulkAll elems + uptoBulkAll spare + 1
  | .agg parts => uptoBulkAll parts + 1
  | .iface _ d => uptoBulk d + 1
  | .map entries => uptoBulkEntries entries + 1
  | .held _ => 1
def uptoBulkAll {H : Type} : List (DataW H) → Nat
  | [] => 0
  | d :: r => uptoBulk d + uptoBulkAll r
def uptoBulkEntries {H : Type} : List (Lit × DataW H) → Nat
  | [] => 0
  | x :: r => uptoBulkEntry x + uptoBulkEntries r
def uptoBulkEntry {H : Type} : Lit × DataW H → Nat
  | (.string bytes, d) => bytes.length + uptoBulk d + 1
  | (_, d) => uptoBulk d + 1
 end
def uptoSmall : (H : Type) → List (DataW H) → Bool := fun _ ds => decide (uptoBulkAll ds ≤ 1048576)
def OpenSpec.upto (s : _root_.Go.ChangeSpec) : _root_.Go.OpenSpec := { _root_.Go.OpenSpec.ofChange s with cond := some uptoSmall }

/-- 'mooringslaw11.PoolOnce', WHERE WHAT IT READS IS OF BULK AT MOST 1048576: true; the input reads as it did. -/
def poolOnceUptoRow : OpenClaim := { program := "ytajofhjlkaenhaa", sum := "3d09e4982f50730e77c0a84fd667f870b5341f7ca6b7e2bb97541e0bfd686646", func := "moorings/mooringslaw11.PoolOnce", spec := "poolOnce", unfollowed := true, recurses := true, apart := false, narrowed := true }
def PoolOnceUptoSaid : Prop := poolOnceUptoRow.holds Try.pinned (OpenSpec.upto poolOnceSpec)

/-- 'mooringslaw11.PoolAdds', WHERE WHAT IT READS IS OF BULK AT MOST 1048576: true; the input reads as it did. -/
def poolAddsUptoRow : OpenClaim := { program := "ytajofhjlkaenhaa", sum := "3d09e4982f50730e77c0a84fd667f870b5341f7ca6b7e2bb97541e0bfd686646", func := "moorings/mooringslaw11.PoolAdds", spec := "poolAdds", unfollowed := true, recurses := true, apart := false, narrowed := true }
def PoolAddsUptoSaid : Prop := poolAddsUptoRow.holds Try.pinned (OpenSpec.upto poolAddsSpec)

/-- 'mooringslaw11.PoolSizes', WHERE WHAT IT READS IS OF BULK AT MOST 1048576: true; the input reads as it did. -/
def poolSizesUptoRow : OpenClaim := { program := "ytajofhjlkaenhaa", sum := "3d09e4982f50730e77c0a84fd667f870b5341f7ca6b7e2bb97541e0bfd686646", func := "moorings/mooringslaw11.PoolSizes", spec := "poolSizes", unfollowed := true, recurses := true, apart := false, narrowed := true }
def PoolSizesUptoSaid : Prop := poolSizesUptoRow.holds Try.pinned (OpenSpec.upto poolSizesSpec)

/-- 'mooringslaw11.PoolTells', WHERE WHAT IT READS IS OF BULK AT MOST 1048576: true; the input reads as it did. -/
def poolTellsUptoRow : OpenClaim := { program := "ytajofhjlkaenhaa", sum := "3d09e4982f50730e77c0a84fd667f870b5341f7ca6b7e2bb97541e0bfd686646", func := "moorings/mooringslaw11.PoolTells", spec := "poolTells", unfollowed := true, recurses := true, apart := false, narrowed := true }
def PoolTellsUptoSaid : Prop := poolTellsUptoRow.holds Try.pinned (OpenSpec.upto poolTellsSpec)

/-- 'mooringslaw11.PoolStays', WHERE WHAT IT READS IS OF BULK AT MOST 1048576: true; the input reads as it did. -/
def poolStaysUptoRow : OpenClaim := { program := "ytajofhjlkaenhaa", sum := "3d09e4982f50730e77c0a84fd667f870b5341f7ca6b7e2bb97541e0bfd686646", func := "moorings/mooringslaw11.PoolStays", spec := "poolStays", unfollowed := true, recurses := true, apart := false, narrowed := true }
def PoolStaysUptoSaid : Prop := poolStaysUptoRow.holds Try.pinned (OpenSpec.upto poolStaysSpec)

/-- 'mooringslaw11.PoolBusy', WHERE WHAT IT READS IS OF BULK AT MOST 1048576: true; the input reads as it did. -/
def poolBusyUptoRow : OpenClaim := { program := "ytajofhjlkaenhaa", sum := "3d09e4982f50730e77c0a84fd667f870b5341f7ca6b7e2bb97541e0bfd686646", func := "moorings/mooringslaw11.PoolBusy", spec := "poolBusy", unfollowed := true, recurses := true, apart := false, narrowed := true }
def PoolBusyUptoSaid : Prop := poolBusyUptoRow.holds Try.pinned (OpenSpec.upto poolBusySpec)

/-- 'mooringslaw11.PoolDrains', WHERE WHAT IT READS IS OF BULK AT MOST 1048576: true; the input reads as it did. -/
def poolDrainsUptoRow : OpenClaim := { program := "ytajofhjlkaenhaa", sum := "3d09e4982f50730e77c0a84fd667f870b5341f7ca6b7e2bb97541e0bfd686646", func := "moorings/mooringslaw11.PoolDrains", spec := "poolDrains", unfollowed := true, recurses := true, apart := false, narrowed := true }
def PoolDrainsUptoSaid : Prop := poolDrainsUptoRow.holds Try.pinned (OpenSpec.upto poolDrainsSpec)

end Rows
end Go.Proofs.Ytajofhjlkaenhaa
