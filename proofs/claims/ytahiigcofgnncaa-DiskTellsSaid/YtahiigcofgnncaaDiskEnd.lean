import Derived.Test.YtahiigcofgnncaaDiskG
/-! Layer 6: disks that are handed back. -/
namespace Go.Proofs.Ytahiigcofgnncaa.H
open Go.RowKit Moor Go.Proofs.YtahiigcofgnncaaW.PrintWords Go.Proofs.YtahiigcofgnncaaW.PrintLast Go.Proofs.YtahiigcofgnncaaW.PrintMore
set_option linter.unusedVariables false
set_option linter.unusedSimpArgs false

/-- Files that are read in blocks from a base on. -/
def CFrom (base : Nat) (W : World) (A : Option Addr) (l : List Fl) : Prop := ∀ W' : World, (∀ k, base ≤ k → k < W.heap.size → W'.heap[k]? = W.heap[k]?) → Kd.C kF W' A l.length l
theorem OwnF.from_ {W : World} {base n c : Nat} {A : Option Addr} {xs : List FX} (h : OwnF W base (.slice A n c) n xs) : CFrom base W A (xs.map flX) := fun W' hW => (h.moved (W1 := W') hW).reads.2
theorem CFrom.now {base : Nat} {W : World} {A : Option Addr} {l : List Fl} (h : CFrom base W A l) : Kd.C kF W A l.length l := h W (fun _ _ _ => rfl)
theorem CFrom.mono {base base' : Nat} {W : World} {A : Option Addr} {l : List Fl} (h : CFrom base W A l) (hb : base' ≤ base) : CFrom base' W A l := fun W' hW => h W' (fun k hk => hW k (Nat.le_trans hb hk))
theorem CFrom.moved {base : Nat} {W W1 : World} {A : Option Addr} {l : List Fl} (h : CFrom base W A l) (hm : ∀ k, base ≤ k → k < W.heap.size → W1.heap[k]? = W.heap[k]?) (hs : W.heap.size ≤ W1.heap.size) : CFrom base W1 A l := fun W' hW => h W' (fun k h1 h2 => (hW k h1 (Nat.lt_of_lt_of_le h2 hs)).trans (hm k h1 h2))
theorem CFrom.below {base : Nat} {W W1 : World} {A : Option Addr} {l : List Fl} (h : CFrom base W A l) (hb : Below W.heap.size W W1) : CFrom base W1 A l := h.moved (fun k _ hk => hb.block k hk) hb.size
/-- A disk that is handed back. -/
def DiskEnd (d : Dk) (w : World) (e : Ending) (w' : World) : Prop := ∃ (A' : Option Addr) (c' : Nat), e = .returned (.agg (cellsD d.cap A' d.f.length c')) ∧ d.f.length ≤ c' ∧ CFrom w.heap.size w' A' d.f ∧ Below w.heap.size w w'
/-- .. and why not. -/
def DiskEEnd (r : Dk × Int) (w : World) (e : Ending) (w' : World) : Prop := ∃ (A' : Option Addr) (c' : Nat), e = .returned (.tuple #[.agg (cellsD r.1.cap A' r.1.f.length c'), .int .i64 r.2]) ∧ r.1.f.length ≤ c' ∧ CFrom w.heap.size w' A' r.1.f ∧ Below w.heap.size w w'
/-- The result's cells are written: what the slice leads to stays. -/
theorem put_result {w W : World} {B base : Nat} {cap cap0 : Int} {A1 : Option Addr} {c1 n0 c0 : Nat} {A0 : Option Addr} {l : List Fl} {xs : List FX} (hB : Below w.heap.size w W) (hw : w.heap.size ≤ B) (hb : B < base) (bE : BoxC W B (cellsD cap0 A0 n0 c0) 24) (hO : OwnF W base (.slice A1 l.length c1) l.length xs) (hx : xs.map flX = l) :
    BoxC ((W.setCell ⟨B, 0, none⟩ (.int .i64 cap)).setCell ⟨B, 1, none⟩ (.slice A1 l.length c1)) B (cellsD cap A1 l.length c1) 24 ∧ l.length ≤ c1 ∧ CFrom w.heap.size ((W.setCell ⟨B, 0, none⟩ (.int .i64 cap)).setCell ⟨B, 1, none⟩ (.slice A1 l.length c1)) A1 l ∧ Below w.heap.size w ((W.setCell ⟨B, 0, none⟩ (.int .i64 cap)).setCell ⟨B, 1, none⟩ (.slice A1 l.length c1)) := by
  have hOn := (hO.moved (W1 := (W.setCell ⟨B, 0, none⟩ (.int .i64 cap)).setCell ⟨B, 1, none⟩ (.slice A1 l.length c1)) (fun q hq _ => (Below.heap_setCell _ _ _ q (by show q ≠ B; omega)).trans (Below.heap_setCell _ _ _ q (by show q ≠ B; omega))))
  have hf := hOn.from_
  rw [hx] at hf
  exact ⟨(bE.set 0 (.int .i64 cap)).set 1 (.slice A1 l.length c1), hOn.reads.1, hf.mono (by omega), (hB.setCell (p := ⟨B, 0, none⟩) hw _).setCell (p := ⟨B, 1, none⟩) hw _⟩
end Go.Proofs.Ytahiigcofgnncaa.H
