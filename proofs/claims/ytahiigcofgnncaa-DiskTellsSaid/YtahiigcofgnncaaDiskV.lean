import Derived.Test.YtahiigcofgnncaaDiskU
import Derived.Laws.IdiomCopy
import Derived.Lib.Overlaps
import Derived.Laws.Externs
/-! Layer 6: the library's Insert of a file, walked. -/
namespace Go.Proofs.Ytahiigcofgnncaa.H
open Go.RowKit Moor Go.Proofs.YtahiigcofgnncaaW.PrintWords Go.Proofs.YtahiigcofgnncaaW.PrintLast Go.Proofs.YtahiigcofgnncaaW.PrintMore
set_option linter.unusedVariables false
set_option linter.unusedSimpArgs false

/-- A new file, as it lies. -/
abbrev newX (no : Int) : FX := ⟨no, none, 0, [], 0⟩
/-- Files that are read in blocks from a base on, whatever the block ex holds. -/
def CBut (base ex : Nat) (W : World) (A : Option Addr) (l : List Fl) : Prop := ∀ W' : World, (∀ k, base ≤ k → k < W.heap.size → k ≠ ex → W'.heap[k]? = W.heap[k]?) → Kd.C kF W' A l.length l
/-- What Insert leaves: a row of files, of which each leads to what it led to; of the blocks that were there, but the row's, none is another. -/
def InsEnd (base : Nat) (v : Value) (l : List Fl) (W : World) (e : Ending) (w' : World) : Prop := ∃ (A' : Option Addr) (c' : Nat), e = .returned (.slice A' l.length c') ∧ l.length ≤ c' ∧ (∀ ex cs, BoxC w' ex cs 24 → CBut base ex w' A' l) ∧ Below base W w' ∧ (∀ q, q < W.heap.size → v.ownBlock ≠ some q → w'.heap[q]? = W.heap[q]?)
theorem flat_append (xs ys : List FX) : flat (xs ++ ys) = flat xs ++ flat ys := by unfold flat; rw [List.flatMap_append]
/-- A row of files that lead to what lies in blocks from a base on. -/
theorem row_but {W : World} {base n c : Nat} {A : Option Addr} {ys : List FX} (hrow : W.ownsRow base 32 3 (.slice A n c) n (flat ys)) (hlen : ys.length = n)
    (hr : ∀ (i : Nat) (y : FX), ys[i]? = some y → Kd.R kB 5 W base (fun _ => True) (vX y) y.data) : ∀ ex cs, BoxC W ex cs 24 → CBut base ex W A (ys.map flX) := by
  intro ex cs hex W' hW'
  have hx1 : W.heap[ex]? = some (.cells cs 24 (0, 0)) := hex
  have hrow' := own_move hrow (fun j hj => hW' j (own_base hrow j hj) (own_lt hrow j hj) (fun e => by
    obtain ⟨cells, hc⟩ := own_typed hrow j hj
    rw [e, hx1] at hc
    injection hc with hc
    injection hc with _ hc
    exact absurd hc (by decide)))
  rcases Nat.eq_zero_or_pos n with h0 | hp
  · have hy : ys = [] := List.length_eq_zero_iff.1 (by omega)
    subst hy
    exact ⟨rfl, by simp, fun h => absurd h (by simp)⟩
  · obtain ⟨g, cap', he, h1, h2⟩ := hrow'.form hp
    injection he with he1 he2 he3
    subst he1 he3
    refine rowC hrow' hlen (fun i y hy => ?_)
    have h3 := Kd.R_reads' (Kd.R_move (Kd.R_bound (hr i y hy)) (fun q hq => hW' q hq.2.1 hq.2.2.1 (fun e => by
      obtain ⟨_, _, _, t, ht1, cs, ht2⟩ := hq
      rw [e, hx1] at ht2
      injection ht2 with ht2
      injection ht2 with _ ht2
      rw [← ht2] at ht1
      exact absurd ht1 (by decide))))
    exact ⟨h3.2.1, h3.2.2⟩
theorem new_good (W : World) (base : Nat) (no : Int) : Kd.R kB 5 W base (fun _ => True) (vX (newX no)) (newX no).data := Kd.R_nil _ _ _ _ _
theorem dropF_run (A : Option Addr) (n c i : Nat) (hi : i ≤ n) (hc : n ≤ c) : ∃ A', ∀ W : World, (Instr.slice 22 (.slice A n c) (some (.int .i64 (i : Int))) none none).run Try.prog W = .ok (.slice A' (n - i) (c - i)) W := by
  have hel : Try.prog.elem 22 = 32 := by simp [Program.elem, Try.underlying22]
  have hu : Try.prog.underlying 22 = some (.slice (Try.prog.elem 22)) := by rw [hel]; exact Try.underlying22
  obtain ⟨i0, hi0, hz0, hz1, hz2⟩ := info_parts infoF
  refine ⟨if c = i then A else A.map (·.add (i * 3)), fun W => ?_⟩
  rw [run_slice_l W 22 A n c hu .i64 (i : Int) (by omega) (by omega), hel]
  simp [sizeOf, typeInfo, hi0, hz1, sliced, Result.andThen]
set_option maxRecDepth 100000 in
set_option maxHeartbeats 8000000 in
theorem insert_end (W : World) (base : Nat) (A1 : Option Addr) (c1 : Nat) (xs : List FX) (l : List Fl) (no : Int) (vb : Nat) (hO : OwnF W base (.slice A1 l.length c1) l.length xs) (hx : xs.map flX = l) (hv : BoxC W vb (cellsX (newX no)).toArray 32) (hl : l.length ≤ 1000) (hb : base ≤ W.heap.size) :
    Calls Try.prog 43 #[.slice A1 l.length c1, .int .i64 (l.length : Int), .slice (some ⟨vb, 0, none⟩) 1 1] W (InsEnd base (.slice A1 l.length c1) (l ++ [⟨no, [], 0⟩]) W) := by
  obtain ⟨i0, hi, hz0, hz1, hz2⟩ := info_parts infoF
  have hcells : ∀ j u, (cellsX (newX no))[j]? = some u → W.cell? ((⟨vb, 0, none⟩ : Addr).add j) = some u := fun j u hu => by
    rw [add_plain, Nat.zero_add]
    exact hv.c j (by simpa using hu)
  obtain ⟨v1, w1, hr, ho, hg, -, hat⟩ := run_append_own_at (P := Try.prog) W base 22 22 32 i0 _ 3 40 Try.underlying22 hi hz0 hz1 hz2 rfl (by omega) (.slice A1 l.length c1) l.length (flat xs) hO.2.1
    ⟨vb, 0, none⟩ 1 1 (cellsX (newX no)) rfl hcells (fun u hu => flat_one [newX no] u (by simpa [flat] using hu)) (by unfold maxLen; omega) (by omega) hb
  have hB1 : Below base W w1 := (Below.refl base W).grown hg hb (fun j e => own_base hO.2.1 j e)
  obtain ⟨A', c', rfl⟩ := own_slice ho
  have hlc := own_le ho
  have hf : flat xs ++ cellsX (newX no) = flat (xs ++ [newX no]) := by rw [flat_append]; rfl
  rw [hf] at ho
  have hxl := own_len hx
  have hgood : ∀ (i : Nat) (y : FX), (xs ++ [newX no])[i]? = some y → Kd.R kB 5 w1 base (fun _ => True) (vX y) y.data := fun i y hy => by
    rcases Nat.lt_or_ge i xs.length with h | h
    · rw [List.getElem?_append_left h] at hy
      have hgd := hO.2.2.1 i y hy
      refine Kd.R_mono (Kd.R_move (Kd.R_bound hgd) (fun q hq => hg.block q hq.2.2.1 (fun e => ?_))) (fun _ _ => trivial)
      obtain ⟨_, _, _, t, ht1, cs, ht2⟩ := hq
      have e' : (Value.slice A1 l.length c1).ownBlock = some q := by first | exact e | exact e.symm
      obtain ⟨cells, hc⟩ := own_typed hO.2.1 q e'
      rw [hc] at ht2
      injection ht2 with ht2
      injection ht2 with _ ht2
      exact ht5 t ht1 ht2.symm
    · rw [List.getElem?_append_right h] at hy
      have : i - xs.length = 0 := by have := (List.getElem?_eq_some_iff.1 hy).1; simpa using this
      rw [this] at hy
      cases hy
      exact new_good _ _ _
  have hF := row_but ho (by rw [List.length_append, hxl]; rfl) hgood
  have hmap : (xs ++ [newX no]).map flX = l ++ [⟨no, [], 0⟩] := by rw [List.map_append, hx]; rfl
  rw [hmap] at hF
  have HRUN := Lib.hid hr
  have HF := Lib.hid hF
  have HFR := Lib.hid (show ∀ q, q < W.heap.size → (Value.slice A1 l.length c1).ownBlock ≠ some q → w1.heap[q]? = W.heap[q]? from fun q hq hn => hg.block q hq (fun e => hn (by first | exact e | exact e.symm)))
  have hle : ((1 : Nat) : Int) = 1 := rfl
  have heq : ((l.length : Int) == (l.length : Int)) = true := by simp
  have hcl := own_le hO.2.1
  obtain ⟨AZ, zs⟩ := dropF_run A1 l.length c1 l.length (Nat.le_refl _) hcl
  clear hr hcells ho hg hat hgood hF hO hf hmap hi hz0 hz1 hz2
  go_enter Try.func43, Try.ntmps43
  go_wp2_with (at_builtin; refine Lib.wpList_append_run _ rfl _ _ _ _ rfl _ _ rfl rfl _ _ HRUN.out ?_)
  go_ret
  exact ⟨A', c', by simp, by simpa using hlc, HF.out, hB1, HFR.out⟩
end Go.Proofs.Ytahiigcofgnncaa.H
