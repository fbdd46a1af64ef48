import Derived.Test.YtahiigcofgnncaaDiskO
import Derived.Test.YtahiigcofgnncaaDiskY
/-! What is done to a disk, come in, opened. -/
namespace Go.Proofs.Ytahiigcofgnncaa.H
open Go.RowKit Moor Go.Proofs.YtahiigcofgnncaaW.PrintWords Go.Proofs.YtahiigcofgnncaaW.PrintLast Go.Proofs.YtahiigcofgnncaaW.PrintMore Go.ChangeShapes Go.WideShapes
set_option linter.unusedVariables false
set_option linter.unusedSimpArgs false

theorem cellsOf_ints : Try.prog.cellsOf 25 = 1 := by kernel_rfl
theorem cellsOf_op : Try.prog.cellsOf 45 = 5 := by kernel_rfl
section
variable {H : Type} {enc : TypeId × Value → H} {W : World}
theorem open_intsV {fuel : Nat} {cs : List Value} {x : DataW H × List MemPlace} (h : DataW.trod enc Try.prog W 0 (fun _ => true) true fuel 25 cs = some x) :
    ∃ (A : Option Addr) (c : Nat) (l : List Int), cs = [.slice A l.length c] ∧ l.length ≤ c ∧ Kd.C (Kd.int .i64) W A l.length l := by
  rcases open_ints Try.underlying25 Try.underlying3 cellsOf_intD h with ⟨hcs, _⟩ | ⟨a, len, cap, zs, hcs, _, hl, hm, hz, _, hcell, hw⟩
  · exact ⟨none, 0, [], hcs, Nat.le_refl _, Kd.C_nil _ _⟩
  · have hz' : zs.length = cap := by simpa using hz
    have hlt : (zs.take len).length = len := by rw [List.length_take]; omega
    refine ⟨some a, cap, zs.take len, by rw [hlt]; exact hcs, by omega, ⟨rfl, by rw [hlt]; unfold maxLen at hm; omega, fun _ => ⟨a, rfl, fun j p hj => ⟨[.int .i64 p], rfl, rfl, fun i u hu => ?_⟩⟩⟩⟩
    have hj2 := (List.getElem?_eq_some_iff.1 hj).1
    rw [hlt] at hj2
    have hp : zs[j]? = some p := by
      rw [List.getElem?_take] at hj
      rw [if_pos hj2] at hj
      exact hj
    cases i with
    | zero =>
      have hu' : Value.int .i64 p = u := by simpa using hu
      subst hu'
      have hs : (Kd.int .i64).sz = 1 := rfl
      rw [hs, Nat.mul_one, Nat.add_zero, hcell j (by omega), List.getD_eq_getElem?_getD, hp]
      rfl
    | succ i => simp at hu
theorem open_opA {cs : Array Value} {d : DataW H} {p : List MemPlace} (h : DataW.Trod enc Try.prog W 0 (fun _ => true) true 45 (.agg cs) d p) :
    ∃ (k no n : Int) (A : Option Addr) (c : Nat) (l : List Int) (A' : Option Addr) (c' : Nat) (l' : List Int), cs = #[.int .i64 k, .int .i64 no, .int .i64 n, .slice A l.length c, .slice A' l'.length c'] ∧ Kd.C kB W A l.length l ∧ l.length ≤ c ∧ okB l ∧ Kd.C (Kd.int .i64) W A' l'.length l' ∧ l'.length ≤ c' := by
  obtain ⟨fuel, hf⟩ := h
  obtain ⟨xs, n, _, _, hlen, hxl, hf⟩ := DataW.trod_struct Try.underlying45 hf
  rw [cellsOf_op] at hlen
  have hcs5 : ∃ v0 v1 v2 v3 v4, cs = #[v0, v1, v2, v3, v4] := by
    have h9 : cs.toList.length = 5 := by simpa [Value.cells] using hlen
    match hh : cs.toList, h9 with
    | [v0, v1, v2, v3, v4], _ => exact ⟨v0, v1, v2, v3, v4, by rw [← Array.toArray_toList (xs := cs), hh]⟩
  obtain ⟨v0, v1, v2, v3, v4, rfl⟩ := hcs5
  have hxl' : xs.length = 5 := hxl
  have hg : ∀ (i : Nat) (hi : i < xs.length), xs[i]? = some xs[i] := fun i hi => List.getElem?_eq_getElem hi
  have h0 : DataW.trod enc Try.prog W 0 (fun _ => true) true n 3 (List.take (Try.prog.cellsOf 3) ([v0, v1, v2, v3, v4].drop 0)) = xs[0]? := hf 0 _ rfl
  have h1 : DataW.trod enc Try.prog W 0 (fun _ => true) true n 3 (List.take (Try.prog.cellsOf 3) ([v0, v1, v2, v3, v4].drop 1)) = xs[1]? := hf 1 _ rfl
  have h2 : DataW.trod enc Try.prog W 0 (fun _ => true) true n 3 (List.take (Try.prog.cellsOf 3) ([v0, v1, v2, v3, v4].drop 2)) = xs[2]? := hf 2 _ rfl
  have h3 : DataW.trod enc Try.prog W 0 (fun _ => true) true n 30 (List.take (Try.prog.cellsOf 30) ([v0, v1, v2, v3, v4].drop 3)) = xs[3]? := hf 3 _ rfl
  have h4 : DataW.trod enc Try.prog W 0 (fun _ => true) true n 25 (List.take (Try.prog.cellsOf 25) ([v0, v1, v2, v3, v4].drop 4)) = xs[4]? := hf 4 _ rfl
  rw [hg 0 (by omega)] at h0
  rw [hg 1 (by omega)] at h1
  rw [hg 2 (by omega)] at h2
  rw [hg 3 (by omega)] at h3
  rw [hg 4 (by omega)] at h4
  rw [cellsOf_intD] at h0 h1 h2
  rw [cellsOf_bytesD] at h3
  rw [cellsOf_ints] at h4
  obtain ⟨n0, e0, _, _⟩ := DataW.trod_int Try.underlying3 h0
  obtain ⟨n1, e1, _, _⟩ := DataW.trod_int Try.underlying3 h1
  obtain ⟨n2, e2, _, _⟩ := DataW.trod_int Try.underlying3 h2
  obtain ⟨A, c, l, e3, g1, g2, g3⟩ := open_bytes h3
  obtain ⟨A', c', l', e4, k1, k2⟩ := open_intsV h4
  simp at e0 e1 e2 e3 e4
  exact ⟨n0, n1, n2, A, c, l, A', c', l', by rw [e0, e1, e2, e3, e4], g2, g1, g3, k2, k1⟩
end
end Go.Proofs.Ytahiigcofgnncaa.H
