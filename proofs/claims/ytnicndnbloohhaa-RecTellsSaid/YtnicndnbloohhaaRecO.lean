import Derived.Test.YtnicndnbloohhaaRecT
import Derived.Deep.Slices
import Derived.Deep.Fields
import Derived.ChangeSame
import Derived.ChangeSlices
/-! Records that came in, opened. -/
namespace Go.Proofs.Ytnicndnbloohhaa.H
open Go.RowKit Moor Go.Proofs.YtnicndnbloohhaaW.PrintWords Go.Proofs.YtnicndnbloohhaaW.PrintLast Go.Proofs.YtnicndnbloohhaaW.PrintMore Go.ChangeShapes Go.WideShapes
set_option linter.unusedVariables false
set_option linter.unusedSimpArgs false

instance : Inhabited Rc := ⟨⟨0, []⟩⟩
theorem cellsOf_intR : Try.prog.cellsOf 3 = 1 := by kernel_rfl
theorem cellsOf_byte : Try.prog.cellsOf 5 = 1 := by kernel_rfl
theorem cellsOf_bytes : Try.prog.cellsOf 22 = 1 := by kernel_rfl
theorem cellsOf_rec : Try.prog.cellsOf 24 = 2 := by kernel_rfl
section
variable {H : Type} {enc : TypeId × Value → H} {W : World}
theorem open_bytes {fuel : Nat} {cs : List Value} {x : DataW H × List MemPlace} (h : DataW.trod enc Try.prog W 0 (fun _ => true) true fuel 22 cs = some x) :
    ∃ (A : Option Addr) (c : Nat) (l : List Int), cs = [.slice A l.length c] ∧ l.length ≤ c ∧ Kd.C (Kd.int .u8) W A l.length l ∧ okB l := by
  rcases open_ints Try.underlying22 Try.underlying5 cellsOf_byte h with ⟨hcs, _⟩ | ⟨a, len, cap, zs, hcs, _, hl, hm, hz, _, hcell, hw⟩
  · exact ⟨none, 0, [], hcs, Nat.le_refl _, Kd.C_nil _ _, fun x hx => by cases hx⟩
  · have hz' : zs.length = cap := by simpa using hz
    have hlt : (zs.take len).length = len := by rw [List.length_take]; omega
    refine ⟨some a, cap, zs.take len, by rw [hlt]; exact hcs, by omega, ⟨rfl, by rw [hlt]; unfold maxLen at hm; omega, fun _ => ⟨a, rfl, fun j p hj => ⟨[.int .u8 p], rfl, rfl, fun i u hu => ?_⟩⟩⟩, fun y hy => ?_⟩
    · have hj2 := (List.getElem?_eq_some_iff.1 hj).1
      rw [hlt] at hj2
      have hp : zs[j]? = some p := by
        rw [List.getElem?_take] at hj
        rw [if_pos hj2] at hj
        exact hj
      cases i with
      | zero =>
        have hu' : Value.int .u8 p = u := by simpa using hu
        subst hu'
        have hs : (Kd.int .u8).sz = 1 := rfl
        rw [hs, Nat.mul_one, Nat.add_zero, hcell j (by omega), List.getD_eq_getElem?_getD, hp]
        rfl
      | succ i => simp at hu
    · exact bounds_u8 (hw y (List.mem_of_mem_take hy))
theorem open_rec {fuel : Nat} {cs : List Value} {x : DataW H × List MemPlace} (h : DataW.trod enc Try.prog W 0 (fun _ => true) true fuel 24 cs = some x) :
    ∃ (k : Int) (A : Option Addr) (c : Nat) (l : List Int), cs = [.int .i64 k, .slice A l.length c] ∧ l.length ≤ c ∧ Kd.C (Kd.int .u8) W A l.length l ∧ okB l := by
  obtain ⟨y0, y1, n, _, hlen, h0, h1⟩ := trod_struct2 Try.underlying24 h
  rw [cellsOf_rec] at hlen
  match cs, hlen with
  | [v0, v1], _ =>
    have h0' : DataW.trod enc Try.prog W 0 (fun _ => true) true n 3 (([v0, v1].drop 0).take (Try.prog.cellsOf 3)) = some y0 := h0
    have h1' : DataW.trod enc Try.prog W 0 (fun _ => true) true n 22 (([v0, v1].drop 1).take (Try.prog.cellsOf 22)) = some y1 := h1
    rw [cellsOf_intR] at h0'
    rw [cellsOf_bytes] at h1'
    obtain ⟨n0, e0, _, _⟩ := DataW.trod_int Try.underlying3 h0'
    obtain ⟨A, c, l, e1, g1, g2, g3⟩ := open_bytes h1'
    simp at e0 e1
    exact ⟨n0, A, c, l, by rw [e0, e1], g1, g2, g3⟩
theorem open_recA {cs : Array Value} {d : DataW H} {p : List MemPlace} (h : DataW.Trod enc Try.prog W 0 (fun _ => true) true 24 (.agg cs) d p) :
    ∃ (k : Int) (A : Option Addr) (c : Nat) (l : List Int), cs = #[.int .i64 k, .slice A l.length c] ∧ Kd.C (Kd.int .u8) W A l.length l ∧ l.length ≤ c ∧ okB l := by
  obtain ⟨fuel, hf⟩ := h
  obtain ⟨k, A, c, l, e, g1, g2, g3⟩ := open_rec hf
  refine ⟨k, A, c, l, ?_, g2, g1, g3⟩
  have : cs.toList = [.int .i64 k, .slice A l.length c] := by simpa [Value.cells] using e
  rw [← Array.toArray_toList (xs := cs), this]
theorem open_bytesA {a : Option Addr} {len cap : Nat} {d : DataW H} {p : List MemPlace} (h : DataW.Trod enc Try.prog W 0 (fun _ => true) true 22 (.slice a len cap) d p) :
    ∃ l : List Int, len = l.length ∧ Kd.C (Kd.int .u8) W a l.length l ∧ l.length ≤ cap ∧ okB l := by
  obtain ⟨fuel, hf⟩ := h
  obtain ⟨A, c, l, e, g1, g2, g3⟩ := open_bytes hf
  simp [Value.cells] at e
  obtain ⟨rfl, rfl, rfl⟩ := e
  exact ⟨l, rfl, g2, g1, g3⟩
theorem toS_of (s : Sr) : toS ⟨s.f0, s.f1⟩ = s := rfl
theorem open_recs {a : Option Addr} {len cap : Nat} {d : DataW H} {p : List MemPlace} (h : DataW.Trod enc Try.prog W 0 (fun _ => true) true 27 (.slice a len cap) d p) :
    ∃ l : List Rc, len = l.length ∧ Kd.C kR W a (l.map toS).length (l.map toS) ∧ l.length ≤ cap ∧ ∀ r ∈ l, okB r.body := by
  obtain ⟨fuel, hf⟩ := h
  rcases Go.Deep.open_slice Try.underlying27 hf with ⟨hcs, _⟩ | ⟨ad, l, c, m, n, D, Q, hcs, _, hl, hm, hmm, _, hi⟩
  · simp [Value.cells] at hcs
    obtain ⟨rfl, rfl, rfl⟩ := hcs
    exact ⟨[], rfl, Kd.C_nil _ _, Nat.le_refl _, fun r hr => by cases hr⟩
  · simp [Value.cells] at hcs
    obtain ⟨rfl, rfl, rfl⟩ := hcs
    have hmc : m = cap := by simpa using hmm
    subst hmc
    rw [cellsOf_rec] at hi
    have hp : ∀ i, i < len → ∃ q : Rc, okB q.body ∧ ∃ (A : Option Addr) (c : Nat), q.body.length ≤ c ∧ Kd.C (Kd.int .u8) W A q.body.length q.body ∧ ∀ j u, ([.int .i64 q.kind, .slice A q.body.length c] : List Value)[j]? = some u → W.cell? (ad.add (i * 2 + j)) = some u := fun i hil => by
      obtain ⟨cs', hc, ht⟩ := hi i (by omega)
      obtain ⟨k, A, c, b, rfl, g1, g2, g3⟩ := open_rec ht
      obtain ⟨_, _, hcell⟩ := World.cells?_some hc
      refine ⟨⟨k, b⟩, g3, A, c, g1, g2, fun j u hu => ?_⟩
      have hj : j < 2 := by have := (List.getElem?_eq_some_iff.1 hu).1; simpa using this
      have := hcell j hj
      rw [Go.Deep.add_add] at this
      rw [this]
      exact hu
    obtain ⟨f, hff⟩ := Go.Deep.choose_lt hp
    refine ⟨(List.range len).map f, by simp, ⟨rfl, by simp; unfold maxLen at hm; omega, fun _ => ⟨ad, rfl, fun j p hj => ?_⟩⟩, by simpa using hl, fun r hr => ?_⟩
    · have hjl : j < len := by have := (List.getElem?_eq_some_iff.1 hj).1; simpa using this
      obtain rfl : toS (f j) = p := by simpa [hjl] using hj
      obtain ⟨g3, A, c, g1, g2, g4⟩ := hff j hjl
      exact ⟨_, rfl, B.k24_mk W (toS (f j)) g1 g2, fun i u hu => g4 i u hu⟩
    · obtain ⟨i, hi', rfl⟩ := List.mem_map.1 hr
      exact (hff i (by simpa using hi')).1
end
end Go.Proofs.Ytnicndnbloohhaa.H
