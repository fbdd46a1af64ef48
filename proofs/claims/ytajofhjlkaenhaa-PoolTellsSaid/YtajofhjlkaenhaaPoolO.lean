import Derived.Test.YtajofhjlkaenhaaPoolA
import Derived.Deep.Slices
import Derived.Deep.Fields
import Derived.ChangeSame
/-! Pools that came in, opened. -/
namespace Go.Proofs.Ytajofhjlkaenhaa.H
open Go.RowKit Go.Proofs.YtajofhjlkaenhaaW.PrintWords Go.Proofs.YtajofhjlkaenhaaW.PrintLast Go.Proofs.YtajofhjlkaenhaaW.PrintMore Go.ChangeShapes Go.WideShapes
set_option linter.unusedVariables false
set_option linter.unusedSimpArgs false

instance : Inhabited Pl := ⟨⟨0, 0, 0⟩⟩
abbrev encL (p : Pl) : List Value := [.int .i64 p.f0, .int .i64 p.f1, .int .i64 p.f2]
theorem cellsOf_int : Try.prog.cellsOf 3 = 1 := by kernel_rfl
theorem cellsOf_pool : Try.prog.cellsOf 27 = 3 := by kernel_rfl
section
variable {H : Type} {enc : TypeId × Value → H} {W : World} {base : Nat} {spare : Nat → Bool} {held : Bool}
theorem open_pool {fuel : Nat} {cs : List Value} {x : DataW H × List MemPlace} (h : DataW.trod enc Try.prog W base spare held fuel 27 cs = some x) : ∃ p : Pl, cs = [.int .i64 p.f0, .int .i64 p.f1, .int .i64 p.f2] := by
  obtain ⟨xs, n, _, _, hlen, hxl, hf⟩ := DataW.trod_struct Try.underlying27 h
  rw [cellsOf_pool] at hlen
  match cs, hlen with
  | [v0, v1, v2], _ =>
    have hg : ∀ (i : Nat) (hi : i < xs.length), xs[i]? = some xs[i] := fun i hi => List.getElem?_eq_getElem hi
    have hxl' : xs.length = 3 := hxl
    have h0 : DataW.trod enc Try.prog W base spare held n 3 (List.take (Try.prog.cellsOf 3) ([v0, v1, v2].drop 0)) = xs[0]? := hf 0 _ rfl
    have h1 : DataW.trod enc Try.prog W base spare held n 3 (List.take (Try.prog.cellsOf 3) ([v0, v1, v2].drop 1)) = xs[1]? := hf 1 _ rfl
    have h2 : DataW.trod enc Try.prog W base spare held n 3 (List.take (Try.prog.cellsOf 3) ([v0, v1, v2].drop 2)) = xs[2]? := hf 2 _ rfl
    rw [hg 0 (by omega)] at h0
    rw [hg 1 (by omega)] at h1
    rw [hg 2 (by omega)] at h2
    rw [cellsOf_int] at h0 h1 h2
    obtain ⟨n0, e0, _, _⟩ := DataW.trod_int Try.underlying3 h0
    obtain ⟨n1, e1, _, _⟩ := DataW.trod_int Try.underlying3 h1
    obtain ⟨n2, e2, _, _⟩ := DataW.trod_int Try.underlying3 h2
    simp at e0 e1 e2
    exact ⟨⟨n0, n1, n2⟩, by rw [e0, e1, e2]⟩
theorem open_pools {a : Option Addr} {len cap : Nat} {d : DataW H} {p : List MemPlace} (h : DataW.Trod enc Try.prog W 0 (fun _ => true) true 22 (.slice a len cap) d p) :
    ∃ l : List Pl, len = l.length ∧ Kd.C kP W a l.length l ∧ l.length ≤ cap := by
  obtain ⟨fuel, hf⟩ := h
  rcases Go.Deep.open_slice Try.underlying22 hf with ⟨hcs, _⟩ | ⟨ad, l, c, m, n, D, Q, hcs, _, hl, hm, hmm, _, hi⟩
  · simp [Value.cells] at hcs
    obtain ⟨rfl, rfl, rfl⟩ := hcs
    exact ⟨[], rfl, Kd.C_nil _ _, Nat.le_refl _⟩
  · simp [Value.cells] at hcs
    obtain ⟨rfl, rfl, rfl⟩ := hcs
    have hmc : m = cap := by simpa using hmm
    subst hmc
    rw [cellsOf_pool] at hi
    have hp : ∀ i, i < len → ∃ q : Pl, ∀ j u, (encL q)[j]? = some u → W.cell? (ad.add (i * 3 + j)) = some u := fun i hil => by
      obtain ⟨cs', hc, ht⟩ := hi i (by omega)
      obtain ⟨q, rfl⟩ := open_pool ht
      obtain ⟨_, _, hcell⟩ := World.cells?_some hc
      refine ⟨q, fun j u hu => ?_⟩
      have hj : j < 3 := by have := (List.getElem?_eq_some_iff.1 hu).1; simpa [encL] using this
      have := hcell j hj
      rw [Go.Deep.add_add] at this
      rw [this]
      exact hu
    obtain ⟨f, hff⟩ := Go.Deep.choose_lt hp
    refine ⟨(List.range len).map f, by simp, ⟨rfl, by simp; unfold maxLen at hm; omega, fun _ => ⟨ad, rfl, fun j p hj => ?_⟩⟩, by simpa using hl⟩
    have hjl : j < len := by have := (List.getElem?_eq_some_iff.1 hj).1; simpa using this
    obtain rfl : f j = p := by simpa [hjl] using hj
    exact ⟨encL (f j), rfl, B.k27_mk _ _, fun i u hu => hff j hjl i u hu⟩
end
end Go.Proofs.Ytajofhjlkaenhaa.H
