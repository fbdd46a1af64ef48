import Derived.Test.YtnicndnbloohhaaBx
import Derived.RangeFuncNested
import Derived.RangeFuncWrites
import Derived.RangeFuncCalls
import Derived.RangeFuncBox
/-! A range over a function that is known: what the iterator and a round do is told at one invariant. The body never leaves the loop. -/
namespace Go.Proofs.Ytnicndnbloohhaa.H
open Go.RowKit
set_option linter.unusedVariables false
set_option linter.unusedSimpArgs false

theorem rangeFunc_at {α : Type} {F : Fence} {n : Nat} {P : Program} {g : Operand} {ps : Array Tmp} {assign body : Code} {Q : Exit → Act → World → Prop} {a : Act} {w : World} (m : Nat) (hm : w.heap.size = m)
    (hro : F.round = none) (h1 : 1 ≤ n) {gf : Nat} {lb : Array Value} (hg : a.eval g = .func (.func gf) #[] lb) (hFg : F.fn gf) (eg : ∀ args w, (callFunc gf args).run P w = .ok (.enter gf args) w)
    {encs : α → Array Value} {S : List α → Prop} (hps : ∀ x, (encs x).size = ps.size)
    (J : List α → World → Prop) (hJ : OwnFrom m J) (h0 : J [] w) (Gd : List α → α → World → Prop) (Nx : List α → α → World → World → Prop) (Rs : List α → α → World → Act → World → Prop)
    (hNx : ∀ pre x W1 W (o : Obj), W.heap[m + 1]?.any (fun o => !o.isCells) = true → Nx pre x W1 W → Nx pre x W1 (W.putObj (m + 1) o))
    (hRs : ∀ pre x W1 a' W (o : Obj), W.heap[m + 1]?.any (fun o => !o.isCells) = true → Rs pre x W1 a' W → Rs pre x W1 a' (W.putObj (m + 1) o))
    (hiter : ∀ (RA : World → Prop), (∀ W W', RA W → (∀ k, m ≤ k → k ≤ m + 1 → W'.heap[k]? = W.heap[k]?) → RA W') → ∀ W, RA W → J [] W → Below m w W → W.heap.size = m + 2 →
      (∀ pre x W1, J pre W1 → RA W1 → Gd pre x W1 → YieldAt F (n - 1 - 1) P (m + 1) (encs x) W1 fun e W' => e = .returned (.bool true) ∧ RA W' ∧ Nx pre x W1 W') →
      CallsIn F (n - 1) P gf (#[.func (.yield (m + 1)) #[] #[]] ++ lb) W fun e W' => (∃ v, e = .returned v) ∧ RA W' ∧ ∃ xs, S xs ∧ J xs W')
    (hassign : ∀ (l : Nat) (pre : List α) (x : α) (W1 : World) (K : Act → World → Prop), J pre W1 → Gd pre x W1 → m + 1 < W1.heap.size → (∀ a' W', (∀ k, m ≤ k → k ≤ m + 1 → W'.heap[k]? = W1.heap[k]?) → Rs pre x W1 a' W' → K a' W') →
      assign.wpIn (F.inRound l) (n - 1 - 1) P (Exit.then K (fun _ _ _ => False)) { tmps := (ps.zip (encs x)).foldl (fun t (p, v) => t.setIfInBounds p v) a.tmps, defers := [] } W1)
    (hbody : ∀ (l : Nat) (pre : List α) (x : α) (W1 : World) (a' : Act) (W : World), Rs pre x W1 a' W → body.wpIn (F.inRound l) (n - 1 - 1) P (fun e _ W' => e = .normal ∧ (∀ k, m ≤ k → k ≤ m + 1 → W'.heap[k]? = W.heap[k]?) ∧ Nx pre x W1 W') a' W)
    (hdone : ∀ (D : Nat) (xs : List α) (W : World), m ≤ D → S xs → J xs W → W.heap[D]? = some (.deferred (some [])) → Q .normal { a with defers := { target := .collected D, args := #[] } :: a.defers } W) :
    (Code.rangeFunc g ps assign body).wpIn F n P Q a w := by
  subst hm
  refine wpIn_rangeFunc fun fn hfn => ?_
  rw [hro]
  -- the loop's record, at its states
  let rec_ : LoopState → Loop := fun st => { state := st, pending := none, fn, tmps := a.tmps, params := ps, assign, body, defers := w.heap.size }
  have hDL : ∀ W, W = (w.alloc (.deferred (some []))).alloc (.loop (rec_ .ready)) → W.heap[w.heap.size + 1]? = some (.loop (rec_ .ready)) ∧ W.heap[w.heap.size]? = some (.deferred (some [])) ∧ J [] W ∧ Below w.heap.size w W ∧ W.heap.size = w.heap.size + 2 := by
    rintro W rfl
    refine ⟨?_, ?_, hJ.alloc _ (hJ.alloc _ h0), ((Below.refl _ w).alloc (Nat.le_refl _) _).alloc (by simp) _, by simp⟩
    · have := World.alloc_heap_new (w.alloc (.deferred (some []))) (.loop (rec_ .ready))
      rwa [World.size_alloc] at this
    · exact (Below.heap_alloc _ _ _ (by simp)).trans (World.alloc_heap_new w _)
  have hent := run_enterLoop_outer (P := P) (w := w) fn a.tmps ps assign body
  obtain ⟨W1, hW1⟩ : ∃ W1, (w.alloc (.deferred (some []))).alloc (.loop (rec_ .ready)) = W1 := ⟨_, rfl⟩
  obtain ⟨hL1, hK1, hI1, hb1, hsz1⟩ := hDL W1 hW1.symm
  refine ⟨w.heap.size + 1, [{ target := .collected w.heap.size, args := #[] }], W1, { target := .fn (.func gf) lb, args := #[.func (.yield (w.heap.size + 1)) #[] #[]] }, W1, gf,
    #[.func (.yield (w.heap.size + 1)) #[] #[]] ++ lb, W1, by rw [← hW1]; exact hent, by simp only [resolve, hg]; simp [go_sem], fun f' hf' => by simp [Target.leads] at hf'; subst hf'; exact hFg, by simp [invoke, go_sem, eg], fun _ => h1, ?_⟩
  refine (hiter (fun W => W.heap[w.heap.size + 1]? = some (.loop (rec_ .ready)) ∧ W.heap[w.heap.size]? = some (.deferred (some []))) ?_ W1 ⟨hL1, hK1⟩ hI1 hb1 hsz1 ?_).mono ?_
  · rintro W W' ⟨hl, hk⟩ hs
    exact ⟨(hs _ (by omega) (Nat.le_refl _)).trans hl, (hs _ (Nat.le_refl _) (by omega)).trans hk⟩
  · rintro pre x W hi ⟨hl, hk⟩ hgood
    have hlt : w.heap.size + 1 < W.heap.size := (Array.getElem?_eq_some_iff.1 hl).1
    have hy := run_yield (P := P) (args := encs x) hl (hps x)
    refine ⟨fn, _, assign, body, hy, roundIn_of_wpIn hfn (hassign _ pre x W _ hi hgood hlt ?_)⟩
    intro a' W2 hs2 hrs
    have hl2 := (hs2 _ (by omega) (Nat.le_refl _)).trans hl
    have hk2 := (hs2 _ (Nat.le_refl _) (by omega)).trans hk
    have hlt2 : w.heap.size + 1 < W2.heap.size := (Array.getElem?_eq_some_iff.1 hl2).1
    refine ⟨_, run_beginRound hl2 rfl, ?_⟩
    have hl3 : (W2.putObj (w.heap.size + 1) (.loop (rec_ .busy))).heap[w.heap.size + 1]? = some (.loop (rec_ .busy)) := World.putObj_heap_same hlt2
    have hk3 : (W2.putObj (w.heap.size + 1) (.loop (rec_ .busy))).heap[w.heap.size]? = some (.deferred (some [])) := (World.putObj_heap_other (by omega)).trans hk2
    refine wpIn_mono (hbody _ pre x W a' _ (hRs pre x W a' W2 _ (by rw [hl2]; rfl) hrs)) ?_
    rintro e a3 W4 ⟨rfl, hs4, hn4⟩
    have hl4 := (hs4 _ (by omega) (Nat.le_refl _)).trans hl3
    have hk4 := (hs4 _ (Nat.le_refl _) (by omega)).trans hk3
    exact ⟨_, _, run_endRound none hl4, rfl, ⟨World.putObj_heap_same (Array.getElem?_eq_some_iff.1 hl4).1, (World.putObj_heap_other (by omega)).trans hk4⟩, hNx _ _ _ _ _ (by rw [hl4]; rfl) hn4⟩
  · rintro e W2 ⟨⟨v, rfl⟩, ⟨hl, hk⟩, xs, hS, hi⟩
    exact ⟨none, _, run_endLoop hl (by simp [rec_]), hdone _ xs _ (Nat.le_refl _) hS (hJ.putObj _ hi (by omega) hl rfl) ((World.putObj_heap_other (by omega)).trans hk)⟩
end Go.Proofs.Ytnicndnbloohhaa.H
