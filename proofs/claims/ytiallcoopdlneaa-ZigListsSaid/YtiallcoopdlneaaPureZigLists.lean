import Derived.Test.YtiallcoopdlneaaLx3
import Derived.Test.YtiallcoopdlneaaPureawake
namespace Go.Proofs.Ytiallcoopdlneaa.Pure
open Go.RowKit Go.Proofs.Ytiallcoopdlneaa.L Go.Proofs.Ytiallcoopdlneaa.H Moor Go.Proofs.YtiallcoopdlneaaW.PrintWords Go.Proofs.YtiallcoopdlneaaW.PrintLast
set_option linter.unusedVariables false
set_option linter.unusedSimpArgs false

theorem diffs_beginning : ∀ (p : Int) (l : List Int) (n : Nat), ∃ q, diffs p l = diffs p (l.take n) ++ q
  | p, [], n => ⟨[], by simp [diffs]⟩
  | p, x :: t, 0 => ⟨diffs p (x :: t), by simp [diffs]⟩
  | p, x :: t, n + 1 => by
    obtain ⟨q, h⟩ := diffs_beginning x t n
    exact ⟨q, by simp [diffs, h]⟩
theorem steps_beginning (l : List Int) (n : Nat) : ∃ q, (diffs 0 l).flatMap put = (diffs 0 (l.take n)).flatMap put ++ q := by
  obtain ⟨q, h⟩ := diffs_beginning 0 l n
  exact ⟨q.flatMap put, by rw [h, List.flatMap_append]⟩

theorem lists_j1 (k : Nat) (l0 : List Int) (a2 : Int) (p : l0.length ≤ 400 ∧ ∀ x ∈ l0, zin x) : mooringslaw02_ZigLists.j1 (k + 1) l0 a2 ((diffs 0 l0).flatMap put) true false = some true := by
  simp only [mooringslaw02_ZigLists.j1, if_true]
  rw [if_neg (by decide)]
  by_cases a : a2 < 0
  · rw [if_pos a]
  · rw [if_neg a]
    by_cases b : a2 > (l0.length : Int)
    · rw [if_pos b]
    · rw [if_neg b, if_pos (show 0 ≤ a2 by omega), if_pos (show a2 ≤ (l0.length : Int) by omega)]
      have hz : ∀ x ∈ l0.take a2.toNat, zin x := fun x hx => p.2 x (List.mem_of_mem_take hx)
      have hl : (l0.take a2.toNat).length ≤ 400 := by rw [List.length_take]; omega
      simp only [zig_Steps.f]
      rw [if_pos (show (l0.take a2.toNat).length ≤ 17592186044416 by omega), vSteps_pos ⟨hl, hz⟩]
      obtain ⟨q, hq⟩ := steps_beginning l0 a2.toNat
      have hok := okB_flat (diffs_mayN hz)
      simp only [Option.bind_some, if_true]
      rw [hq]
      generalize (diffs 0 (l0.take a2.toNat)).flatMap put = u at *
      rw [if_pos (show (u.length : Int) ≤ ((u ++ q).length : Int) by rw [List.length_append]; omega), if_pos (show (0 : Int) ≤ (u.length : Int) by omega)]
      rw [Int.toNat_natCast, List.take_left' rfl]
      simp
theorem ZigLists : mooringslaw02_ZigLists.Pure := by
  intro l0 l1 a2 h0 h1 h2 h3 h4 h5 h6
  refine ⟨2, ?_⟩
  have ho : okB l1 := okB_wf h5
  unfold mooringslaw02_ZigLists.f
  rw [awake_some]
  simp only [Option.bind_some, if_true]
  have J : ∀ b : Bool, b = true → mooringslaw02_ZigLists.j0 2 l0 l1 a2 true b = some true := fun b hb => by
    simp only [mooringslaw02_ZigLists.j0]
    rw [if_pos hb]
  by_cases a : (l0.length : Int) > 300
  · rw [if_pos a]
    exact J _ rfl
  · rw [if_neg a]
    by_cases b : (l1.length : Int) > 500
    · rw [decide_eq_true b]
      exact J _ rfl
    · rw [decide_eq_false b]
      simp only [mooringslaw02_ZigLists.j0, zig_Steps.f, zig_Sums.f, mooringsref01_Ints.f]
      have hs := vSteps_ok l0
      rw [if_neg (by decide), if_pos (show l0.length ≤ 17592186044416 by omega)]
      simp only [Option.bind_some]
      rw [if_pos (show okB (vSteps l0).1 ∧ (vSteps l0).1.length ≤ 140737488355328 from ⟨hs.1, by omega⟩)]
      simp only [Option.bind_some]
      by_cases p : l0.length ≤ 400 ∧ ∀ x ∈ l0, zin x
      · have e1 := vSteps_pos p
        have e2 := vSums_steps p
        simp only [e1, e2]
        rw [if_pos (show l0.length ≤ 140737488355328 by omega), if_pos (show okB l1 ∧ l1.length ≤ 140737488355328 from ⟨ho, by omega⟩)]
        simp only [Option.bind_some, if_true, decide_true]
        rcases vSums_cases ho with e3 | ⟨l, e3, g1, g2, g3⟩
        · simp only [e3]
          rw [if_pos (by simp)]
          simp only [Option.bind_some]
          simpa using lists_j1 0 l0 a2 p
        · simp only [e3]
          rw [if_pos (show l.length ≤ 17592186044416 by omega), vSteps_pos ⟨g1, g2⟩, g3]
          simp only [Option.bind_some, if_true, bne_self_eq_false]
          exact lists_j1 0 l0 a2 p
      · have e1 := vSteps_neg p
        simp only [e1]
        have hr : (vSums ([] : List Int)).1.length ≤ 140737488355328 := by
          rcases vSums_cases okB_nil with e3 | ⟨l, e3, g1, _⟩
          · rw [e3]; simp
          · rw [e3]; simp only; omega
        rw [if_pos hr, if_pos (show okB l1 ∧ l1.length ≤ 140737488355328 from ⟨ho, by omega⟩)]
        simp only [Option.bind_some]
        rcases vSums_cases ho with e3 | ⟨l, e3, g1, g2, g3⟩
        · simp only [e3]
          rw [if_pos (by simp)]
          simp [mooringslaw02_ZigLists.j1]
        · simp only [e3]
          rw [if_pos (show l.length ≤ 17592186044416 by omega), vSteps_pos ⟨g1, g2⟩, g3]
          simp [mooringslaw02_ZigLists.j1]

end Go.Proofs.Ytiallcoopdlneaa.Pure
