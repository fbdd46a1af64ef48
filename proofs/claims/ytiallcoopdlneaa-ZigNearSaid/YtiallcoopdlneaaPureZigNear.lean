import Derived.Test.YtiallcoopdlneaaLx5
import Derived.Test.YtiallcoopdlneaaPureawake
namespace Go.Proofs.Ytiallcoopdlneaa.Pure
open Go.RowKit Go.Proofs.Ytiallcoopdlneaa.L Go.Proofs.Ytiallcoopdlneaa.H Moor Go.Proofs.YtiallcoopdlneaaW.PrintWords Go.Proofs.YtiallcoopdlneaaW.PrintLast

theorem ZigNear : mooringslaw02_ZigNear.Pure := by
  intro a0 a1 h0 h1
  refine ⟨1, ?_⟩
  unfold mooringslaw02_ZigNear.f
  rw [awake_some]
  simp only [Option.bind_some, if_true, zig_Zig.f, mooringslaw02_ZigNear.j0]
  by_cases a : a0 < 1
  · rw [if_pos a]
  · rw [if_neg a]
    by_cases b : a0 > 274877906944
    · rw [if_pos b]
    · rw [if_neg b, wrap64_id (n := -a0) (by omega) (by omega)]
      by_cases c : a1 < -a0
      · rw [if_pos c]
      · rw [if_neg c]
        by_cases d : a1 > a0
        · rw [decide_eq_true d, if_pos rfl]
        · rw [decide_eq_false d, if_neg (by decide)]
          have e1 : vZig a0 = 2 * a0 := by unfold vZig zig; rw [if_neg (by omega), if_neg (by omega)]
          have e2 : vZig (-a0) = 2 * a0 - 1 := by unfold vZig zig; rw [if_neg (by omega), if_pos (by omega)]; omega
          have e3 : vZig a1 ≤ 2 * a0 := by unfold vZig zig; rw [if_neg (by omega)]; split <;> omega
          rw [e1, e2, if_pos e3, wrap64_id (n := 2 * a0 - 1) (by omega) (by omega)]
          simp

end Go.Proofs.Ytiallcoopdlneaa.Pure
