import Derived.Test.YtiallcoopdlneaaLx1
import Derived.Test.YtiallcoopdlneaaStr
namespace Go.Proofs.Ytiallcoopdlneaa.Pure
open Go.RowKit Go.Proofs.Ytiallcoopdlneaa.L Go.Proofs.Ytiallcoopdlneaa.H Moor Go.Proofs.YtiallcoopdlneaaW.PrintWords Go.Proofs.YtiallcoopdlneaaW.PrintLast

theorem zig544 : vSteps [5, 4, 4] = ([10, 1, 0], true) := by
  rw [vSteps_pos ⟨by decide, by decide⟩]
  decide
theorem zag544 : vSums [10, 1, 0] = ([5, 4, 4], true) := by
  have h := vSums_steps (l := [5, 4, 4]) ⟨by decide, by decide⟩
  have e : (diffs 0 [5, 4, 4]).flatMap put = [10, 1, 0] := by decide
  rw [e] at h
  exact h
theorem awake_some : mooringslaw02_awake.f = some true := by
  unfold mooringslaw02_awake.f
  simp only [zig_Steps.f, zig_Sums.f, zig_Zig.f, zig_Zag.f]
  rw [if_pos (show ([5, 4, 4] : List Int).length ≤ 17592186044416 by decide), zig544]
  simp only [Option.bind_some]
  rw [if_pos (show okB [10, 1, 0] ∧ ([10, 1, 0] : List Int).length ≤ 140737488355328 from ⟨by decide, by decide⟩), zag544]
  simp only [Option.bind_some]
  rw [if_pos (show vZig 0 = 0 by decide), if_pos (show vZig (-1) = 1 by decide), if_pos (show vZig 1 = 2 by decide), if_pos (show vZag 3 = -2 by decide)]
  simp only [if_true]
  rw [if_pos (show (strOfNums [10, 1, 0]).toList = ([10, 1, 0] : List UInt8) by rw [str_list]; decide)]
  rfl
theorem awake : mooringslaw02_awake.Pure := awake_some

end Go.Proofs.Ytiallcoopdlneaa.Pure
