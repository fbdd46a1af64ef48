import Derived.Test.YtiallcoopdlneaaLx2
import Derived.Test.YtiallcoopdlneaaPureawake
namespace Go.Proofs.Ytiallcoopdlneaa.Pure
open Go.RowKit Go.Proofs.Ytiallcoopdlneaa.L Go.Proofs.Ytiallcoopdlneaa.H Moor Go.Proofs.YtiallcoopdlneaaW.PrintWords Go.Proofs.YtiallcoopdlneaaW.PrintLast

theorem vZig_in {n : Int} (h : -274877906944 ≤ n ∧ n ≤ 274877906944) : vZig n = zig n := by unfold vZig; rw [if_neg (by omega)]
theorem vZig_out {n : Int} (h : ¬ (-274877906944 ≤ n ∧ n ≤ 274877906944)) : vZig n = -1 := by unfold vZig; rw [if_pos (by omega)]
theorem zig_inj {m n : Int} (h : zig m = zig n) : m = n := by rw [← zag_zig m, h, zag_zig]

theorem back_j2 (k : Nat) (x2 : Int) : mooringslaw02_ZigBack.j2 (k + 1) x2 false = some true := by
  simp only [mooringslaw02_ZigBack.j2, zig_Zig.f, zig_Zag.f, Option.bind_some]
  rw [if_neg (by decide)]
  by_cases a : x2 < 0
  · rw [if_pos a]
  · rw [if_neg a]
    by_cases b : x2 > 549755813888
    · rw [if_pos b]
    · rw [if_neg b, vZig_in (vZag_bd x2), zig_vZag (by omega) (by omega)]
      simp
theorem ZigBack : mooringslaw02_ZigBack.Pure := by
  intro a0 a1 a2 h0 h1 h2
  refine ⟨3, ?_⟩
  unfold mooringslaw02_ZigBack.f
  rw [awake_some]
  simp only [Option.bind_some, zig_Zig.f]
  by_cases g : -274877906944 ≤ a0 ∧ a0 ≤ 274877906944
  · rw [vZig_in g, if_pos (show a0 ≥ -274877906944 from g.1), decide_eq_true g.2]
    simp only [mooringslaw02_ZigBack.j0, if_true, zig_Zag.f, Option.bind_some]
    rw [decide_eq_true (show zig a0 ≥ 0 from zig_nonneg a0), if_neg (by decide), vZag_zig g.1 g.2, if_pos rfl]
    simp only [mooringslaw02_ZigBack.j1, if_true, zig_Zig.f, Option.bind_some]
    rw [if_neg (by decide)]
    by_cases e : vZig a1 = zig a0
    · have : a1 = a0 := by
        by_cases q : -274877906944 ≤ a1 ∧ a1 ≤ 274877906944
        · rw [vZig_in q] at e
          exact zig_inj e
        · rw [vZig_out q] at e
          have := zig_nonneg a0
          omega
      subst this
      rw [if_pos e]
      simp only [bne_self_eq_false]
      exact back_j2 0 a2
    · rw [if_neg e]
      exact back_j2 0 a2
  · rw [vZig_out g]
    have H : mooringslaw02_ZigBack.j0 3 a0 a1 a2 true (-1) false = some true := by
      simp only [mooringslaw02_ZigBack.j0, if_true]
      rw [if_neg (by decide), if_neg (by decide)]
      simp only [mooringslaw02_ZigBack.j1]
      rw [if_neg (by decide), if_neg (by decide)]
      exact back_j2 0 a2
    by_cases c : a0 ≥ -274877906944
    · rw [if_pos c, decide_eq_false (show ¬ a0 ≤ 274877906944 from fun q => g ⟨c, q⟩)]
      exact H
    · rw [if_neg c]
      exact H

end Go.Proofs.Ytiallcoopdlneaa.Pure
