import Derived.Test.YtngohjjepjpdlaaLx6
import Derived.Test.YtngohjjepjpdlaaStr
namespace Go.Proofs.Ytngohjjepjpdlaa.Pure
open Go.RowKit Go.Proofs.Ytngohjjepjpdlaa.L Go.Proofs.Ytngohjjepjpdlaa.H Moor Go.Proofs.YtngohjjepjpdlaaW.PrintWords Go.Proofs.YtngohjjepjpdlaaW.PrintLast

theorem VariApart : mooringslaw01_VariApart.Pure := by
  intro l0 l1 m0 h0 w0 m1 h1 w1
  refine ⟨1, ?_⟩
  unfold mooringslaw01_VariApart.f
  simp only [mooringslaw01_awake.f, Option.bind_some, if_true]
  by_cases a : (l0.length : Int) > 400
  · rw [if_pos a]
    simp [mooringslaw01_VariApart.j0]
  · rw [if_neg a]
    by_cases b : (l1.length : Int) > 400
    · rw [decide_eq_true b]
      simp [mooringslaw01_VariApart.j0]
    · rw [decide_eq_false b]
      simp only [mooringslaw01_VariApart.j0, vari_All.f, mooringsref01_Ints.f, Option.bind_some]
      rw [if_neg (by decide), if_pos (show l0.length ≤ 140737488355328 by omega)]
      simp only [Option.bind_some]
      by_cases p : l0.length ≤ 400 ∧ ∀ x ∈ l0, mayN x
      · simp only [vAll_pos p, if_true]
        by_cases q : l1.length ≤ 400 ∧ ∀ x ∈ l1, mayN x
        · simp only [vAll_pos q, if_true]
          rw [str_eq (okB_flat p.2) (okB_flat q.2)]
          by_cases e : l0 = l1
          · simp [e]
          · have : ¬ l0.flatMap put = l1.flatMap put := fun g => e (flat_inj p.2 q.2 g)
            simp [e, this]
        · simp only [vAll_neg q]
          simp
      · simp only [vAll_neg p]
        simp

end Go.Proofs.Ytngohjjepjpdlaa.Pure
