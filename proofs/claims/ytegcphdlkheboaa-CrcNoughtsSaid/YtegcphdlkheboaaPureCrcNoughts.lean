/- CrcNoughts: a byte of 0 ahead, or behind, is taken as any other one. No conditions. -/
import Derived.Test.YtegcphdlkheboaaLx4
import Derived.Test.YtegcphdlkheboaaStr
namespace Go.Proofs.Ytegcphdlkheboaa.Pure
open Go.RowKit Go.Proofs.Ytegcphdlkheboaa.L Go.Proofs.Ytegcphdlkheboaa.H Moor Go.Proofs.YtegcphdlkheboaaW.PrintWords Go.Proofs.YtegcphdlkheboaaW.PrintLast

theorem nought_other : cSum [0] ≠ cSum [] := by decide +kernel
theorem ok_nought : okB [0] := by decide

theorem CrcNoughts : mooringslaw04_CrcNoughts.Pure := by
  intro l0 m0 h0 w0
  have ho := okB_wf w0
  refine ⟨1, ?_⟩
  unfold mooringslaw04_CrcNoughts.f
  simp only [mooringslaw04_awake.f, Option.bind_some, if_true]
  by_cases a : (l0.length : Int) > 300
  · rw [decide_eq_true a]
    simp [mooringslaw04_CrcNoughts.j0]
  · rw [decide_eq_false a]
    have hb := cSum_ok l0
    have hz := cSum_ok [0]
    have hl1 : (l0 ++ [0]).length ≤ 400 := by simp; omega
    have hl2 : ([0] ++ l0).length ≤ 400 := by simp; omega
    have o1 : okB (l0 ++ [0]) := okB_append ho ok_nought
    have o2 : okB ([0] ++ l0) := okB_append ok_nought ho
    simp only [mooringslaw04_CrcNoughts.j0, crc_Sum.f, crc_More.f, Option.bind_some, List.nil_append]
    rw [if_neg (by decide), if_pos (by simp; omega), if_pos (by simp; omega), if_pos (by omega), if_pos ⟨ho, by omega⟩]
    simp only [Option.bind_some]
    rw [if_pos ⟨hb.1, by omega, ok_nought⟩]
    simp only [Option.bind_some]
    rw [if_pos ⟨o1, by omega⟩]
    simp only [Option.bind_some]
    rw [cMore_sum, if_pos rfl, if_pos ⟨o2, by omega⟩]
    simp only [Option.bind_some]
    rw [if_pos ⟨ok_nought, by simp⟩]
    simp only [Option.bind_some]
    rw [if_pos ⟨hz.1, by omega, ho⟩]
    simp only [Option.bind_some]
    rw [cMore_sum, if_pos rfl, if_pos ⟨okB_nil, by simp⟩]
    simp only [Option.bind_some]
    simpa using nought_other
end Go.Proofs.Ytegcphdlkheboaa.Pure
