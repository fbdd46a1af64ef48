/- CrcOpens: what is sealed is opened as it was; what is opened is sealed as the same bytes; nothing below four bytes is opened. No conditions. -/
import Derived.Test.YtegcphdlkheboaaLx3
import Derived.Test.YtegcphdlkheboaaStr
namespace Go.Proofs.Ytegcphdlkheboaa.Pure
open Go.RowKit Go.Proofs.Ytegcphdlkheboaa.L Go.Proofs.Ytegcphdlkheboaa.H Moor Go.Proofs.YtegcphdlkheboaaW.PrintWords Go.Proofs.YtegcphdlkheboaaW.PrintLast

theorem CrcOpens : mooringslaw04_CrcOpens.Pure := by
  intro l0 m0 h0 w0
  have ho := okB_wf w0
  refine ⟨1, ?_⟩
  unfold mooringslaw04_CrcOpens.f
  simp only [mooringslaw04_awake.f, Option.bind_some, if_true]
  by_cases a : (l0.length : Int) > 400
  · rw [decide_eq_true a]
    simp [mooringslaw04_CrcOpens.j0]
  · rw [decide_eq_false a]
    have hs := cSeal_length l0
    simp only [mooringslaw04_CrcOpens.j0, crc_Seal.f, crc_Open.f]
    rw [if_neg (by decide), if_pos ⟨ho, by omega⟩]
    simp only [Option.bind_some]
    rw [if_pos ⟨cSeal_ok ho, by omega⟩, if_pos ⟨ho, by omega⟩]
    simp only [Option.bind_some, cOpen_seal, if_true]
    cases hc : (cOpen l0).2 with
    | false =>
      have hx : (cOpen l0).1 = [] := by rw [cOpen_no hc]
      simp only [hx, List.length_nil, Bool.false_eq_true, if_false, Int.natCast_zero, if_true]
      split <;> rfl
    | true =>
      obtain ⟨h1, h2, h3⟩ := cSeal_open hc
      rw [if_neg (by omega)]
      simp only [if_true]
      rw [if_pos ⟨by rw [h2]; exact okB_take ho _, by rw [h2]; simp; omega⟩]
      simp only [Option.bind_some, h3]
      simp
end Go.Proofs.Ytegcphdlkheboaa.Pure
