import Derived.Test.YtngohjjepjpdlaaLx5
import Derived.Test.YtngohjjepjpdlaaStr
namespace Go.Proofs.Ytngohjjepjpdlaa.Pure
open Go.RowKit Go.Proofs.Ytngohjjepjpdlaa.L Go.Proofs.Ytngohjjepjpdlaa.H Moor Go.Proofs.YtngohjjepjpdlaaW.PrintWords Go.Proofs.YtngohjjepjpdlaaW.PrintLast

theorem count_tail (l : List Int) (o : okB l) (n : l.length ≤ 500) :
    ((vari_Read.f l).bind fun bt => (if (bt.1.length : Int) ≤ (l.length : Int) then (if bt.2 = true then (if (l.length : Int) = 0 then (some true) else (some (decide ((bt.1.length : Int) > 0)))) else (some true)) else (some false))) = some true := by
  simp only [vari_Read.f]
  rw [if_pos ⟨o, by omega⟩]
  simp only [Option.bind_some]
  by_cases h : ∃ m, Moor.read l = some m ∧ m.length ≤ 400
  · obtain ⟨m, hr, hm⟩ := h
    obtain ⟨_, _, h3, h4⟩ := read_back o hr
    simp only [vRead_pos hr hm, if_true]
    rw [if_pos (by omega)]
    by_cases z : (l.length : Int) = 0
    · rw [if_pos z]
    · rw [if_neg z]
      have : m ≠ [] := h4 (fun e => z (by rw [e]; rfl))
      have : 0 < m.length := List.length_pos_iff.2 this
      rw [decide_eq_true (show (m.length : Int) > 0 by omega)]
  · simp only [vRead_neg (fun m h1 h2 => h ⟨m, h1, h2⟩)]
    simp

theorem VariCount : mooringslaw01_VariCount.Pure := by
  intro n l w0 m1 h1 w1
  refine ⟨1, ?_⟩
  unfold mooringslaw01_VariCount.f
  simp only [mooringslaw01_awake.f, Option.bind_some, if_true]
  by_cases a : (l.length : Int) > 500
  · rw [decide_eq_true a]
    simp [mooringslaw01_VariCount.j0]
  · rw [decide_eq_false a]
    simp only [mooringslaw01_VariCount.j0, count_tail l (okB_wf w1) (by omega), vari_Put.f, Option.bind_some]
    have F3 : ((vPut 1099511627776).length : Int) = 6 := by decide
    have F1 : 0 ≤ n → n < 128 → ((vPut n).length : Int) = 1 := fun g1 g2 => by
      rw [vPut_pos ⟨g1, by omega⟩]
      simp [put, putF, g2]
    have F2 : 128 ≤ n → n < 16384 → ((vPut n).length : Int) = 2 := fun g1 g2 => by
      rw [vPut_pos ⟨by omega, by omega⟩]
      have g3 : n / 128 < 128 := by omega
      have g4 : ¬ n < 128 := by omega
      simp [put, putF, g3, g4]
    rw [if_neg (by decide)]
    simp only [F3, if_true]
    by_cases b : n ≥ 0
    · by_cases c : n < 128
      · have d : ¬ n ≥ 128 := by omega
        simp [b, c, d, F1 b c]
      · have d : n ≥ 128 := by omega
        by_cases e : n < 16384
        · simp [b, c, d, e, F2 d e]
        · simp [b, c, d, e]
    · have d : ¬ n ≥ 128 := by omega
      simp [b, d]

end Go.Proofs.Ytngohjjepjpdlaa.Pure
