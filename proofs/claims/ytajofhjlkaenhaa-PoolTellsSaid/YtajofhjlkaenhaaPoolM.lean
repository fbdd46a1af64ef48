import Derived.Test.YtajofhjlkaenhaaPoolH
import Derived.Test.YtajofhjlkaenhaaPoolO
/-! mooringslaw11.awake answers true. -/
namespace Go.Proofs.Ytajofhjlkaenhaa.H
open Go.RowKit Go.Proofs.YtajofhjlkaenhaaW.PrintWords Go.Proofs.YtajofhjlkaenhaaW.PrintLast Go.Proofs.YtajofhjlkaenhaaW.PrintMore
set_option linter.unusedVariables false
set_option linter.unusedSimpArgs false

def awL : List Pl := [⟨1, 2, 0⟩]
def awM : List Pl := [⟨1, 2, 1⟩]
theorem aw_add : addR 4 ⟨1, 2, 0⟩ [] = (awL, 0) := by decide
theorem aw_drain : drainR 4 0 awL = (awM, 0) := by decide
theorem aw_of1 : ofP awL 1 = 0 := by decide
theorem aw_of2 : ofP awL 2 = 0 := by decide
theorem aw_of3 : ofP awL 3 = -1 := by decide
theorem aw_gl : givesP awL 2 = true := by decide
theorem aw_gm : givesP awM 2 = false := by decide
theorem aw_may : maysP awM 4 = true := by decide
theorem aw_ne : decide (awL = awM) = false := by decide
theorem aw_len : ((awL.length : Nat) : Int) = 1 := by decide

set_option maxRecDepth 100000 in
set_option maxHeartbeats 8000000 in
theorem awake_true (w : World) : Calls Try.prog 10 #[] w fun e w' => e = .returned (.bool true) ∧ Below w.heap.size w w' := by
  have hl := aw_len
  have hlb : ((awL.length : Int) == 1) = true := by rw [hl]; rfl
  have hls : awL.length ≤ 1 := by omega
  clear hl
  go_enter Try.func10, Try.ntmps10
  go_wp2_with (fail)
  have q := add_calls none 0 [] 4 1 2 w (Kd.C_nil _ _) (by simp) (by simp)
  rw [aw_add] at q
  refine q.mono ?_
  clear q
  rintro e w1 ⟨A1, c1, rfl, hc1, hC1, hB1⟩
  dsimp only at hc1 hC1 ⊢
  go_wp2_with (fail)
  have q := drain_calls A1 c1 awL 4 0 w1 hC1 hc1 (by omega)
  rw [aw_drain] at q
  refine q.mono ?_
  clear q
  rintro e w2 ⟨A2, c2, rfl, hc2, hC2, hb2⟩
  replace hC1 := Kd.C_below hC1 hb2
  have hB2 : Below w.heap.size w w2 := hB1.trans (hb2.mono hB1.size)
  clear hb2
  dsimp only at hc2 hC2 ⊢
  go_wp2_with (fail)
  have q := of_calls A1 c1 awL 1 w2 hC1 hc1
  rw [aw_of1] at q
  refine q.mono ?_
  clear q
  rintro e w3 ⟨rfl, hb3⟩
  replace hC1 := Kd.C_below hC1 hb3
  replace hC2 := Kd.C_below hC2 hb3
  have hB3 : Below w.heap.size w w3 := hB2.trans (hb3.mono hB2.size)
  clear hb3
  go_wp2_with (fail)
  have q := of_calls A1 c1 awL 2 w3 hC1 hc1
  rw [aw_of2] at q
  refine q.mono ?_
  clear q
  rintro e w4 ⟨rfl, hb4⟩
  replace hC1 := Kd.C_below hC1 hb4
  replace hC2 := Kd.C_below hC2 hb4
  have hB4 : Below w.heap.size w w4 := hB3.trans (hb4.mono hB3.size)
  clear hb4
  go_wp2_with (fail)
  have q := of_calls A1 c1 awL 3 w4 hC1 hc1
  rw [aw_of3] at q
  refine q.mono ?_
  clear q
  rintro e w5 ⟨rfl, hb5⟩
  replace hC1 := Kd.C_below hC1 hb5
  replace hC2 := Kd.C_below hC2 hb5
  have hB5 : Below w.heap.size w w5 := hB4.trans (hb5.mono hB4.size)
  clear hb5
  go_wp2_with (fail)
  have q := gives_calls A1 c1 awL 2 w5 hC1 hc1
  rw [aw_gl] at q
  refine q.mono ?_
  clear q
  rintro e w6 ⟨rfl, hb6⟩
  replace hC1 := Kd.C_below hC1 hb6
  replace hC2 := Kd.C_below hC2 hb6
  have hB6 : Below w.heap.size w w6 := hB5.trans (hb6.mono hB5.size)
  clear hb6
  go_wp2_with (fail)
  have q := gives_calls A2 c2 awM 2 w6 hC2 hc2
  rw [aw_gm] at q
  refine q.mono ?_
  clear q
  rintro e w7 ⟨rfl, hb7⟩
  replace hC1 := Kd.C_below hC1 hb7
  replace hC2 := Kd.C_below hC2 hb7
  have hB7 : Below w.heap.size w w7 := hB6.trans (hb7.mono hB6.size)
  clear hb7
  go_wp2_with (fail)
  have q := may_calls A2 c2 awM 4 w7 hC2 hc2
  rw [aw_may] at q
  refine q.mono ?_
  clear q
  rintro e w8 ⟨rfl, hb8⟩
  replace hC1 := Kd.C_below hC1 hb8
  replace hC2 := Kd.C_below hC2 hb8
  have hB8 : Below w.heap.size w w8 := hB7.trans (hb8.mono hB7.size)
  clear hb8
  go_wp2_with (fail)
  have q := same_calls A1 c1 awL A1 c1 awL true (decide_eq_true rfl) w8 hC1 hc1 hC1 hc1 (by omega)
  refine q.mono ?_
  clear q
  rintro e w9 ⟨rfl, hb9⟩
  replace hC1 := Kd.C_below hC1 hb9
  replace hC2 := Kd.C_below hC2 hb9
  have hB9 : Below w.heap.size w w9 := hB8.trans (hb9.mono hB8.size)
  clear hb9
  go_wp2_with (fail)
  have q := same_calls A1 c1 awL A2 c2 awM false aw_ne w9 hC1 hc1 hC2 hc2 (by omega)
  refine q.mono ?_
  clear q
  rintro e w10 ⟨rfl, hb10⟩
  replace hC1 := Kd.C_below hC1 hb10
  replace hC2 := Kd.C_below hC2 hb10
  have hB10 : Below w.heap.size w w10 := hB9.trans (hb10.mono hB9.size)
  clear hb10
  go_wp2_with (fail)
  go_ret
  exact ⟨rfl, hB10⟩
end Go.Proofs.Ytajofhjlkaenhaa.H
