import Derived.Test.YtnicndnbloohhaaRecAw
import Derived.Test.YtnicndnbloohhaaRecO
import Derived.Deep.RegionHeld3
import Derived.Deep.QuietTactic
import Derived.BigQuiet
import Derived.OpenShut
/-! The law RecLong, walked. -/
namespace Go.Proofs.Ytnicndnbloohhaa.H
open Go.RowKit Moor Go.Proofs.YtnicndnbloohhaaW.PrintWords Go.Proofs.YtnicndnbloohhaaW.PrintLast Go.Proofs.YtnicndnbloohhaaW.PrintMore
set_option linter.unusedVariables false
set_option linter.unusedSimpArgs false

set_option maxRecDepth 100000 in
set_option maxHeartbeats 8000000 in
theorem recLong_walk (a0 : Int) (A0 : Option Addr) (c0 : Nat) (l0 : List Int) (w : World) (hr0 : Kd.C (Kd.int .u8) w A0 l0.length l0) (hc0 : l0.length ≤ c0) (ho0 : okB l0) :
    Calls Try.prog 8 #[.agg #[.int .i64 a0, .slice A0 l0.length c0]] w fun e w' => e = .returned (.bool true) ∧ Below w.heap.size w w' := by
  go_enter Try.func8, Try.ntmps8
  go_wp2_with (fail)
  have hbx0 := BoxR.new w (.int .i64 a0) (.slice A0 l0.length c0)
  have hBa0 : Below w.heap.size w (w.alloc (.cells #[.int .i64 a0, .slice A0 l0.length c0] 24)) := below_alloc (Below.refl _ _) _
  refine (awake_true _).mono ?_
  rintro e w1 ⟨rfl, hb1⟩
  have hB1 : Below w.heap.size w w1 := hBa0.trans (hb1.mono hBa0.size)
  replace hbx0 := BoxR.below hbx0 hb1
  have x00 := hbx0.c0
  have x01 := hbx0.c1
  clear hb1
  by_cases g : l0.length ≤ 1100
  · skip
    have gi : ¬ (1100 : Int) < (l0.length : Int) := by omega
    by_cases hm : recMay ⟨a0, l0⟩
    · skip
      go_wp2_with (fail)
      have q := rput_calls ⟨a0, l0⟩ A0 c0 w1 (Kd.C_below hr0 hB1) hc0 ho0
      rw [rPut_pos hm] at q
      refine q.mono ?_
      clear q
      rintro e w2 ⟨A2, c2, rfl, hc2, hC2, hb2⟩
      dsimp only at hc2 hC2 ⊢
      replace hbx0 := BoxR.below hbx0 hb2
      clear x00 x01
      have x00 := hbx0.c0
      have x01 := hbx0.c1
      have hB2 : Below w.heap.size w w2 := hB1.trans (hb2.mono hB1.size)
      clear hb2
      have HC2 := Lib.hid hC2
      clear hC2
      have m0 : 0 ≤ a0 := hm.1
      have m1 : a0 ≤ 255 := hm.2.1
      have m2 : (l0.length : Int) ≤ 1000 := by have : l0.length ≤ 1000 := hm.2.2; omega
      have hll := recBytes_length ⟨a0, l0⟩
      dsimp only at hll
      generalize recBytes ⟨a0, l0⟩ = y at *
      clear hm
      by_cases g2 : l0.length < 128
      · skip
        rw [put_one (by omega) (by omega)] at hll
        have h128 : (l0.length : Int) < 128 := by omega
        have hlb : ((y.length : Int) == (l0.length : Int) + 6) = true := by rw [beq_iff_eq]; omega
        clear hll g2
        go_wp2_with (fail)
        go_ret
        exact ⟨rfl, hB2⟩
      · skip
        rw [put_two (by omega) (by omega)] at hll
        have h128 : ¬ (l0.length : Int) < 128 := by omega
        have hlb : ((y.length : Int) == (l0.length : Int) + 7) = true := by rw [beq_iff_eq]; omega
        clear hll g2
        go_wp2_with (fail)
        go_ret
        exact ⟨rfl, hB2⟩
    · skip
      go_wp2_with (fail)
      have q := rput_calls ⟨a0, l0⟩ A0 c0 w1 (Kd.C_below hr0 hB1) hc0 ho0
      rw [rPut_neg hm] at q
      refine q.mono ?_
      clear q
      rintro e w2 ⟨A2, c2, rfl, hc2, hC2, hb2⟩
      dsimp only at hc2 hC2 ⊢
      replace hbx0 := BoxR.below hbx0 hb2
      clear x00 x01
      have x00 := hbx0.c0
      have x01 := hbx0.c1
      have hB2 : Below w.heap.size w w2 := hB1.trans (hb2.mono hB1.size)
      clear hb2
      have HC2 := Lib.hid hC2
      clear hC2
      by_cases m0 : 0 ≤ a0
      · skip
        by_cases m1 : a0 ≤ 255
        · skip
          have m2 : ¬ (l0.length : Int) ≤ 1000 := fun h => hm ⟨m0, m1, by show l0.length ≤ 1000; omega⟩
          clear hm
          go_wp2_with (fail)
          go_ret
          exact ⟨rfl, hB2⟩
        · skip
          clear hm
          go_wp2_with (fail)
          go_ret
          exact ⟨rfl, hB2⟩
      · skip
        clear hm
        go_wp2_with (fail)
        go_ret
        exact ⟨rfl, hB2⟩
  · skip
    have gi : (1100 : Int) < (l0.length : Int) := by omega
    go_wp2_with (fail)
    go_ret
    exact ⟨rfl, hB1⟩

end Go.Proofs.Ytnicndnbloohhaa.H
