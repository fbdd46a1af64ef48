import Derived.Test.YtajofhjlkaenhaaPoolM
import Derived.Deep.RegionHeld
import Derived.Deep.QuietTactic
import Derived.BigQuiet
import Derived.OpenShut
import Derived.Test.YtajofhjlkaenhaaPoolS
/-! The law PoolDrains, walked. -/
namespace Go.Proofs.Ytajofhjlkaenhaa.H
open Go.RowKit Go.Proofs.YtajofhjlkaenhaaW.PrintWords Go.Proofs.YtajofhjlkaenhaaW.PrintLast Go.Proofs.YtajofhjlkaenhaaW.PrintMore
set_option linter.unusedVariables false
set_option linter.unusedSimpArgs false

set_option maxRecDepth 100000 in
set_option maxHeartbeats 8000000 in
theorem poolDrains_calls (A0 : Option Addr) (c0 : Nat) (l0 : List Pl) (a1 : Int) (a2 : Int) (a3 : Int) (A4 : Option Addr) (c4 : Nat) (l4 : List Int) (a5 : Int) (w : World) (hr0 : Kd.C kP w A0 l0.length l0) (hc0 : l0.length ≤ c0) (hw1 : (Lit.int .i64 a1).wf = true) (hw2 : (Lit.int .i64 a2).wf = true) (hw3 : (Lit.int .i64 a3).wf = true) (hr4 : Kd.C (Kd.int .i64) w A4 l4.length l4) (hc4 : l4.length ≤ c4) (hw5 : (Lit.int .i64 a5).wf = true) (g0 : l0.length ≤ 6) (g1 : l4.length ≤ 40) :
    Calls Try.prog 9 #[.slice A0 l0.length c0, .int .i64 a1, .int .i64 a2, .int .i64 a3, .slice A4 l4.length c4, .int .i64 a5] w fun e w' => e = .returned (.bool true) ∧ Below w.heap.size w w' := by
  have k0 : ¬ ((6 : Int) < (l0.length : Int)) := by omega
  have k4 : ¬ ((40 : Int) < (l4.length : Int)) := by omega
  go_enter Try.func9, Try.ntmps9
  go_wp2_with (fail)
  refine (awake_true w).mono ?_
  rintro e w1 ⟨rfl, hb1⟩
  have hB1 : Below w.heap.size w w1 := hb1
  replace hr0 := Kd.C_below hr0 hb1
  replace hr4 := Kd.C_below hr4 hb1
  go_wp2_with (fail)
  have q := drain_calls A0 c0 l0 a1 a2 w1 hr0 hc0 (by omega)
  refine q.mono ?_
  clear q
  rintro e w2 ⟨A1, c1, rfl, hc1, hC1, hb2⟩
  replace hr0 := Kd.C_below hr0 hb2
  replace hr4 := Kd.C_below hr4 hb2
  have hB2 : Below w.heap.size w w2 := hB1.trans (hb2.mono hB1.size)
  clear hb2
  have HE := Lib.hid (fun h => drainR_err (out := a1) (k := a2) (l := l0) h)
  have HK := Lib.hid (fun h => drains_ok (out := a1) (k := a2) (l := l0) h)
  generalize (drainR a1 a2 l0).1 = x1 at *
  generalize (drainR a1 a2 l0).2 = e1 at *
  by_cases h1 : e1 = 0
  · skip
    obtain ⟨d1, d2, d3, d4, d5, d6, d7⟩ := HK.out h1
    subst h1
    have D7 := Lib.hid d7
    have D12 := Lib.hid (drains_gone (out := a1) (busy := l4) d1 d2 d3 d4)
    have D6 := Lib.hid d6
    clear HE HK d1 d4 d6 d7
    have hx1 : x1.length ≤ 1000 := by omega
    have hz := size_keeps (out := a1) (n := a3) (busy := l4) d2 (show a2 < (x1.length : Int) by omega)
    rw [d5, D6.out] at hz
    have HZ := Lib.hid hz
    have D5 := Lib.hid d5
    clear hz D6 d5
    go_wp2_with (fail)
    have q := size_calls A1 c1 x1 a1 a2 a3 A4 c4 l4 w2 hC1 hc1 hx1 hr4 hc4
    refine q.mono ?_
    clear q
    rintro e w3 ⟨A2, c2, rfl, hc2, hC2, hb3⟩
    replace hr0 := Kd.C_below hr0 hb3
    replace hr4 := Kd.C_below hr4 hb3
    replace hC1 := Kd.C_below hC1 hb3
    have hB3 : Below w.heap.size w w3 := hB2.trans (hb3.mono hB2.size)
    clear hb3
    generalize (sizeR a1 a2 a3 l4 x1).1 = x2 at *
    generalize (sizeR a1 a2 a3 l4 x1).2 = e2 at *
    have Z1 := Lib.hid HZ.out.1
    have Z2 := Lib.hid HZ.out.2
    clear HZ
    go_wp2_with (fail)
    have q := drain_calls A1 c1 x1 a1 a2 w3 hC1 hc1 hx1
    refine q.mono ?_
    clear q
    rintro e w4 ⟨A3, c3, rfl, hc3, hC3, hb4⟩
    replace hr0 := Kd.C_below hr0 hb4
    replace hr4 := Kd.C_below hr4 hb4
    replace hC1 := Kd.C_below hC1 hb4
    replace hC2 := Kd.C_below hC2 hb4
    have hB4 : Below w.heap.size w w4 := hB3.trans (hb4.mono hB3.size)
    clear hb4
    rw [D7.out]
    generalize (drainR a1 a2 x1).1 = x3 at *
    have z1 := Z1.out
    have d5 := D5.out
    clear Z1 D5
    obtain ⟨kk, rfl⟩ := Int.eq_ofNat_of_zero_le d2
    have hkk : kk < x2.length := by omega
    have hk2 : (kk : Int) < (x2.length : Int) := by omega
    have HN := Lib.hid (fun h => drains_gives (x := a5) Z2.out h)
    have z2 := Z2.out
    clear Z2
    rw [getP_nat x2 kk hkk] at z2
    obtain ⟨ad2, rfl, y0, y1, y2⟩ := at_pool hC2 kk hkk
    rw [z2] at y2
    clear D7 y0 y1 z2 z1 d3 d5
    go_wp2_with (fail)
    have q := of_calls (some ad2) c2 x2 a5 w4 hC2 hc2
    refine q.mono ?_
    clear q
    rintro e w5 ⟨rfl, hb5⟩
    replace hr0 := Kd.C_below hr0 hb5
    replace hr4 := Kd.C_below hr4 hb5
    replace hC1 := Kd.C_below hC1 hb5
    replace hC2 := Kd.C_below hC2 hb5
    replace hC3 := Kd.C_below hC3 hb5
    have hB5 : Below w.heap.size w w5 := hB4.trans (hb5.mono hB4.size)
    clear hb5
    by_cases ho : ofP x2 a5 = (kk : Int)
    · skip
      have HN2 := Lib.hid (HN.out ho)
      rw [ho]
      clear ho HN
      go_wp2_with (fail)
      have q := gives_calls (some ad2) c2 x2 a5 w5 hC2 hc2
      rw [HN2.out] at q
      refine q.mono ?_
      clear q
      rintro e w6 ⟨rfl, hb6⟩
      replace hr0 := Kd.C_below hr0 hb6
      replace hr4 := Kd.C_below hr4 hb6
      replace hC1 := Kd.C_below hC1 hb6
      replace hC2 := Kd.C_below hC2 hb6
      replace hC3 := Kd.C_below hC3 hb6
      have hB6 : Below w.heap.size w w6 := hB5.trans (hb6.mono hB5.size)
      clear hb6
      go_wp2_with (fail)
      have q := gone_calls A0 c0 l0 a1 kk A4 c4 l4 w6 hr0 hc0 (by omega) hr4 hc4
      refine q.mono ?_
      clear q
      rintro e w7 ⟨A4, c4, rfl, hc4, hC4, hb7⟩
      replace hr0 := Kd.C_below hr0 hb7
      replace hr4 := Kd.C_below hr4 hb7
      replace hC1 := Kd.C_below hC1 hb7
      replace hC2 := Kd.C_below hC2 hb7
      replace hC3 := Kd.C_below hC3 hb7
      have hB7 : Below w.heap.size w w7 := hB6.trans (hb7.mono hB6.size)
      clear hb7
      rw [D12.out]
      generalize (goneR a1 kk l4 l0).1 = x4 at *
      go_wp2_with (fail)
      go_ret
      exact ⟨rfl, hB7⟩
    · skip
      have hob : (ofP x2 a5 == (kk : Int)) = false := by simpa using ho
      clear ho HN
      generalize ofP x2 a5 = ox at *
      go_wp2_with (fail)
      have q := gone_calls A0 c0 l0 a1 kk A4 c4 l4 w5 hr0 hc0 (by omega) hr4 hc4
      refine q.mono ?_
      clear q
      rintro e w6 ⟨A4, c4, rfl, hc4, hC4, hb6⟩
      replace hr0 := Kd.C_below hr0 hb6
      replace hr4 := Kd.C_below hr4 hb6
      replace hC1 := Kd.C_below hC1 hb6
      replace hC2 := Kd.C_below hC2 hb6
      replace hC3 := Kd.C_below hC3 hb6
      have hB6 : Below w.heap.size w w6 := hB5.trans (hb6.mono hB5.size)
      clear hb6
      rw [D12.out]
      generalize (goneR a1 kk l4 l0).1 = x4 at *
      go_wp2_with (fail)
      go_ret
      exact ⟨rfl, hB6⟩
  · skip
    have hb0 : (e1 != 0) = true := by simpa using h1
    have hx := Lib.hid (HE.out h1)
    have H1 := Lib.hid h1
    clear h1
    go_wp2_with (fail)
    have q := same_calls A1 c1 x1 A0 c0 l0 true (decide_eq_true hx.out) w2 hC1 hc1 hr0 hc0 (by rw [hx.out]; omega)
    refine q.mono ?_
    clear q
    rintro e w3 ⟨rfl, hb3⟩
    replace hr0 := Kd.C_below hr0 hb3
    replace hr4 := Kd.C_below hr4 hb3
    replace hC1 := Kd.C_below hC1 hb3
    have hB3 : Below w.heap.size w w3 := hB2.trans (hb3.mono hB2.size)
    clear hb3
    clear hx
    go_wp2_with (fail)
    go_ret
    exact ⟨rfl, hB3⟩

theorem poolDrains_walk (a0 : Option Addr) (cap0 : Nat) (l0 : List Pl) (a1 : Int) (a2 : Int) (a3 : Int) (a4 : Option Addr) (len4 cap4 : Nat) (z4 : List Int) (a5 : Int) (w : World)
    (hR0 : Kd.C kP w a0 l0.length l0) (hc0 : l0.length ≤ cap0)
    (w1 : (Lit.int .i64 a1).wf = true)
    (w2 : (Lit.int .i64 a2).wf = true)
    (w3 : (Lit.int .i64 a3).wf = true)
    (w4 : (a4 = none ∧ len4 = 0 ∧ cap4 = 0 ∧ z4 = []) ∨ ∃ x, a4 = some x ∧ len4 ≤ cap4 ∧ cap4 ≤ maxLen ∧ z4.length = cap4 ∧ (∀ i, i < z4.length → w.cell? (x.add i) = some (.int .i64 (z4.getD i 0))) ∧ ∀ n ∈ z4, (Lit.int .i64 n).wf = true) (y4 : len4 * 8 ≤ 140737488351232)
    (w5 : (Lit.int .i64 a5).wf = true) :
    Calls Try.prog 9 #[.slice a0 l0.length cap0, .int .i64 a1, .int .i64 a2, .int .i64 a3, .slice a4 len4 cap4, .int .i64 a5] w fun e w' => e = .returned (.bool true) ∧ Below w.heap.size w w' := by
  obtain ⟨l4, rfl, hr4, hm4, hw4, hc4⟩ := ReadsInt.ofRowC w4
  have hR4 : Kd.C (Kd.int .i64) w a4 l4.length l4 := Kd.C_of_reads (d := (0 : Int)) (h1 := fun _ => rfl) hr4
  clear w4 hr4
  unfold maxLen at hm4
  by_cases g0 : l0.length ≤ 6
  · skip
    by_cases g1 : l4.length ≤ 40
    · skip
      exact poolDrains_calls a0 cap0 l0 a1 a2 a3 a4 cap4 l4 a5 w hR0 hc0 w1 w2 w3 hR4 hc4 w5 g0 g1
    · have k0 : ¬ ((6 : Int) < (l0.length : Int)) := by omega
      have k4 : (40 : Int) < (l4.length : Int) := by omega
      go_enter Try.func9, Try.ntmps9
      go_wp2_with (fail)
      refine (awake_true w).mono ?_
      rintro e w1 ⟨rfl, hb1⟩
      go_wp2_with (fail)
      go_ret
      exact ⟨rfl, hb1⟩
  · have k0 : (6 : Int) < (l0.length : Int) := by omega
    go_enter Try.func9, Try.ntmps9
    go_wp2_with (fail)
    refine (awake_true w).mono ?_
    rintro e w1 ⟨rfl, hb1⟩
    go_wp2_with (fail)
    go_ret
    exact ⟨rfl, hb1⟩

end Go.Proofs.Ytajofhjlkaenhaa.H
