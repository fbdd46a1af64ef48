import Derived.Test.YtajofhjlkaenhaaPoolM
import Derived.Deep.RegionHeld
import Derived.Deep.QuietTactic
import Derived.BigQuiet
import Derived.OpenShut
import Derived.Test.YtajofhjlkaenhaaPoolP
/-! The law PoolStays, walked. -/
namespace Go.Proofs.Ytajofhjlkaenhaa.H
open Go.RowKit Go.Proofs.YtajofhjlkaenhaaW.PrintWords Go.Proofs.YtajofhjlkaenhaaW.PrintLast Go.Proofs.YtajofhjlkaenhaaW.PrintMore
set_option linter.unusedVariables false
set_option linter.unusedSimpArgs false

set_option maxRecDepth 100000 in
set_option maxHeartbeats 8000000 in
theorem poolStays_calls (A0 : Option Addr) (c0 : Nat) (l0 : List Pl) (a1 : Int) (a2 : Int) (a3 : Int) (a4 : Int) (A5 : Option Addr) (c5 : Nat) (l5 : List Int) (w : World) (hr0 : Kd.C kP w A0 l0.length l0) (hc0 : l0.length ≤ c0) (hw1 : (Lit.int .i64 a1).wf = true) (hw2 : (Lit.int .i64 a2).wf = true) (hw3 : (Lit.int .i64 a3).wf = true) (hw4 : (Lit.int .i64 a4).wf = true) (hr5 : Kd.C (Kd.int .i64) w A5 l5.length l5) (hc5 : l5.length ≤ c5) (g0 : l0.length ≤ 6) (g1 : l5.length ≤ 40) :
    Calls Try.prog 7 #[.slice A0 l0.length c0, .int .i64 a1, .int .i64 a2, .int .i64 a3, .int .i64 a4, .slice A5 l5.length c5] w fun e w' => e = .returned (.bool true) ∧ Below w.heap.size w w' := by
  have k0 : ¬ ((6 : Int) < (l0.length : Int)) := by omega
  have k5 : ¬ ((40 : Int) < (l5.length : Int)) := by omega
  go_enter Try.func7, Try.ntmps7
  go_wp2_with (fail)
  refine (awake_true w).mono ?_
  rintro e w1 ⟨rfl, hb1⟩
  have hB1 : Below w.heap.size w w1 := hb1
  replace hr0 := Kd.C_below hr0 hb1
  replace hr5 := Kd.C_below hr5 hb1
  go_wp2_with (fail)
  have q := may_calls A0 c0 l0 a1 w1 hr0 hc0
  refine q.mono ?_
  clear q
  rintro e w2 ⟨rfl, hb2⟩
  replace hr0 := Kd.C_below hr0 hb2
  replace hr5 := Kd.C_below hr5 hb2
  have hB2 : Below w.heap.size w w2 := hB1.trans (hb2.mono hB1.size)
  clear hb2
  go_wp2_with (fail)
  have q := add_calls A0 c0 l0 a1 a3 a4 w2 hr0 hc0 (by omega)
  refine q.mono ?_
  clear q
  rintro e w3 ⟨A1, c1, rfl, hc1, hC1, hb3⟩
  replace hr0 := Kd.C_below hr0 hb3
  replace hr5 := Kd.C_below hr5 hb3
  have hB3 : Below w.heap.size w w3 := hB2.trans (hb3.mono hB2.size)
  clear hb3
  go_wp2_with (fail)
  have q := drain_calls A0 c0 l0 a1 a2 w3 hr0 hc0 (by omega)
  refine q.mono ?_
  clear q
  rintro e w4 ⟨A2, c2, rfl, hc2, hC2, hb4⟩
  replace hr0 := Kd.C_below hr0 hb4
  replace hr5 := Kd.C_below hr5 hb4
  replace hC1 := Kd.C_below hC1 hb4
  have hB4 : Below w.heap.size w w4 := hB3.trans (hb4.mono hB3.size)
  clear hb4
  go_wp2_with (fail)
  have q := size_calls A0 c0 l0 a1 a2 a4 A5 c5 l5 w4 hr0 hc0 (by omega) hr5 hc5
  refine q.mono ?_
  clear q
  rintro e w5 ⟨A3, c3, rfl, hc3, hC3, hb5⟩
  replace hr0 := Kd.C_below hr0 hb5
  replace hr5 := Kd.C_below hr5 hb5
  replace hC1 := Kd.C_below hC1 hb5
  replace hC2 := Kd.C_below hC2 hb5
  have hB5 : Below w.heap.size w w5 := hB4.trans (hb5.mono hB4.size)
  clear hb5
  go_wp2_with (fail)
  have q := gone_calls A0 c0 l0 a1 a2 A5 c5 l5 w5 hr0 hc0 (by omega) hr5 hc5
  refine q.mono ?_
  clear q
  rintro e w6 ⟨A4, c4, rfl, hc4, hC4, hb6⟩
  replace hr0 := Kd.C_below hr0 hb6
  replace hr5 := Kd.C_below hr5 hb6
  replace hC1 := Kd.C_below hC1 hb6
  replace hC2 := Kd.C_below hC2 hb6
  replace hC3 := Kd.C_below hC3 hb6
  have hB6 : Below w.heap.size w w6 := hB5.trans (hb6.mono hB5.size)
  clear hb6
  have he1 := addR_err (out := a1) (p := ⟨a3, a4, 0⟩) (l := l0)
  have hm1 := may_add a1 ⟨a3, a4, 0⟩ l0
  have he2 := drainR_err (out := a1) (k := a2) (l := l0)
  have hm2 := may_drain a1 a2 l0
  have he3 := sizeR_err (out := a1) (k := a2) (n := a4) (b := l5) (l := l0)
  have hm3 := may_size a1 a2 a4 l5 l0
  have he4 := goneR_err (out := a1) (k := a2) (b := l5) (l := l0)
  have hm4 := may_gone a1 a2 l5 l0
  have hn1 := add_no (out := a1) (p := ⟨a3, a4, 0⟩) (l := l0)
  have hn4 := gone_no (out := a1) (k := a2) (b := l5) (l := l0)
  generalize (addR a1 ⟨a3, a4, 0⟩ l0).1 = x1 at *
  generalize (addR a1 ⟨a3, a4, 0⟩ l0).2 = e1 at *
  generalize (drainR a1 a2 l0).1 = x2 at *
  generalize (drainR a1 a2 l0).2 = e2 at *
  generalize (sizeR a1 a2 a4 l5 l0).1 = x3 at *
  generalize (sizeR a1 a2 a4 l5 l0).2 = e3 at *
  generalize (goneR a1 a2 l5 l0).1 = x4 at *
  generalize (goneR a1 a2 l5 l0).2 = e4 at *
  generalize maysP l0 a1 = m at *
  have HM1 := Lib.hid hm1
  have HE1 := Lib.hid he1
  have HM2 := Lib.hid hm2
  have HE2 := Lib.hid he2
  have HM3 := Lib.hid hm3
  have HE3 := Lib.hid he3
  have HM4 := Lib.hid hm4
  have HE4 := Lib.hid he4
  have HN1 := Lib.hid hn1
  have HN4 := Lib.hid hn4
  clear hm1 hm2 hm3 hm4 he1 he2 he3 he4 hn1 hn4
  by_cases h1 : e1 = 0
  · have hb10 : (e1 != 0) = false := by simpa using h1
    have H1 := Lib.hid h1
    clear h1
    by_cases h2 : e2 = 0
    · have hb20 : (e2 != 0) = false := by simpa using h2
      have H2 := Lib.hid h2
      clear h2
      by_cases h3 : e3 = 0
      · have hb30 : (e3 != 0) = false := by simpa using h3
        have H3 := Lib.hid h3
        clear h3
        by_cases h4 : e4 = 0
        · have hb40 : (e4 != 0) = false := by simpa using h4
          have H4 := Lib.hid h4
          clear h4
          go_wp2_with (fail)
          have q := may_calls A1 c1 x1 a1 w6 hC1 hc1
          rw [HM1.out] at q
          refine q.mono ?_
          clear q
          rintro e w7 ⟨rfl, hb7⟩
          replace hr0 := Kd.C_below hr0 hb7
          replace hr5 := Kd.C_below hr5 hb7
          replace hC1 := Kd.C_below hC1 hb7
          replace hC2 := Kd.C_below hC2 hb7
          replace hC3 := Kd.C_below hC3 hb7
          replace hC4 := Kd.C_below hC4 hb7
          have hB7 : Below w.heap.size w w7 := hB6.trans (hb7.mono hB6.size)
          clear hb7
          go_wp2_with (fail)
          have q := may_calls A2 c2 x2 a1 w7 hC2 hc2
          rw [HM2.out] at q
          refine q.mono ?_
          clear q
          rintro e w8 ⟨rfl, hb8⟩
          replace hr0 := Kd.C_below hr0 hb8
          replace hr5 := Kd.C_below hr5 hb8
          replace hC1 := Kd.C_below hC1 hb8
          replace hC2 := Kd.C_below hC2 hb8
          replace hC3 := Kd.C_below hC3 hb8
          replace hC4 := Kd.C_below hC4 hb8
          have hB8 : Below w.heap.size w w8 := hB7.trans (hb8.mono hB7.size)
          clear hb8
          go_wp2_with (fail)
          have q := may_calls A3 c3 x3 a1 w8 hC3 hc3
          rw [HM3.out] at q
          refine q.mono ?_
          clear q
          rintro e w9 ⟨rfl, hb9⟩
          replace hr0 := Kd.C_below hr0 hb9
          replace hr5 := Kd.C_below hr5 hb9
          replace hC1 := Kd.C_below hC1 hb9
          replace hC2 := Kd.C_below hC2 hb9
          replace hC3 := Kd.C_below hC3 hb9
          replace hC4 := Kd.C_below hC4 hb9
          have hB9 : Below w.heap.size w w9 := hB8.trans (hb9.mono hB8.size)
          clear hb9
          go_wp2_with (fail)
          have q := may_calls A4 c4 x4 a1 w9 hC4 hc4
          rw [HM4.out] at q
          refine q.mono ?_
          clear q
          rintro e w10 ⟨rfl, hb10⟩
          replace hr0 := Kd.C_below hr0 hb10
          replace hr5 := Kd.C_below hr5 hb10
          replace hC1 := Kd.C_below hC1 hb10
          replace hC2 := Kd.C_below hC2 hb10
          replace hC3 := Kd.C_below hC3 hb10
          replace hC4 := Kd.C_below hC4 hb10
          have hB10 : Below w.heap.size w w10 := hB9.trans (hb10.mono hB9.size)
          clear hb10
          cases m with
          | true =>
            go_wp2_with (fail)
            go_ret
            exact ⟨rfl, hB10⟩
          | false =>
            have hn1 := HN1.out rfl
            have hn4 := HN4.out rfl
            subst hn1 hn4
            go_wp2_with (fail)
            go_ret
            exact ⟨rfl, hB10⟩
        · have hb40 : (e4 != 0) = true := by simpa using h4
          go_wp2_with (fail)
          have q := same_calls A4 c4 x4 A0 c0 l0 true (decide_eq_true (HE4.out h4)) w6 hC4 hc4 hr0 hc0 (by rw [HE4.out h4]; omega)
          refine q.mono ?_
          clear q
          rintro e w7 ⟨rfl, hb7⟩
          replace hr0 := Kd.C_below hr0 hb7
          replace hr5 := Kd.C_below hr5 hb7
          replace hC1 := Kd.C_below hC1 hb7
          replace hC2 := Kd.C_below hC2 hb7
          replace hC3 := Kd.C_below hC3 hb7
          replace hC4 := Kd.C_below hC4 hb7
          have hB7 : Below w.heap.size w w7 := hB6.trans (hb7.mono hB6.size)
          clear hb7
          have H4 := Lib.hid h4
          clear h4
          go_wp2_with (fail)
          have q := may_calls A1 c1 x1 a1 w7 hC1 hc1
          rw [HM1.out] at q
          refine q.mono ?_
          clear q
          rintro e w8 ⟨rfl, hb8⟩
          replace hr0 := Kd.C_below hr0 hb8
          replace hr5 := Kd.C_below hr5 hb8
          replace hC1 := Kd.C_below hC1 hb8
          replace hC2 := Kd.C_below hC2 hb8
          replace hC3 := Kd.C_below hC3 hb8
          replace hC4 := Kd.C_below hC4 hb8
          have hB8 : Below w.heap.size w w8 := hB7.trans (hb8.mono hB7.size)
          clear hb8
          go_wp2_with (fail)
          have q := may_calls A2 c2 x2 a1 w8 hC2 hc2
          rw [HM2.out] at q
          refine q.mono ?_
          clear q
          rintro e w9 ⟨rfl, hb9⟩
          replace hr0 := Kd.C_below hr0 hb9
          replace hr5 := Kd.C_below hr5 hb9
          replace hC1 := Kd.C_below hC1 hb9
          replace hC2 := Kd.C_below hC2 hb9
          replace hC3 := Kd.C_below hC3 hb9
          replace hC4 := Kd.C_below hC4 hb9
          have hB9 : Below w.heap.size w w9 := hB8.trans (hb9.mono hB8.size)
          clear hb9
          go_wp2_with (fail)
          have q := may_calls A3 c3 x3 a1 w9 hC3 hc3
          rw [HM3.out] at q
          refine q.mono ?_
          clear q
          rintro e w10 ⟨rfl, hb10⟩
          replace hr0 := Kd.C_below hr0 hb10
          replace hr5 := Kd.C_below hr5 hb10
          replace hC1 := Kd.C_below hC1 hb10
          replace hC2 := Kd.C_below hC2 hb10
          replace hC3 := Kd.C_below hC3 hb10
          replace hC4 := Kd.C_below hC4 hb10
          have hB10 : Below w.heap.size w w10 := hB9.trans (hb10.mono hB9.size)
          clear hb10
          go_wp2_with (fail)
          have q := may_calls A4 c4 x4 a1 w10 hC4 hc4
          rw [HM4.out] at q
          refine q.mono ?_
          clear q
          rintro e w11 ⟨rfl, hb11⟩
          replace hr0 := Kd.C_below hr0 hb11
          replace hr5 := Kd.C_below hr5 hb11
          replace hC1 := Kd.C_below hC1 hb11
          replace hC2 := Kd.C_below hC2 hb11
          replace hC3 := Kd.C_below hC3 hb11
          replace hC4 := Kd.C_below hC4 hb11
          have hB11 : Below w.heap.size w w11 := hB10.trans (hb11.mono hB10.size)
          clear hb11
          cases m with
          | true =>
            go_wp2_with (fail)
            go_ret
            exact ⟨rfl, hB11⟩
          | false =>
            have hn1 := HN1.out rfl
            have hn4 := HN4.out rfl
            subst hn1 hn4
            go_wp2_with (fail)
            go_ret
            exact ⟨rfl, hB11⟩
      · have hb30 : (e3 != 0) = true := by simpa using h3
        go_wp2_with (fail)
        have q := same_calls A3 c3 x3 A0 c0 l0 true (decide_eq_true (HE3.out h3)) w6 hC3 hc3 hr0 hc0 (by rw [HE3.out h3]; omega)
        refine q.mono ?_
        clear q
        rintro e w7 ⟨rfl, hb7⟩
        replace hr0 := Kd.C_below hr0 hb7
        replace hr5 := Kd.C_below hr5 hb7
        replace hC1 := Kd.C_below hC1 hb7
        replace hC2 := Kd.C_below hC2 hb7
        replace hC3 := Kd.C_below hC3 hb7
        replace hC4 := Kd.C_below hC4 hb7
        have hB7 : Below w.heap.size w w7 := hB6.trans (hb7.mono hB6.size)
        clear hb7
        have H3 := Lib.hid h3
        clear h3
        by_cases h4 : e4 = 0
        · have hb40 : (e4 != 0) = false := by simpa using h4
          have H4 := Lib.hid h4
          clear h4
          go_wp2_with (fail)
          have q := may_calls A1 c1 x1 a1 w7 hC1 hc1
          rw [HM1.out] at q
          refine q.mono ?_
          clear q
          rintro e w8 ⟨rfl, hb8⟩
          replace hr0 := Kd.C_below hr0 hb8
          replace hr5 := Kd.C_below hr5 hb8
          replace hC1 := Kd.C_below hC1 hb8
          replace hC2 := Kd.C_below hC2 hb8
          replace hC3 := Kd.C_below hC3 hb8
          replace hC4 := Kd.C_below hC4 hb8
          have hB8 : Below w.heap.size w w8 := hB7.trans (hb8.mono hB7.size)
          clear hb8
          go_wp2_with (fail)
          have q := may_calls A2 c2 x2 a1 w8 hC2 hc2
          rw [HM2.out] at q
          refine q.mono ?_
          clear q
          rintro e w9 ⟨rfl, hb9⟩
          replace hr0 := Kd.C_below hr0 hb9
          replace hr5 := Kd.C_below hr5 hb9
          replace hC1 := Kd.C_below hC1 hb9
          replace hC2 := Kd.C_below hC2 hb9
          replace hC3 := Kd.C_below hC3 hb9
          replace hC4 := Kd.C_below hC4 hb9
          have hB9 : Below w.heap.size w w9 := hB8.trans (hb9.mono hB8.size)
          clear hb9
          go_wp2_with (fail)
          have q := may_calls A3 c3 x3 a1 w9 hC3 hc3
          rw [HM3.out] at q
          refine q.mono ?_
          clear q
          rintro e w10 ⟨rfl, hb10⟩
          replace hr0 := Kd.C_below hr0 hb10
          replace hr5 := Kd.C_below hr5 hb10
          replace hC1 := Kd.C_below hC1 hb10
          replace hC2 := Kd.C_below hC2 hb10
          replace hC3 := Kd.C_below hC3 hb10
          replace hC4 := Kd.C_below hC4 hb10
          have hB10 : Below w.heap.size w w10 := hB9.trans (hb10.mono hB9.size)
          clear hb10
          go_wp2_with (fail)
          have q := may_calls A4 c4 x4 a1 w10 hC4 hc4
          rw [HM4.out] at q
          refine q.mono ?_
          clear q
          rintro e w11 ⟨rfl, hb11⟩
          replace hr0 := Kd.C_below hr0 hb11
          replace hr5 := Kd.C_below hr5 hb11
          replace hC1 := Kd.C_below hC1 hb11
          replace hC2 := Kd.C_below hC2 hb11
          replace hC3 := Kd.C_below hC3 hb11
          replace hC4 := Kd.C_below hC4 hb11
          have hB11 : Below w.heap.size w w11 := hB10.trans (hb11.mono hB10.size)
          clear hb11
          cases m with
          | true =>
            go_wp2_with (fail)
            go_ret
            exact ⟨rfl, hB11⟩
          | false =>
            have hn1 := HN1.out rfl
            have hn4 := HN4.out rfl
            subst hn1 hn4
            go_wp2_with (fail)
            go_ret
            exact ⟨rfl, hB11⟩
        · have hb40 : (e4 != 0) = true := by simpa using h4
          go_wp2_with (fail)
          have q := same_calls A4 c4 x4 A0 c0 l0 true (decide_eq_true (HE4.out h4)) w7 hC4 hc4 hr0 hc0 (by rw [HE4.out h4]; omega)
          refine q.mono ?_
          clear q
          rintro e w8 ⟨rfl, hb8⟩
          replace hr0 := Kd.C_below hr0 hb8
          replace hr5 := Kd.C_below hr5 hb8
          replace hC1 := Kd.C_below hC1 hb8
          replace hC2 := Kd.C_below hC2 hb8
          replace hC3 := Kd.C_below hC3 hb8
          replace hC4 := Kd.C_below hC4 hb8
          have hB8 : Below w.heap.size w w8 := hB7.trans (hb8.mono hB7.size)
          clear hb8
          have H4 := Lib.hid h4
          clear h4
          go_wp2_with (fail)
          have q := may_calls A1 c1 x1 a1 w8 hC1 hc1
          rw [HM1.out] at q
          refine q.mono ?_
          clear q
          rintro e w9 ⟨rfl, hb9⟩
          replace hr0 := Kd.C_below hr0 hb9
          replace hr5 := Kd.C_below hr5 hb9
          replace hC1 := Kd.C_below hC1 hb9
          replace hC2 := Kd.C_below hC2 hb9
          replace hC3 := Kd.C_below hC3 hb9
          replace hC4 := Kd.C_below hC4 hb9
          have hB9 : Below w.heap.size w w9 := hB8.trans (hb9.mono hB8.size)
          clear hb9
          go_wp2_with (fail)
          have q := may_calls A2 c2 x2 a1 w9 hC2 hc2
          rw [HM2.out] at q
          refine q.mono ?_
          clear q
          rintro e w10 ⟨rfl, hb10⟩
          replace hr0 := Kd.C_below hr0 hb10
          replace hr5 := Kd.C_below hr5 hb10
          replace hC1 := Kd.C_below hC1 hb10
          replace hC2 := Kd.C_below hC2 hb10
          replace hC3 := Kd.C_below hC3 hb10
          replace hC4 := Kd.C_below hC4 hb10
          have hB10 : Below w.heap.size w w10 := hB9.trans (hb10.mono hB9.size)
          clear hb10
          go_wp2_with (fail)
          have q := may_calls A3 c3 x3 a1 w10 hC3 hc3
          rw [HM3.out] at q
          refine q.mono ?_
          clear q
          rintro e w11 ⟨rfl, hb11⟩
          replace hr0 := Kd.C_below hr0 hb11
          replace hr5 := Kd.C_below hr5 hb11
          replace hC1 := Kd.C_below hC1 hb11
          replace hC2 := Kd.C_below hC2 hb11
          replace hC3 := Kd.C_below hC3 hb11
          replace hC4 := Kd.C_below hC4 hb11
          have hB11 : Below w.heap.size w w11 := hB10.trans (hb11.mono hB10.size)
          clear hb11
          go_wp2_with (fail)
          have q := may_calls A4 c4 x4 a1 w11 hC4 hc4
          rw [HM4.out] at q
          refine q.mono ?_
          clear q
          rintro e w12 ⟨rfl, hb12⟩
          replace hr0 := Kd.C_below hr0 hb12
          replace hr5 := Kd.C_below hr5 hb12
          replace hC1 := Kd.C_below hC1 hb12
          replace hC2 := Kd.C_below hC2 hb12
          replace hC3 := Kd.C_below hC3 hb12
          replace hC4 := Kd.C_below hC4 hb12
          have hB12 : Below w.heap.size w w12 := hB11.trans (hb12.mono hB11.size)
          clear hb12
          cases m with
          | true =>
            go_wp2_with (fail)
            go_ret
            exact ⟨rfl, hB12⟩
          | false =>
            have hn1 := HN1.out rfl
            have hn4 := HN4.out rfl
            subst hn1 hn4
            go_wp2_with (fail)
            go_ret
            exact ⟨rfl, hB12⟩
    · have hb20 : (e2 != 0) = true := by simpa using h2
      go_wp2_with (fail)
      have q := same_calls A2 c2 x2 A0 c0 l0 true (decide_eq_true (HE2.out h2)) w6 hC2 hc2 hr0 hc0 (by rw [HE2.out h2]; omega)
      refine q.mono ?_
      clear q
      rintro e w7 ⟨rfl, hb7⟩
      replace hr0 := Kd.C_below hr0 hb7
      replace hr5 := Kd.C_below hr5 hb7
      replace hC1 := Kd.C_below hC1 hb7
      replace hC2 := Kd.C_below hC2 hb7
      replace hC3 := Kd.C_below hC3 hb7
      replace hC4 := Kd.C_below hC4 hb7
      have hB7 : Below w.heap.size w w7 := hB6.trans (hb7.mono hB6.size)
      clear hb7
      have H2 := Lib.hid h2
      clear h2
      by_cases h3 : e3 = 0
      · have hb30 : (e3 != 0) = false := by simpa using h3
        have H3 := Lib.hid h3
        clear h3
        by_cases h4 : e4 = 0
        · have hb40 : (e4 != 0) = false := by simpa using h4
          have H4 := Lib.hid h4
          clear h4
          go_wp2_with (fail)
          have q := may_calls A1 c1 x1 a1 w7 hC1 hc1
          rw [HM1.out] at q
          refine q.mono ?_
          clear q
          rintro e w8 ⟨rfl, hb8⟩
          replace hr0 := Kd.C_below hr0 hb8
          replace hr5 := Kd.C_below hr5 hb8
          replace hC1 := Kd.C_below hC1 hb8
          replace hC2 := Kd.C_below hC2 hb8
          replace hC3 := Kd.C_below hC3 hb8
          replace hC4 := Kd.C_below hC4 hb8
          have hB8 : Below w.heap.size w w8 := hB7.trans (hb8.mono hB7.size)
          clear hb8
          go_wp2_with (fail)
          have q := may_calls A2 c2 x2 a1 w8 hC2 hc2
          rw [HM2.out] at q
          refine q.mono ?_
          clear q
          rintro e w9 ⟨rfl, hb9⟩
          replace hr0 := Kd.C_below hr0 hb9
          replace hr5 := Kd.C_below hr5 hb9
          replace hC1 := Kd.C_below hC1 hb9
          replace hC2 := Kd.C_below hC2 hb9
          replace hC3 := Kd.C_below hC3 hb9
          replace hC4 := Kd.C_below hC4 hb9
          have hB9 : Below w.heap.size w w9 := hB8.trans (hb9.mono hB8.size)
          clear hb9
          go_wp2_with (fail)
          have q := may_calls A3 c3 x3 a1 w9 hC3 hc3
          rw [HM3.out] at q
          refine q.mono ?_
          clear q
          rintro e w10 ⟨rfl, hb10⟩
          replace hr0 := Kd.C_below hr0 hb10
          replace hr5 := Kd.C_below hr5 hb10
          replace hC1 := Kd.C_below hC1 hb10
          replace hC2 := Kd.C_below hC2 hb10
          replace hC3 := Kd.C_below hC3 hb10
          replace hC4 := Kd.C_below hC4 hb10
          have hB10 : Below w.heap.size w w10 := hB9.trans (hb10.mono hB9.size)
          clear hb10
          go_wp2_with (fail)
          have q := may_calls A4 c4 x4 a1 w10 hC4 hc4
          rw [HM4.out] at q
          refine q.mono ?_
          clear q
          rintro e w11 ⟨rfl, hb11⟩
          replace hr0 := Kd.C_below hr0 hb11
          replace hr5 := Kd.C_below hr5 hb11
          replace hC1 := Kd.C_below hC1 hb11
          replace hC2 := Kd.C_below hC2 hb11
          replace hC3 := Kd.C_below hC3 hb11
          replace hC4 := Kd.C_below hC4 hb11
          have hB11 : Below w.heap.size w w11 := hB10.trans (hb11.mono hB10.size)
          clear hb11
          cases m with
          | true =>
            go_wp2_with (fail)
            go_ret
            exact ⟨rfl, hB11⟩
          | false =>
            have hn1 := HN1.out rfl
            have hn4 := HN4.out rfl
            subst hn1 hn4
            go_wp2_with (fail)
            go_ret
            exact ⟨rfl, hB11⟩
        · have hb40 : (e4 != 0) = true := by simpa using h4
          go_wp2_with (fail)
          have q := same_calls A4 c4 x4 A0 c0 l0 true (decide_eq_true (HE4.out h4)) w7 hC4 hc4 hr0 hc0 (by rw [HE4.out h4]; omega)
          refine q.mono ?_
          clear q
          rintro e w8 ⟨rfl, hb8⟩
          replace hr0 := Kd.C_below hr0 hb8
          replace hr5 := Kd.C_below hr5 hb8
          replace hC1 := Kd.C_below hC1 hb8
          replace hC2 := Kd.C_below hC2 hb8
          replace hC3 := Kd.C_below hC3 hb8
          replace hC4 := Kd.C_below hC4 hb8
          have hB8 : Below w.heap.size w w8 := hB7.trans (hb8.mono hB7.size)
          clear hb8
          have H4 := Lib.hid h4
          clear h4
          go_wp2_with (fail)
          have q := may_calls A1 c1 x1 a1 w8 hC1 hc1
          rw [HM1.out] at q
          refine q.mono ?_
          clear q
          rintro e w9 ⟨rfl, hb9⟩
          replace hr0 := Kd.C_below hr0 hb9
          replace hr5 := Kd.C_below hr5 hb9
          replace hC1 := Kd.C_below hC1 hb9
          replace hC2 := Kd.C_below hC2 hb9
          replace hC3 := Kd.C_below hC3 hb9
          replace hC4 := Kd.C_below hC4 hb9
          have hB9 : Below w.heap.size w w9 := hB8.trans (hb9.mono hB8.size)
          clear hb9
          go_wp2_with (fail)
          have q := may_calls A2 c2 x2 a1 w9 hC2 hc2
          rw [HM2.out] at q
          refine q.mono ?_
          clear q
          rintro e w10 ⟨rfl, hb10⟩
          replace hr0 := Kd.C_below hr0 hb10
          replace hr5 := Kd.C_below hr5 hb10
          replace hC1 := Kd.C_below hC1 hb10
          replace hC2 := Kd.C_below hC2 hb10
          replace hC3 := Kd.C_below hC3 hb10
          replace hC4 := Kd.C_below hC4 hb10
          have hB10 : Below w.heap.size w w10 := hB9.trans (hb10.mono hB9.size)
          clear hb10
          go_wp2_with (fail)
          have q := may_calls A3 c3 x3 a1 w10 hC3 hc3
          rw [HM3.out] at q
          refine q.mono ?_
          clear q
          rintro e w11 ⟨rfl, hb11⟩
          replace hr0 := Kd.C_below hr0 hb11
          replace hr5 := Kd.C_below hr5 hb11
          replace hC1 := Kd.C_below hC1 hb11
          replace hC2 := Kd.C_below hC2 hb11
          replace hC3 := Kd.C_below hC3 hb11
          replace hC4 := Kd.C_below hC4 hb11
          have hB11 : Below w.heap.size w w11 := hB10.trans (hb11.mono hB10.size)
          clear hb11
          go_wp2_with (fail)
          have q := may_calls A4 c4 x4 a1 w11 hC4 hc4
          rw [HM4.out] at q
          refine q.mono ?_
          clear q
          rintro e w12 ⟨rfl, hb12⟩
          replace hr0 := Kd.C_below hr0 hb12
          replace hr5 := Kd.C_below hr5 hb12
          replace hC1 := Kd.C_below hC1 hb12
          replace hC2 := Kd.C_below hC2 hb12
          replace hC3 := Kd.C_below hC3 hb12
          replace hC4 := Kd.C_below hC4 hb12
          have hB12 : Below w.heap.size w w12 := hB11.trans (hb12.mono hB11.size)
          clear hb12
          cases m with
          | true =>
            go_wp2_with (fail)
            go_ret
            exact ⟨rfl, hB12⟩
          | false =>
            have hn1 := HN1.out rfl
            have hn4 := HN4.out rfl
            subst hn1 hn4
            go_wp2_with (fail)
            go_ret
            exact ⟨rfl, hB12⟩
      · have hb30 : (e3 != 0) = true := by simpa using h3
        go_wp2_with (fail)
        have q := same_calls A3 c3 x3 A0 c0 l0 true (decide_eq_true (HE3.out h3)) w7 hC3 hc3 hr0 hc0 (by rw [HE3.out h3]; omega)
        refine q.mono ?_
        clear q
        rintro e w8 ⟨rfl, hb8⟩
        replace hr0 := Kd.C_below hr0 hb8
        replace hr5 := Kd.C_below hr5 hb8
        replace hC1 := Kd.C_below hC1 hb8
        replace hC2 := Kd.C_below hC2 hb8
        replace hC3 := Kd.C_below hC3 hb8
        replace hC4 := Kd.C_below hC4 hb8
        have hB8 : Below w.heap.size w w8 := hB7.trans (hb8.mono hB7.size)
        clear hb8
        have H3 := Lib.hid h3
        clear h3
        by_cases h4 : e4 = 0
        · have hb40 : (e4 != 0) = false := by simpa using h4
          have H4 := Lib.hid h4
          clear h4
          go_wp2_with (fail)
          have q := may_calls A1 c1 x1 a1 w8 hC1 hc1
          rw [HM1.out] at q
          refine q.mono ?_
          clear q
          rintro e w9 ⟨rfl, hb9⟩
          replace hr0 := Kd.C_below hr0 hb9
          replace hr5 := Kd.C_below hr5 hb9
          replace hC1 := Kd.C_below hC1 hb9
          replace hC2 := Kd.C_below hC2 hb9
          replace hC3 := Kd.C_below hC3 hb9
          replace hC4 := Kd.C_below hC4 hb9
          have hB9 : Below w.heap.size w w9 := hB8.trans (hb9.mono hB8.size)
          clear hb9
          go_wp2_with (fail)
          have q := may_calls A2 c2 x2 a1 w9 hC2 hc2
          rw [HM2.out] at q
          refine q.mono ?_
          clear q
          rintro e w10 ⟨rfl, hb10⟩
          replace hr0 := Kd.C_below hr0 hb10
          replace hr5 := Kd.C_below hr5 hb10
          replace hC1 := Kd.C_below hC1 hb10
          replace hC2 := Kd.C_below hC2 hb10
          replace hC3 := Kd.C_below hC3 hb10
          replace hC4 := Kd.C_below hC4 hb10
          have hB10 : Below w.heap.size w w10 := hB9.trans (hb10.mono hB9.size)
          clear hb10
          go_wp2_with (fail)
          have q := may_calls A3 c3 x3 a1 w10 hC3 hc3
          rw [HM3.out] at q
          refine q.mono ?_
          clear q
          rintro e w11 ⟨rfl, hb11⟩
          replace hr0 := Kd.C_below hr0 hb11
          replace hr5 := Kd.C_below hr5 hb11
          replace hC1 := Kd.C_below hC1 hb11
          replace hC2 := Kd.C_below hC2 hb11
          replace hC3 := Kd.C_below hC3 hb11
          replace hC4 := Kd.C_below hC4 hb11
          have hB11 : Below w.heap.size w w11 := hB10.trans (hb11.mono hB10.size)
          clear hb11
          go_wp2_with (fail)
          have q := may_calls A4 c4 x4 a1 w11 hC4 hc4
          rw [HM4.out] at q
          refine q.mono ?_
          clear q
          rintro e w12 ⟨rfl, hb12⟩
          replace hr0 := Kd.C_below hr0 hb12
          replace hr5 := Kd.C_below hr5 hb12
          replace hC1 := Kd.C_below hC1 hb12
          replace hC2 := Kd.C_below hC2 hb12
          replace hC3 := Kd.C_below hC3 hb12
          replace hC4 := Kd.C_below hC4 hb12
          have hB12 : Below w.heap.size w w12 := hB11.trans (hb12.mono hB11.size)
          clear hb12
          cases m with
          | true =>
            go_wp2_with (fail)
            go_ret
            exact ⟨rfl, hB12⟩
          | false =>
            have hn1 := HN1.out rfl
            have hn4 := HN4.out rfl
            subst hn1 hn4
            go_wp2_with (fail)
            go_ret
            exact ⟨rfl, hB12⟩
        · have hb40 : (e4 != 0) = true := by simpa using h4
          go_wp2_with (fail)
          have q := same_calls A4 c4 x4 A0 c0 l0 true (decide_eq_true (HE4.out h4)) w8 hC4 hc4 hr0 hc0 (by rw [HE4.out h4]; omega)
          refine q.mono ?_
          clear q
          rintro e w9 ⟨rfl, hb9⟩
          replace hr0 := Kd.C_below hr0 hb9
          replace hr5 := Kd.C_below hr5 hb9
          replace hC1 := Kd.C_below hC1 hb9
          replace hC2 := Kd.C_below hC2 hb9
          replace hC3 := Kd.C_below hC3 hb9
          replace hC4 := Kd.C_below hC4 hb9
          have hB9 : Below w.heap.size w w9 := hB8.trans (hb9.mono hB8.size)
          clear hb9
          have H4 := Lib.hid h4
          clear h4
          go_wp2_with (fail)
          have q := may_calls A1 c1 x1 a1 w9 hC1 hc1
          rw [HM1.out] at q
          refine q.mono ?_
          clear q
          rintro e w10 ⟨rfl, hb10⟩
          replace hr0 := Kd.C_below hr0 hb10
          replace hr5 := Kd.C_below hr5 hb10
          replace hC1 := Kd.C_below hC1 hb10
          replace hC2 := Kd.C_below hC2 hb10
          replace hC3 := Kd.C_below hC3 hb10
          replace hC4 := Kd.C_below hC4 hb10
          have hB10 : Below w.heap.size w w10 := hB9.trans (hb10.mono hB9.size)
          clear hb10
          go_wp2_with (fail)
          have q := may_calls A2 c2 x2 a1 w10 hC2 hc2
          rw [HM2.out] at q
          refine q.mono ?_
          clear q
          rintro e w11 ⟨rfl, hb11⟩
          replace hr0 := Kd.C_below hr0 hb11
          replace hr5 := Kd.C_below hr5 hb11
          replace hC1 := Kd.C_below hC1 hb11
          replace hC2 := Kd.C_below hC2 hb11
          replace hC3 := Kd.C_below hC3 hb11
          replace hC4 := Kd.C_below hC4 hb11
          have hB11 : Below w.heap.size w w11 := hB10.trans (hb11.mono hB10.size)
          clear hb11
          go_wp2_with (fail)
          have q := may_calls A3 c3 x3 a1 w11 hC3 hc3
          rw [HM3.out] at q
          refine q.mono ?_
          clear q
          rintro e w12 ⟨rfl, hb12⟩
          replace hr0 := Kd.C_below hr0 hb12
          replace hr5 := Kd.C_below hr5 hb12
          replace hC1 := Kd.C_below hC1 hb12
          replace hC2 := Kd.C_below hC2 hb12
          replace hC3 := Kd.C_below hC3 hb12
          replace hC4 := Kd.C_below hC4 hb12
          have hB12 : Below w.heap.size w w12 := hB11.trans (hb12.mono hB11.size)
          clear hb12
          go_wp2_with (fail)
          have q := may_calls A4 c4 x4 a1 w12 hC4 hc4
          rw [HM4.out] at q
          refine q.mono ?_
          clear q
          rintro e w13 ⟨rfl, hb13⟩
          replace hr0 := Kd.C_below hr0 hb13
          replace hr5 := Kd.C_below hr5 hb13
          replace hC1 := Kd.C_below hC1 hb13
          replace hC2 := Kd.C_below hC2 hb13
          replace hC3 := Kd.C_below hC3 hb13
          replace hC4 := Kd.C_below hC4 hb13
          have hB13 : Below w.heap.size w w13 := hB12.trans (hb13.mono hB12.size)
          clear hb13
          cases m with
          | true =>
            go_wp2_with (fail)
            go_ret
            exact ⟨rfl, hB13⟩
          | false =>
            have hn1 := HN1.out rfl
            have hn4 := HN4.out rfl
            subst hn1 hn4
            go_wp2_with (fail)
            go_ret
            exact ⟨rfl, hB13⟩
  · have hb10 : (e1 != 0) = true := by simpa using h1
    go_wp2_with (fail)
    have q := same_calls A1 c1 x1 A0 c0 l0 true (decide_eq_true (HE1.out h1)) w6 hC1 hc1 hr0 hc0 (by rw [HE1.out h1]; omega)
    refine q.mono ?_
    clear q
    rintro e w7 ⟨rfl, hb7⟩
    replace hr0 := Kd.C_below hr0 hb7
    replace hr5 := Kd.C_below hr5 hb7
    replace hC1 := Kd.C_below hC1 hb7
    replace hC2 := Kd.C_below hC2 hb7
    replace hC3 := Kd.C_below hC3 hb7
    replace hC4 := Kd.C_below hC4 hb7
    have hB7 : Below w.heap.size w w7 := hB6.trans (hb7.mono hB6.size)
    clear hb7
    have H1 := Lib.hid h1
    clear h1
    by_cases h2 : e2 = 0
    · have hb20 : (e2 != 0) = false := by simpa using h2
      have H2 := Lib.hid h2
      clear h2
      by_cases h3 : e3 = 0
      · have hb30 : (e3 != 0) = false := by simpa using h3
        have H3 := Lib.hid h3
        clear h3
        by_cases h4 : e4 = 0
        · have hb40 : (e4 != 0) = false := by simpa using h4
          have H4 := Lib.hid h4
          clear h4
          go_wp2_with (fail)
          have q := may_calls A1 c1 x1 a1 w7 hC1 hc1
          rw [HM1.out] at q
          refine q.mono ?_
          clear q
          rintro e w8 ⟨rfl, hb8⟩
          replace hr0 := Kd.C_below hr0 hb8
          replace hr5 := Kd.C_below hr5 hb8
          replace hC1 := Kd.C_below hC1 hb8
          replace hC2 := Kd.C_below hC2 hb8
          replace hC3 := Kd.C_below hC3 hb8
          replace hC4 := Kd.C_below hC4 hb8
          have hB8 : Below w.heap.size w w8 := hB7.trans (hb8.mono hB7.size)
          clear hb8
          go_wp2_with (fail)
          have q := may_calls A2 c2 x2 a1 w8 hC2 hc2
          rw [HM2.out] at q
          refine q.mono ?_
          clear q
          rintro e w9 ⟨rfl, hb9⟩
          replace hr0 := Kd.C_below hr0 hb9
          replace hr5 := Kd.C_below hr5 hb9
          replace hC1 := Kd.C_below hC1 hb9
          replace hC2 := Kd.C_below hC2 hb9
          replace hC3 := Kd.C_below hC3 hb9
          replace hC4 := Kd.C_below hC4 hb9
          have hB9 : Below w.heap.size w w9 := hB8.trans (hb9.mono hB8.size)
          clear hb9
          go_wp2_with (fail)
          have q := may_calls A3 c3 x3 a1 w9 hC3 hc3
          rw [HM3.out] at q
          refine q.mono ?_
          clear q
          rintro e w10 ⟨rfl, hb10⟩
          replace hr0 := Kd.C_below hr0 hb10
          replace hr5 := Kd.C_below hr5 hb10
          replace hC1 := Kd.C_below hC1 hb10
          replace hC2 := Kd.C_below hC2 hb10
          replace hC3 := Kd.C_below hC3 hb10
          replace hC4 := Kd.C_below hC4 hb10
          have hB10 : Below w.heap.size w w10 := hB9.trans (hb10.mono hB9.size)
          clear hb10
          go_wp2_with (fail)
          have q := may_calls A4 c4 x4 a1 w10 hC4 hc4
          rw [HM4.out] at q
          refine q.mono ?_
          clear q
          rintro e w11 ⟨rfl, hb11⟩
          replace hr0 := Kd.C_below hr0 hb11
          replace hr5 := Kd.C_below hr5 hb11
          replace hC1 := Kd.C_below hC1 hb11
          replace hC2 := Kd.C_below hC2 hb11
          replace hC3 := Kd.C_below hC3 hb11
          replace hC4 := Kd.C_below hC4 hb11
          have hB11 : Below w.heap.size w w11 := hB10.trans (hb11.mono hB10.size)
          clear hb11
          cases m with
          | true =>
            go_wp2_with (fail)
            go_ret
            exact ⟨rfl, hB11⟩
          | false =>
            have hn1 := HN1.out rfl
            have hn4 := HN4.out rfl
            subst hn1 hn4
            go_wp2_with (fail)
            go_ret
            exact ⟨rfl, hB11⟩
        · have hb40 : (e4 != 0) = true := by simpa using h4
          go_wp2_with (fail)
          have q := same_calls A4 c4 x4 A0 c0 l0 true (decide_eq_true (HE4.out h4)) w7 hC4 hc4 hr0 hc0 (by rw [HE4.out h4]; omega)
          refine q.mono ?_
          clear q
          rintro e w8 ⟨rfl, hb8⟩
          replace hr0 := Kd.C_below hr0 hb8
          replace hr5 := Kd.C_below hr5 hb8
          replace hC1 := Kd.C_below hC1 hb8
          replace hC2 := Kd.C_below hC2 hb8
          replace hC3 := Kd.C_below hC3 hb8
          replace hC4 := Kd.C_below hC4 hb8
          have hB8 : Below w.heap.size w w8 := hB7.trans (hb8.mono hB7.size)
          clear hb8
          have H4 := Lib.hid h4
          clear h4
          go_wp2_with (fail)
          have q := may_calls A1 c1 x1 a1 w8 hC1 hc1
          rw [HM1.out] at q
          refine q.mono ?_
          clear q
          rintro e w9 ⟨rfl, hb9⟩
          replace hr0 := Kd.C_below hr0 hb9
          replace hr5 := Kd.C_below hr5 hb9
          replace hC1 := Kd.C_below hC1 hb9
          replace hC2 := Kd.C_below hC2 hb9
          replace hC3 := Kd.C_below hC3 hb9
          replace hC4 := Kd.C_below hC4 hb9
          have hB9 : Below w.heap.size w w9 := hB8.trans (hb9.mono hB8.size)
          clear hb9
          go_wp2_with (fail)
          have q := may_calls A2 c2 x2 a1 w9 hC2 hc2
          rw [HM2.out] at q
          refine q.mono ?_
          clear q
          rintro e w10 ⟨rfl, hb10⟩
          replace hr0 := Kd.C_below hr0 hb10
          replace hr5 := Kd.C_below hr5 hb10
          replace hC1 := Kd.C_below hC1 hb10
          replace hC2 := Kd.C_below hC2 hb10
          replace hC3 := Kd.C_below hC3 hb10
          replace hC4 := Kd.C_below hC4 hb10
          have hB10 : Below w.heap.size w w10 := hB9.trans (hb10.mono hB9.size)
          clear hb10
          go_wp2_with (fail)
          have q := may_calls A3 c3 x3 a1 w10 hC3 hc3
          rw [HM3.out] at q
          refine q.mono ?_
          clear q
          rintro e w11 ⟨rfl, hb11⟩
          replace hr0 := Kd.C_below hr0 hb11
          replace hr5 := Kd.C_below hr5 hb11
          replace hC1 := Kd.C_below hC1 hb11
          replace hC2 := Kd.C_below hC2 hb11
          replace hC3 := Kd.C_below hC3 hb11
          replace hC4 := Kd.C_below hC4 hb11
          have hB11 : Below w.heap.size w w11 := hB10.trans (hb11.mono hB10.size)
          clear hb11
          go_wp2_with (fail)
          have q := may_calls A4 c4 x4 a1 w11 hC4 hc4
          rw [HM4.out] at q
          refine q.mono ?_
          clear q
          rintro e w12 ⟨rfl, hb12⟩
          replace hr0 := Kd.C_below hr0 hb12
          replace hr5 := Kd.C_below hr5 hb12
          replace hC1 := Kd.C_below hC1 hb12
          replace hC2 := Kd.C_below hC2 hb12
          replace hC3 := Kd.C_below hC3 hb12
          replace hC4 := Kd.C_below hC4 hb12
          have hB12 : Below w.heap.size w w12 := hB11.trans (hb12.mono hB11.size)
          clear hb12
          cases m with
          | true =>
            go_wp2_with (fail)
            go_ret
            exact ⟨rfl, hB12⟩
          | false =>
            have hn1 := HN1.out rfl
            have hn4 := HN4.out rfl
            subst hn1 hn4
            go_wp2_with (fail)
            go_ret
            exact ⟨rfl, hB12⟩
      · have hb30 : (e3 != 0) = true := by simpa using h3
        go_wp2_with (fail)
        have q := same_calls A3 c3 x3 A0 c0 l0 true (decide_eq_true (HE3.out h3)) w7 hC3 hc3 hr0 hc0 (by rw [HE3.out h3]; omega)
        refine q.mono ?_
        clear q
        rintro e w8 ⟨rfl, hb8⟩
        replace hr0 := Kd.C_below hr0 hb8
        replace hr5 := Kd.C_below hr5 hb8
        replace hC1 := Kd.C_below hC1 hb8
        replace hC2 := Kd.C_below hC2 hb8
        replace hC3 := Kd.C_below hC3 hb8
        replace hC4 := Kd.C_below hC4 hb8
        have hB8 : Below w.heap.size w w8 := hB7.trans (hb8.mono hB7.size)
        clear hb8
        have H3 := Lib.hid h3
        clear h3
        by_cases h4 : e4 = 0
        · have hb40 : (e4 != 0) = false := by simpa using h4
          have H4 := Lib.hid h4
          clear h4
          go_wp2_with (fail)
          have q := may_calls A1 c1 x1 a1 w8 hC1 hc1
          rw [HM1.out] at q
          refine q.mono ?_
          clear q
          rintro e w9 ⟨rfl, hb9⟩
          replace hr0 := Kd.C_below hr0 hb9
          replace hr5 := Kd.C_below hr5 hb9
          replace hC1 := Kd.C_below hC1 hb9
          replace hC2 := Kd.C_below hC2 hb9
          replace hC3 := Kd.C_below hC3 hb9
          replace hC4 := Kd.C_below hC4 hb9
          have hB9 : Below w.heap.size w w9 := hB8.trans (hb9.mono hB8.size)
          clear hb9
          go_wp2_with (fail)
          have q := may_calls A2 c2 x2 a1 w9 hC2 hc2
          rw [HM2.out] at q
          refine q.mono ?_
          clear q
          rintro e w10 ⟨rfl, hb10⟩
          replace hr0 := Kd.C_below hr0 hb10
          replace hr5 := Kd.C_below hr5 hb10
          replace hC1 := Kd.C_below hC1 hb10
          replace hC2 := Kd.C_below hC2 hb10
          replace hC3 := Kd.C_below hC3 hb10
          replace hC4 := Kd.C_below hC4 hb10
          have hB10 : Below w.heap.size w w10 := hB9.trans (hb10.mono hB9.size)
          clear hb10
          go_wp2_with (fail)
          have q := may_calls A3 c3 x3 a1 w10 hC3 hc3
          rw [HM3.out] at q
          refine q.mono ?_
          clear q
          rintro e w11 ⟨rfl, hb11⟩
          replace hr0 := Kd.C_below hr0 hb11
          replace hr5 := Kd.C_below hr5 hb11
          replace hC1 := Kd.C_below hC1 hb11
          replace hC2 := Kd.C_below hC2 hb11
          replace hC3 := Kd.C_below hC3 hb11
          replace hC4 := Kd.C_below hC4 hb11
          have hB11 : Below w.heap.size w w11 := hB10.trans (hb11.mono hB10.size)
          clear hb11
          go_wp2_with (fail)
          have q := may_calls A4 c4 x4 a1 w11 hC4 hc4
          rw [HM4.out] at q
          refine q.mono ?_
          clear q
          rintro e w12 ⟨rfl, hb12⟩
          replace hr0 := Kd.C_below hr0 hb12
          replace hr5 := Kd.C_below hr5 hb12
          replace hC1 := Kd.C_below hC1 hb12
          replace hC2 := Kd.C_below hC2 hb12
          replace hC3 := Kd.C_below hC3 hb12
          replace hC4 := Kd.C_below hC4 hb12
          have hB12 : Below w.heap.size w w12 := hB11.trans (hb12.mono hB11.size)
          clear hb12
          cases m with
          | true =>
            go_wp2_with (fail)
            go_ret
            exact ⟨rfl, hB12⟩
          | false =>
            have hn1 := HN1.out rfl
            have hn4 := HN4.out rfl
            subst hn1 hn4
            go_wp2_with (fail)
            go_ret
            exact ⟨rfl, hB12⟩
        · have hb40 : (e4 != 0) = true := by simpa using h4
          go_wp2_with (fail)
          have q := same_calls A4 c4 x4 A0 c0 l0 true (decide_eq_true (HE4.out h4)) w8 hC4 hc4 hr0 hc0 (by rw [HE4.out h4]; omega)
          refine q.mono ?_
          clear q
          rintro e w9 ⟨rfl, hb9⟩
          replace hr0 := Kd.C_below hr0 hb9
          replace hr5 := Kd.C_below hr5 hb9
          replace hC1 := Kd.C_below hC1 hb9
          replace hC2 := Kd.C_below hC2 hb9
          replace hC3 := Kd.C_below hC3 hb9
          replace hC4 := Kd.C_below hC4 hb9
          have hB9 : Below w.heap.size w w9 := hB8.trans (hb9.mono hB8.size)
          clear hb9
          have H4 := Lib.hid h4
          clear h4
          go_wp2_with (fail)
          have q := may_calls A1 c1 x1 a1 w9 hC1 hc1
          rw [HM1.out] at q
          refine q.mono ?_
          clear q
          rintro e w10 ⟨rfl, hb10⟩
          replace hr0 := Kd.C_below hr0 hb10
          replace hr5 := Kd.C_below hr5 hb10
          replace hC1 := Kd.C_below hC1 hb10
          replace hC2 := Kd.C_below hC2 hb10
          replace hC3 := Kd.C_below hC3 hb10
          replace hC4 := Kd.C_below hC4 hb10
          have hB10 : Below w.heap.size w w10 := hB9.trans (hb10.mono hB9.size)
          clear hb10
          go_wp2_with (fail)
          have q := may_calls A2 c2 x2 a1 w10 hC2 hc2
          rw [HM2.out] at q
          refine q.mono ?_
          clear q
          rintro e w11 ⟨rfl, hb11⟩
          replace hr0 := Kd.C_below hr0 hb11
          replace hr5 := Kd.C_below hr5 hb11
          replace hC1 := Kd.C_below hC1 hb11
          replace hC2 := Kd.C_below hC2 hb11
          replace hC3 := Kd.C_below hC3 hb11
          replace hC4 := Kd.C_below hC4 hb11
          have hB11 : Below w.heap.size w w11 := hB10.trans (hb11.mono hB10.size)
          clear hb11
          go_wp2_with (fail)
          have q := may_calls A3 c3 x3 a1 w11 hC3 hc3
          rw [HM3.out] at q
          refine q.mono ?_
          clear q
          rintro e w12 ⟨rfl, hb12⟩
          replace hr0 := Kd.C_below hr0 hb12
          replace hr5 := Kd.C_below hr5 hb12
          replace hC1 := Kd.C_below hC1 hb12
          replace hC2 := Kd.C_below hC2 hb12
          replace hC3 := Kd.C_below hC3 hb12
          replace hC4 := Kd.C_below hC4 hb12
          have hB12 : Below w.heap.size w w12 := hB11.trans (hb12.mono hB11.size)
          clear hb12
          go_wp2_with (fail)
          have q := may_calls A4 c4 x4 a1 w12 hC4 hc4
          rw [HM4.out] at q
          refine q.mono ?_
          clear q
          rintro e w13 ⟨rfl, hb13⟩
          replace hr0 := Kd.C_below hr0 hb13
          replace hr5 := Kd.C_below hr5 hb13
          replace hC1 := Kd.C_below hC1 hb13
          replace hC2 := Kd.C_below hC2 hb13
          replace hC3 := Kd.C_below hC3 hb13
          replace hC4 := Kd.C_below hC4 hb13
          have hB13 : Below w.heap.size w w13 := hB12.trans (hb13.mono hB12.size)
          clear hb13
          cases m with
          | true =>
            go_wp2_with (fail)
            go_ret
            exact ⟨rfl, hB13⟩
          | false =>
            have hn1 := HN1.out rfl
            have hn4 := HN4.out rfl
            subst hn1 hn4
            go_wp2_with (fail)
            go_ret
            exact ⟨rfl, hB13⟩
    · have hb20 : (e2 != 0) = true := by simpa using h2
      go_wp2_with (fail)
      have q := same_calls A2 c2 x2 A0 c0 l0 true (decide_eq_true (HE2.out h2)) w7 hC2 hc2 hr0 hc0 (by rw [HE2.out h2]; omega)
      refine q.mono ?_
      clear q
      rintro e w8 ⟨rfl, hb8⟩
      replace hr0 := Kd.C_below hr0 hb8
      replace hr5 := Kd.C_below hr5 hb8
      replace hC1 := Kd.C_below hC1 hb8
      replace hC2 := Kd.C_below hC2 hb8
      replace hC3 := Kd.C_below hC3 hb8
      replace hC4 := Kd.C_below hC4 hb8
      have hB8 : Below w.heap.size w w8 := hB7.trans (hb8.mono hB7.size)
      clear hb8
      have H2 := Lib.hid h2
      clear h2
      by_cases h3 : e3 = 0
      · have hb30 : (e3 != 0) = false := by simpa using h3
        have H3 := Lib.hid h3
        clear h3
        by_cases h4 : e4 = 0
        · have hb40 : (e4 != 0) = false := by simpa using h4
          have H4 := Lib.hid h4
          clear h4
          go_wp2_with (fail)
          have q := may_calls A1 c1 x1 a1 w8 hC1 hc1
          rw [HM1.out] at q
          refine q.mono ?_
          clear q
          rintro e w9 ⟨rfl, hb9⟩
          replace hr0 := Kd.C_below hr0 hb9
          replace hr5 := Kd.C_below hr5 hb9
          replace hC1 := Kd.C_below hC1 hb9
          replace hC2 := Kd.C_below hC2 hb9
          replace hC3 := Kd.C_below hC3 hb9
          replace hC4 := Kd.C_below hC4 hb9
          have hB9 : Below w.heap.size w w9 := hB8.trans (hb9.mono hB8.size)
          clear hb9
          go_wp2_with (fail)
          have q := may_calls A2 c2 x2 a1 w9 hC2 hc2
          rw [HM2.out] at q
          refine q.mono ?_
          clear q
          rintro e w10 ⟨rfl, hb10⟩
          replace hr0 := Kd.C_below hr0 hb10
          replace hr5 := Kd.C_below hr5 hb10
          replace hC1 := Kd.C_below hC1 hb10
          replace hC2 := Kd.C_below hC2 hb10
          replace hC3 := Kd.C_below hC3 hb10
          replace hC4 := Kd.C_below hC4 hb10
          have hB10 : Below w.heap.size w w10 := hB9.trans (hb10.mono hB9.size)
          clear hb10
          go_wp2_with (fail)
          have q := may_calls A3 c3 x3 a1 w10 hC3 hc3
          rw [HM3.out] at q
          refine q.mono ?_
          clear q
          rintro e w11 ⟨rfl, hb11⟩
          replace hr0 := Kd.C_below hr0 hb11
          replace hr5 := Kd.C_below hr5 hb11
          replace hC1 := Kd.C_below hC1 hb11
          replace hC2 := Kd.C_below hC2 hb11
          replace hC3 := Kd.C_below hC3 hb11
          replace hC4 := Kd.C_below hC4 hb11
          have hB11 : Below w.heap.size w w11 := hB10.trans (hb11.mono hB10.size)
          clear hb11
          go_wp2_with (fail)
          have q := may_calls A4 c4 x4 a1 w11 hC4 hc4
          rw [HM4.out] at q
          refine q.mono ?_
          clear q
          rintro e w12 ⟨rfl, hb12⟩
          replace hr0 := Kd.C_below hr0 hb12
          replace hr5 := Kd.C_below hr5 hb12
          replace hC1 := Kd.C_below hC1 hb12
          replace hC2 := Kd.C_below hC2 hb12
          replace hC3 := Kd.C_below hC3 hb12
          replace hC4 := Kd.C_below hC4 hb12
          have hB12 : Below w.heap.size w w12 := hB11.trans (hb12.mono hB11.size)
          clear hb12
          cases m with
          | true =>
            go_wp2_with (fail)
            go_ret
            exact ⟨rfl, hB12⟩
          | false =>
            have hn1 := HN1.out rfl
            have hn4 := HN4.out rfl
            subst hn1 hn4
            go_wp2_with (fail)
            go_ret
            exact ⟨rfl, hB12⟩
        · have hb40 : (e4 != 0) = true := by simpa using h4
          go_wp2_with (fail)
          have q := same_calls A4 c4 x4 A0 c0 l0 true (decide_eq_true (HE4.out h4)) w8 hC4 hc4 hr0 hc0 (by rw [HE4.out h4]; omega)
          refine q.mono ?_
          clear q
          rintro e w9 ⟨rfl, hb9⟩
          replace hr0 := Kd.C_below hr0 hb9
          replace hr5 := Kd.C_below hr5 hb9
          replace hC1 := Kd.C_below hC1 hb9
          replace hC2 := Kd.C_below hC2 hb9
          replace hC3 := Kd.C_below hC3 hb9
          replace hC4 := Kd.C_below hC4 hb9
          have hB9 : Below w.heap.size w w9 := hB8.trans (hb9.mono hB8.size)
          clear hb9
          have H4 := Lib.hid h4
          clear h4
          go_wp2_with (fail)
          have q := may_calls A1 c1 x1 a1 w9 hC1 hc1
          rw [HM1.out] at q
          refine q.mono ?_
          clear q
          rintro e w10 ⟨rfl, hb10⟩
          replace hr0 := Kd.C_below hr0 hb10
          replace hr5 := Kd.C_below hr5 hb10
          replace hC1 := Kd.C_below hC1 hb10
          replace hC2 := Kd.C_below hC2 hb10
          replace hC3 := Kd.C_below hC3 hb10
          replace hC4 := Kd.C_below hC4 hb10
          have hB10 : Below w.heap.size w w10 := hB9.trans (hb10.mono hB9.size)
          clear hb10
          go_wp2_with (fail)
          have q := may_calls A2 c2 x2 a1 w10 hC2 hc2
          rw [HM2.out] at q
          refine q.mono ?_
          clear q
          rintro e w11 ⟨rfl, hb11⟩
          replace hr0 := Kd.C_below hr0 hb11
          replace hr5 := Kd.C_below hr5 hb11
          replace hC1 := Kd.C_below hC1 hb11
          replace hC2 := Kd.C_below hC2 hb11
          replace hC3 := Kd.C_below hC3 hb11
          replace hC4 := Kd.C_below hC4 hb11
          have hB11 : Below w.heap.size w w11 := hB10.trans (hb11.mono hB10.size)
          clear hb11
          go_wp2_with (fail)
          have q := may_calls A3 c3 x3 a1 w11 hC3 hc3
          rw [HM3.out] at q
          refine q.mono ?_
          clear q
          rintro e w12 ⟨rfl, hb12⟩
          replace hr0 := Kd.C_below hr0 hb12
          replace hr5 := Kd.C_below hr5 hb12
          replace hC1 := Kd.C_below hC1 hb12
          replace hC2 := Kd.C_below hC2 hb12
          replace hC3 := Kd.C_below hC3 hb12
          replace hC4 := Kd.C_below hC4 hb12
          have hB12 : Below w.heap.size w w12 := hB11.trans (hb12.mono hB11.size)
          clear hb12
          go_wp2_with (fail)
          have q := may_calls A4 c4 x4 a1 w12 hC4 hc4
          rw [HM4.out] at q
          refine q.mono ?_
          clear q
          rintro e w13 ⟨rfl, hb13⟩
          replace hr0 := Kd.C_below hr0 hb13
          replace hr5 := Kd.C_below hr5 hb13
          replace hC1 := Kd.C_below hC1 hb13
          replace hC2 := Kd.C_below hC2 hb13
          replace hC3 := Kd.C_below hC3 hb13
          replace hC4 := Kd.C_below hC4 hb13
          have hB13 : Below w.heap.size w w13 := hB12.trans (hb13.mono hB12.size)
          clear hb13
          cases m with
          | true =>
            go_wp2_with (fail)
            go_ret
            exact ⟨rfl, hB13⟩
          | false =>
            have hn1 := HN1.out rfl
            have hn4 := HN4.out rfl
            subst hn1 hn4
            go_wp2_with (fail)
            go_ret
            exact ⟨rfl, hB13⟩
      · have hb30 : (e3 != 0) = true := by simpa using h3
        go_wp2_with (fail)
        have q := same_calls A3 c3 x3 A0 c0 l0 true (decide_eq_true (HE3.out h3)) w8 hC3 hc3 hr0 hc0 (by rw [HE3.out h3]; omega)
        refine q.mono ?_
        clear q
        rintro e w9 ⟨rfl, hb9⟩
        replace hr0 := Kd.C_below hr0 hb9
        replace hr5 := Kd.C_below hr5 hb9
        replace hC1 := Kd.C_below hC1 hb9
        replace hC2 := Kd.C_below hC2 hb9
        replace hC3 := Kd.C_below hC3 hb9
        replace hC4 := Kd.C_below hC4 hb9
        have hB9 : Below w.heap.size w w9 := hB8.trans (hb9.mono hB8.size)
        clear hb9
        have H3 := Lib.hid h3
        clear h3
        by_cases h4 : e4 = 0
        · have hb40 : (e4 != 0) = false := by simpa using h4
          have H4 := Lib.hid h4
          clear h4
          go_wp2_with (fail)
          have q := may_calls A1 c1 x1 a1 w9 hC1 hc1
          rw [HM1.out] at q
          refine q.mono ?_
          clear q
          rintro e w10 ⟨rfl, hb10⟩
          replace hr0 := Kd.C_below hr0 hb10
          replace hr5 := Kd.C_below hr5 hb10
          replace hC1 := Kd.C_below hC1 hb10
          replace hC2 := Kd.C_below hC2 hb10
          replace hC3 := Kd.C_below hC3 hb10
          replace hC4 := Kd.C_below hC4 hb10
          have hB10 : Below w.heap.size w w10 := hB9.trans (hb10.mono hB9.size)
          clear hb10
          go_wp2_with (fail)
          have q := may_calls A2 c2 x2 a1 w10 hC2 hc2
          rw [HM2.out] at q
          refine q.mono ?_
          clear q
          rintro e w11 ⟨rfl, hb11⟩
          replace hr0 := Kd.C_below hr0 hb11
          replace hr5 := Kd.C_below hr5 hb11
          replace hC1 := Kd.C_below hC1 hb11
          replace hC2 := Kd.C_below hC2 hb11
          replace hC3 := Kd.C_below hC3 hb11
          replace hC4 := Kd.C_below hC4 hb11
          have hB11 : Below w.heap.size w w11 := hB10.trans (hb11.mono hB10.size)
          clear hb11
          go_wp2_with (fail)
          have q := may_calls A3 c3 x3 a1 w11 hC3 hc3
          rw [HM3.out] at q
          refine q.mono ?_
          clear q
          rintro e w12 ⟨rfl, hb12⟩
          replace hr0 := Kd.C_below hr0 hb12
          replace hr5 := Kd.C_below hr5 hb12
          replace hC1 := Kd.C_below hC1 hb12
          replace hC2 := Kd.C_below hC2 hb12
          replace hC3 := Kd.C_below hC3 hb12
          replace hC4 := Kd.C_below hC4 hb12
          have hB12 : Below w.heap.size w w12 := hB11.trans (hb12.mono hB11.size)
          clear hb12
          go_wp2_with (fail)
          have q := may_calls A4 c4 x4 a1 w12 hC4 hc4
          rw [HM4.out] at q
          refine q.mono ?_
          clear q
          rintro e w13 ⟨rfl, hb13⟩
          replace hr0 := Kd.C_below hr0 hb13
          replace hr5 := Kd.C_below hr5 hb13
          replace hC1 := Kd.C_below hC1 hb13
          replace hC2 := Kd.C_below hC2 hb13
          replace hC3 := Kd.C_below hC3 hb13
          replace hC4 := Kd.C_below hC4 hb13
          have hB13 : Below w.heap.size w w13 := hB12.trans (hb13.mono hB12.size)
          clear hb13
          cases m with
          | true =>
            go_wp2_with (fail)
            go_ret
            exact ⟨rfl, hB13⟩
          | false =>
            have hn1 := HN1.out rfl
            have hn4 := HN4.out rfl
            subst hn1 hn4
            go_wp2_with (fail)
            go_ret
            exact ⟨rfl, hB13⟩
        · have hb40 : (e4 != 0) = true := by simpa using h4
          go_wp2_with (fail)
          have q := same_calls A4 c4 x4 A0 c0 l0 true (decide_eq_true (HE4.out h4)) w9 hC4 hc4 hr0 hc0 (by rw [HE4.out h4]; omega)
          refine q.mono ?_
          clear q
          rintro e w10 ⟨rfl, hb10⟩
          replace hr0 := Kd.C_below hr0 hb10
          replace hr5 := Kd.C_below hr5 hb10
          replace hC1 := Kd.C_below hC1 hb10
          replace hC2 := Kd.C_below hC2 hb10
          replace hC3 := Kd.C_below hC3 hb10
          replace hC4 := Kd.C_below hC4 hb10
          have hB10 : Below w.heap.size w w10 := hB9.trans (hb10.mono hB9.size)
          clear hb10
          have H4 := Lib.hid h4
          clear h4
          go_wp2_with (fail)
          have q := may_calls A1 c1 x1 a1 w10 hC1 hc1
          rw [HM1.out] at q
          refine q.mono ?_
          clear q
          rintro e w11 ⟨rfl, hb11⟩
          replace hr0 := Kd.C_below hr0 hb11
          replace hr5 := Kd.C_below hr5 hb11
          replace hC1 := Kd.C_below hC1 hb11
          replace hC2 := Kd.C_below hC2 hb11
          replace hC3 := Kd.C_below hC3 hb11
          replace hC4 := Kd.C_below hC4 hb11
          have hB11 : Below w.heap.size w w11 := hB10.trans (hb11.mono hB10.size)
          clear hb11
          go_wp2_with (fail)
          have q := may_calls A2 c2 x2 a1 w11 hC2 hc2
          rw [HM2.out] at q
          refine q.mono ?_
          clear q
          rintro e w12 ⟨rfl, hb12⟩
          replace hr0 := Kd.C_below hr0 hb12
          replace hr5 := Kd.C_below hr5 hb12
          replace hC1 := Kd.C_below hC1 hb12
          replace hC2 := Kd.C_below hC2 hb12
          replace hC3 := Kd.C_below hC3 hb12
          replace hC4 := Kd.C_below hC4 hb12
          have hB12 : Below w.heap.size w w12 := hB11.trans (hb12.mono hB11.size)
          clear hb12
          go_wp2_with (fail)
          have q := may_calls A3 c3 x3 a1 w12 hC3 hc3
          rw [HM3.out] at q
          refine q.mono ?_
          clear q
          rintro e w13 ⟨rfl, hb13⟩
          replace hr0 := Kd.C_below hr0 hb13
          replace hr5 := Kd.C_below hr5 hb13
          replace hC1 := Kd.C_below hC1 hb13
          replace hC2 := Kd.C_below hC2 hb13
          replace hC3 := Kd.C_below hC3 hb13
          replace hC4 := Kd.C_below hC4 hb13
          have hB13 : Below w.heap.size w w13 := hB12.trans (hb13.mono hB12.size)
          clear hb13
          go_wp2_with (fail)
          have q := may_calls A4 c4 x4 a1 w13 hC4 hc4
          rw [HM4.out] at q
          refine q.mono ?_
          clear q
          rintro e w14 ⟨rfl, hb14⟩
          replace hr0 := Kd.C_below hr0 hb14
          replace hr5 := Kd.C_below hr5 hb14
          replace hC1 := Kd.C_below hC1 hb14
          replace hC2 := Kd.C_below hC2 hb14
          replace hC3 := Kd.C_below hC3 hb14
          replace hC4 := Kd.C_below hC4 hb14
          have hB14 : Below w.heap.size w w14 := hB13.trans (hb14.mono hB13.size)
          clear hb14
          cases m with
          | true =>
            go_wp2_with (fail)
            go_ret
            exact ⟨rfl, hB14⟩
          | false =>
            have hn1 := HN1.out rfl
            have hn4 := HN4.out rfl
            subst hn1 hn4
            go_wp2_with (fail)
            go_ret
            exact ⟨rfl, hB14⟩

theorem poolStays_walk (a0 : Option Addr) (cap0 : Nat) (l0 : List Pl) (a1 : Int) (a2 : Int) (a3 : Int) (a4 : Int) (a5 : Option Addr) (len5 cap5 : Nat) (z5 : List Int) (w : World)
    (hR0 : Kd.C kP w a0 l0.length l0) (hc0 : l0.length ≤ cap0)
    (w1 : (Lit.int .i64 a1).wf = true)
    (w2 : (Lit.int .i64 a2).wf = true)
    (w3 : (Lit.int .i64 a3).wf = true)
    (w4 : (Lit.int .i64 a4).wf = true)
    (w5 : (a5 = none ∧ len5 = 0 ∧ cap5 = 0 ∧ z5 = []) ∨ ∃ x, a5 = some x ∧ len5 ≤ cap5 ∧ cap5 ≤ maxLen ∧ z5.length = cap5 ∧ (∀ i, i < z5.length → w.cell? (x.add i) = some (.int .i64 (z5.getD i 0))) ∧ ∀ n ∈ z5, (Lit.int .i64 n).wf = true) (y5 : len5 * 8 ≤ 140737488351232) :
    Calls Try.prog 7 #[.slice a0 l0.length cap0, .int .i64 a1, .int .i64 a2, .int .i64 a3, .int .i64 a4, .slice a5 len5 cap5] w fun e w' => e = .returned (.bool true) ∧ Below w.heap.size w w' := by
  obtain ⟨l5, rfl, hr5, hm5, hw5, hc5⟩ := ReadsInt.ofRowC w5
  have hR5 : Kd.C (Kd.int .i64) w a5 l5.length l5 := Kd.C_of_reads (d := (0 : Int)) (h1 := fun _ => rfl) hr5
  clear w5 hr5
  unfold maxLen at hm5
  by_cases g0 : l0.length ≤ 6
  · skip
    by_cases g1 : l5.length ≤ 40
    · skip
      exact poolStays_calls a0 cap0 l0 a1 a2 a3 a4 a5 cap5 l5 w hR0 hc0 w1 w2 w3 w4 hR5 hc5 g0 g1
    · have k0 : ¬ ((6 : Int) < (l0.length : Int)) := by omega
      have k5 : (40 : Int) < (l5.length : Int) := by omega
      go_enter Try.func7, Try.ntmps7
      go_wp2_with (fail)
      refine (awake_true w).mono ?_
      rintro e w1 ⟨rfl, hb1⟩
      go_wp2_with (fail)
      go_ret
      exact ⟨rfl, hb1⟩
  · have k0 : (6 : Int) < (l0.length : Int) := by omega
    go_enter Try.func7, Try.ntmps7
    go_wp2_with (fail)
    refine (awake_true w).mono ?_
    rintro e w1 ⟨rfl, hb1⟩
    go_wp2_with (fail)
    go_ret
    exact ⟨rfl, hb1⟩

end Go.Proofs.Ytajofhjlkaenhaa.H
