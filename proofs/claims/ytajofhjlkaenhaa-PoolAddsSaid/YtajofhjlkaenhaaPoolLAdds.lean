import Derived.Test.YtajofhjlkaenhaaPoolM
import Derived.Deep.RegionHeld
import Derived.Deep.QuietTactic
import Derived.BigQuiet
import Derived.OpenShut
import Derived.Test.YtajofhjlkaenhaaPoolS
/-! The law PoolAdds, walked. -/
namespace Go.Proofs.Ytajofhjlkaenhaa.H
open Go.RowKit Go.Proofs.YtajofhjlkaenhaaW.PrintWords Go.Proofs.YtajofhjlkaenhaaW.PrintLast Go.Proofs.YtajofhjlkaenhaaW.PrintMore
set_option linter.unusedVariables false
set_option linter.unusedSimpArgs false

set_option maxRecDepth 100000 in
set_option maxHeartbeats 8000000 in
theorem poolAdds_calls (A0 : Option Addr) (c0 : Nat) (l0 : List Pl) (a1 : Int) (a2 : Int) (a3 : Int) (a4 : Int) (w : World) (hr0 : Kd.C kP w A0 l0.length l0) (hc0 : l0.length ≤ c0) (hw1 : (Lit.int .i64 a1).wf = true) (hw2 : (Lit.int .i64 a2).wf = true) (hw3 : (Lit.int .i64 a3).wf = true) (hw4 : (Lit.int .i64 a4).wf = true) (g0 : l0.length ≤ 6) :
    Calls Try.prog 4 #[.slice A0 l0.length c0, .int .i64 a1, .int .i64 a2, .int .i64 a3, .int .i64 a4] w fun e w' => e = .returned (.bool true) ∧ Below w.heap.size w w' := by
  have k0 : ¬ ((6 : Int) < (l0.length : Int)) := by omega
  go_enter Try.func4, Try.ntmps4
  go_wp2_with (fail)
  refine (awake_true w).mono ?_
  rintro e w1 ⟨rfl, hb1⟩
  have hB1 : Below w.heap.size w w1 := hb1
  replace hr0 := Kd.C_below hr0 hb1
  go_wp2_with (fail)
  have q := add_calls A0 c0 l0 a1 a2 a3 w1 hr0 hc0 (by omega)
  refine q.mono ?_
  clear q
  rintro e w2 ⟨A1, c1, rfl, hc1, hC1, hb2⟩
  replace hr0 := Kd.C_below hr0 hb2
  have hB2 : Below w.heap.size w w2 := hB1.trans (hb2.mono hB1.size)
  clear hb2
  have HE := Lib.hid (fun h => addR_err (out := a1) (p := ⟨a2, a3, 0⟩) (l := l0) h)
  have HK := Lib.hid (fun h => adds_ok (out := a1) (f := a2) (n := a3) (x := a4) (l := l0) h)
  generalize (addR a1 ⟨a2, a3, 0⟩ l0).1 = x1 at *
  generalize (addR a1 ⟨a2, a3, 0⟩ l0).2 = e1 at *
  by_cases h1 : e1 = 0
  · skip
    obtain ⟨⟨d1, d2⟩, d3, ⟨d4, d5, d6⟩, d7, d8⟩ := HK.out h1
    subst h1
    have D3 := Lib.hid d3
    have D7 := Lib.hid d7
    have D8 := Lib.hid d8
    clear HE HK d3 d7 d8
    have hx1 : x1.length ≤ 1000 := by omega
    have D1 := Lib.hid d1
    have D2 := Lib.hid d2
    clear d1 d2
    go_wp2_with (fail)
    have q := add_calls A1 c1 x1 a1 a2 a3 w2 hC1 hc1 hx1
    refine q.mono ?_
    clear q
    rintro e w3 ⟨A2, c2, rfl, hc2, hC2, hb3⟩
    replace hr0 := Kd.C_below hr0 hb3
    replace hC1 := Kd.C_below hC1 hb3
    have hB3 : Below w.heap.size w w3 := hB2.trans (hb3.mono hB2.size)
    clear hb3
    have d1 := D1.out
    have d2 := D2.out
    rw [D3.out]
    generalize (addR a1 ⟨a2, a3, 0⟩ x1).1 = x2 at *
    have HWR := Lib.hid (show wrap64 (a2 + a3) = a2 + a3 by unfold wrap64; omega)
    have HWL := Lib.hid (show wrap64 ((l0.length : Int) + 1) = (l0.length : Int) + 1 by unfold wrap64; omega)
    have hbig : l0.length ≤ 4611686018427387904 := by omega
    have hlb : ((x1.length : Int) != (l0.length : Int) + 1) = false := by rw [bne_eq_false_iff_eq]; omega
    obtain ⟨t1, t2, t3⟩ := takeP A1 c1 x1 l0.length (by omega) hc1
    rw [d2] at t1 t2 t3
    have hS := t2 _ hC1
    clear t2 d1 d2 D1 D2 D3
    have hwr := HWR.out
    have hwl := HWL.out
    clear HWR HWL
    by_cases i1 : a2 ≤ a4
    · by_cases i2 : a4 < a2 + a3
      · skip
        skip
        go_wp2_with (fail)
        have q := same_calls A1 c1 l0 A0 c0 l0 true (decide_eq_true rfl) w3 hS t3 hr0 hc0 hbig
        refine q.mono ?_
        clear q
        rintro e w4 ⟨rfl, hb4⟩
        replace hr0 := Kd.C_below hr0 hb4
        replace hC1 := Kd.C_below hC1 hb4
        replace hC2 := Kd.C_below hC2 hb4
        replace hS := Kd.C_below hS hb4
        have hB4 : Below w.heap.size w w4 := hB3.trans (hb4.mono hB3.size)
        clear hb4
        have D7' := Lib.hid (show givesP x1 a4 = true by rw [D7.out, decide_eq_true ⟨i1, i2⟩]; rfl)
        go_wp2_with (fail)
        have q := gives_calls A1 c1 x1 a4 w4 hC1 hc1
        rw [D7'.out] at q
        refine q.mono ?_
        clear q
        rintro e w5 ⟨rfl, hb5⟩
        replace hr0 := Kd.C_below hr0 hb5
        replace hC1 := Kd.C_below hC1 hb5
        replace hC2 := Kd.C_below hC2 hb5
        replace hS := Kd.C_below hS hb5
        have hB5 : Below w.heap.size w w5 := hB4.trans (hb5.mono hB4.size)
        clear hb5
        go_wp2_with (fail)
        have q := of_calls A1 c1 x1 a4 w5 hC1 hc1
        rw [D8.out i1 i2] at q
        refine q.mono ?_
        clear q
        rintro e w6 ⟨rfl, hb6⟩
        replace hr0 := Kd.C_below hr0 hb6
        replace hC1 := Kd.C_below hC1 hb6
        replace hC2 := Kd.C_below hC2 hb6
        replace hS := Kd.C_below hS hb6
        have hB6 : Below w.heap.size w w6 := hB5.trans (hb6.mono hB5.size)
        clear hb6
        go_wp2_with (fail)
        go_ret
        exact ⟨rfl, hB6⟩
      · skip
        have D7' := Lib.hid (show givesP x1 a4 = givesP l0 a4 by rw [D7.out, decide_eq_false (fun h => i2 h.2)]; rfl)
        go_wp2_with (fail)
        have q := same_calls A1 c1 l0 A0 c0 l0 true (decide_eq_true rfl) w3 hS t3 hr0 hc0 hbig
        refine q.mono ?_
        clear q
        rintro e w4 ⟨rfl, hb4⟩
        replace hr0 := Kd.C_below hr0 hb4
        replace hC1 := Kd.C_below hC1 hb4
        replace hC2 := Kd.C_below hC2 hb4
        replace hS := Kd.C_below hS hb4
        have hB4 : Below w.heap.size w w4 := hB3.trans (hb4.mono hB3.size)
        clear hb4
        go_wp2_with (fail)
        have q := gives_calls A1 c1 x1 a4 w4 hC1 hc1
        rw [D7'.out] at q
        refine q.mono ?_
        clear q
        rintro e w5 ⟨rfl, hb5⟩
        replace hr0 := Kd.C_below hr0 hb5
        replace hC1 := Kd.C_below hC1 hb5
        replace hC2 := Kd.C_below hC2 hb5
        replace hS := Kd.C_below hS hb5
        have hB5 : Below w.heap.size w w5 := hB4.trans (hb5.mono hB4.size)
        clear hb5
        go_wp2_with (fail)
        have q := gives_calls A0 c0 l0 a4 w5 hr0 hc0
        refine q.mono ?_
        clear q
        rintro e w6 ⟨rfl, hb6⟩
        replace hr0 := Kd.C_below hr0 hb6
        replace hC1 := Kd.C_below hC1 hb6
        replace hC2 := Kd.C_below hC2 hb6
        replace hS := Kd.C_below hS hb6
        have hB6 : Below w.heap.size w w6 := hB5.trans (hb6.mono hB5.size)
        clear hb6
        generalize givesP l0 a4 = gg at *
        go_wp2_with (fail)
        go_ret
        exact ⟨rfl, hB6⟩
    · skip
      have D7' := Lib.hid (show givesP x1 a4 = givesP l0 a4 by rw [D7.out, decide_eq_false (fun h => i1 h.1)]; rfl)
      go_wp2_with (fail)
      have q := same_calls A1 c1 l0 A0 c0 l0 true (decide_eq_true rfl) w3 hS t3 hr0 hc0 hbig
      refine q.mono ?_
      clear q
      rintro e w4 ⟨rfl, hb4⟩
      replace hr0 := Kd.C_below hr0 hb4
      replace hC1 := Kd.C_below hC1 hb4
      replace hC2 := Kd.C_below hC2 hb4
      replace hS := Kd.C_below hS hb4
      have hB4 : Below w.heap.size w w4 := hB3.trans (hb4.mono hB3.size)
      clear hb4
      go_wp2_with (fail)
      have q := gives_calls A1 c1 x1 a4 w4 hC1 hc1
      rw [D7'.out] at q
      refine q.mono ?_
      clear q
      rintro e w5 ⟨rfl, hb5⟩
      replace hr0 := Kd.C_below hr0 hb5
      replace hC1 := Kd.C_below hC1 hb5
      replace hC2 := Kd.C_below hC2 hb5
      replace hS := Kd.C_below hS hb5
      have hB5 : Below w.heap.size w w5 := hB4.trans (hb5.mono hB4.size)
      clear hb5
      go_wp2_with (fail)
      have q := gives_calls A0 c0 l0 a4 w5 hr0 hc0
      refine q.mono ?_
      clear q
      rintro e w6 ⟨rfl, hb6⟩
      replace hr0 := Kd.C_below hr0 hb6
      replace hC1 := Kd.C_below hC1 hb6
      replace hC2 := Kd.C_below hC2 hb6
      replace hS := Kd.C_below hS hb6
      have hB6 : Below w.heap.size w w6 := hB5.trans (hb6.mono hB5.size)
      clear hb6
      generalize givesP l0 a4 = gg at *
      go_wp2_with (fail)
      go_ret
      exact ⟨rfl, hB6⟩
  · skip
    have hb0 : (e1 != 0) = true := by simpa using h1
    have hx := Lib.hid (HE.out h1)
    have H1 := Lib.hid h1
    clear h1
    go_wp2_with (fail)
    have q := same_calls A1 c1 x1 A0 c0 l0 true (decide_eq_true hx.out) w2 hC1 hc1 hr0 hc0 (by rw [hx.out]; omega)
    refine q.mono ?_
    clear q
    rintro e w3 ⟨rfl, hb3⟩
    replace hr0 := Kd.C_below hr0 hb3
    replace hC1 := Kd.C_below hC1 hb3
    have hB3 : Below w.heap.size w w3 := hB2.trans (hb3.mono hB2.size)
    clear hb3
    clear hx
    go_wp2_with (fail)
    go_ret
    exact ⟨rfl, hB3⟩

theorem poolAdds_walk (a0 : Option Addr) (cap0 : Nat) (l0 : List Pl) (a1 : Int) (a2 : Int) (a3 : Int) (a4 : Int) (w : World)
    (hR0 : Kd.C kP w a0 l0.length l0) (hc0 : l0.length ≤ cap0)
    (w1 : (Lit.int .i64 a1).wf = true)
    (w2 : (Lit.int .i64 a2).wf = true)
    (w3 : (Lit.int .i64 a3).wf = true)
    (w4 : (Lit.int .i64 a4).wf = true) :
    Calls Try.prog 4 #[.slice a0 l0.length cap0, .int .i64 a1, .int .i64 a2, .int .i64 a3, .int .i64 a4] w fun e w' => e = .returned (.bool true) ∧ Below w.heap.size w w' := by
  by_cases g0 : l0.length ≤ 6
  · skip
    exact poolAdds_calls a0 cap0 l0 a1 a2 a3 a4 w hR0 hc0 w1 w2 w3 w4 g0
  · have k0 : (6 : Int) < (l0.length : Int) := by omega
    go_enter Try.func4, Try.ntmps4
    go_wp2_with (fail)
    refine (awake_true w).mono ?_
    rintro e w1 ⟨rfl, hb1⟩
    go_wp2_with (fail)
    go_ret
    exact ⟨rfl, hb1⟩

end Go.Proofs.Ytajofhjlkaenhaa.H
