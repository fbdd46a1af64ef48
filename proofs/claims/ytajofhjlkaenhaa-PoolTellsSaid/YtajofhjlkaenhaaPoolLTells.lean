import Derived.Test.YtajofhjlkaenhaaPoolM
import Derived.Deep.RegionHeld
import Derived.Deep.QuietTactic
import Derived.BigQuiet
import Derived.OpenShut
import Derived.Test.YtajofhjlkaenhaaPoolX
/-! The law PoolTells, walked. -/
namespace Go.Proofs.Ytajofhjlkaenhaa.H
open Go.RowKit Go.Proofs.YtajofhjlkaenhaaW.PrintWords Go.Proofs.YtajofhjlkaenhaaW.PrintLast Go.Proofs.YtajofhjlkaenhaaW.PrintMore
set_option linter.unusedVariables false
set_option linter.unusedSimpArgs false

set_option maxRecDepth 100000 in
set_option maxHeartbeats 8000000 in
theorem poolTells_calls (A0 : Option Addr) (c0 : Nat) (l0 : List Pl) (A1 : Option Addr) (c1 : Nat) (l1 : List Pl) (a2 : Int) (a3 : Int) (a4 : Int) (a5 : Int) (A6 : Option Addr) (c6 : Nat) (l6 : List Int) (w : World) (hr0 : Kd.C kP w A0 l0.length l0) (hc0 : l0.length ≤ c0) (hr1 : Kd.C kP w A1 l1.length l1) (hc1 : l1.length ≤ c1) (hw2 : (Lit.int .i64 a2).wf = true) (hw3 : (Lit.int .i64 a3).wf = true) (hw4 : (Lit.int .i64 a4).wf = true) (hw5 : (Lit.int .i64 a5).wf = true) (hr6 : Kd.C (Kd.int .i64) w A6 l6.length l6) (hc6 : l6.length ≤ c6) (g0 : l0.length ≤ 6) (g1 : l1.length ≤ 6) (g2 : l6.length ≤ 40) :
    Calls Try.prog 6 #[.slice A0 l0.length c0, .slice A1 l1.length c1, .int .i64 a2, .int .i64 a3, .int .i64 a4, .int .i64 a5, .slice A6 l6.length c6] w fun e w' => e = .returned (.bool true) ∧ Below w.heap.size w w' := by
  have k0 : ¬ ((6 : Int) < (l0.length : Int)) := by omega
  have k1 : ¬ ((6 : Int) < (l1.length : Int)) := by omega
  have k6 : ¬ ((40 : Int) < (l6.length : Int)) := by omega
  go_enter Try.func6, Try.ntmps6
  go_wp2_with (fail)
  refine (awake_true w).mono ?_
  rintro e w1 ⟨rfl, hb1⟩
  have hB1 : Below w.heap.size w w1 := hb1
  replace hr0 := Kd.C_below hr0 hb1
  replace hr1 := Kd.C_below hr1 hb1
  replace hr6 := Kd.C_below hr6 hb1
  have hq : l0.length ≤ 90 := by omega
  have hl1000 : l0.length ≤ 1000 := by omega
  have hb1000 : l6.length ≤ 1000 := by omega
  go_wp2_with (fail)
  have q := add_calls A0 c0 l0 a2 a4 a5 w1 hr0 hc0 hl1000
  refine q.mono ?_
  clear q
  rintro e w2 ⟨Ax1, cx1, rfl, hcx1, hCx1, hb2⟩
  replace hr0 := Kd.C_below hr0 hb2
  replace hr1 := Kd.C_below hr1 hb2
  replace hr6 := Kd.C_below hr6 hb2
  have hB2 : Below w.heap.size w w2 := hB1.trans (hb2.mono hB1.size)
  clear hb2
  go_wp2_with (fail)
  have q := refAdd_calls A0 c0 l0 a2 a4 a5 w2 hr0 hc0 hl1000
  refine q.mono ?_
  clear q
  rintro e w3 ⟨Ay1, cy1, rfl, hcy1, hCy1, hb3⟩
  replace hr0 := Kd.C_below hr0 hb3
  replace hr1 := Kd.C_below hr1 hb3
  replace hr6 := Kd.C_below hr6 hb3
  replace hCx1 := Kd.C_below hCx1 hb3
  have hB3 : Below w.heap.size w w3 := hB2.trans (hb3.mono hB2.size)
  clear hb3
  have hn1 := addR_len a2 ⟨a4, a5, 0⟩ l0
  generalize (addR a2 ⟨a4, a5, 0⟩ l0).1 = z1 at *
  generalize (addR a2 ⟨a4, a5, 0⟩ l0).2 = e1 at *
  replace hn1 : z1.length ≤ 90 := by omega
  go_wp2_with (fail)
  have q := drain_calls A0 c0 l0 a2 a3 w3 hr0 hc0 hl1000
  refine q.mono ?_
  clear q
  rintro e w4 ⟨Ax2, cx2, rfl, hcx2, hCx2, hb4⟩
  replace hr0 := Kd.C_below hr0 hb4
  replace hr1 := Kd.C_below hr1 hb4
  replace hr6 := Kd.C_below hr6 hb4
  replace hCx1 := Kd.C_below hCx1 hb4
  replace hCy1 := Kd.C_below hCy1 hb4
  have hB4 : Below w.heap.size w w4 := hB3.trans (hb4.mono hB3.size)
  clear hb4
  go_wp2_with (fail)
  have q := refDrain_calls A0 c0 l0 a2 a3 w4 hr0 hc0 hl1000
  refine q.mono ?_
  clear q
  rintro e w5 ⟨Ay2, cy2, rfl, hcy2, hCy2, hb5⟩
  replace hr0 := Kd.C_below hr0 hb5
  replace hr1 := Kd.C_below hr1 hb5
  replace hr6 := Kd.C_below hr6 hb5
  replace hCx1 := Kd.C_below hCx1 hb5
  replace hCy1 := Kd.C_below hCy1 hb5
  replace hCx2 := Kd.C_below hCx2 hb5
  have hB5 : Below w.heap.size w w5 := hB4.trans (hb5.mono hB4.size)
  clear hb5
  have hn2 := drainR_len a2 a3 l0
  generalize (drainR a2 a3 l0).1 = z2 at *
  generalize (drainR a2 a3 l0).2 = e2 at *
  replace hn2 : z2.length ≤ 90 := by omega
  go_wp2_with (fail)
  have q := size_calls A0 c0 l0 a2 a3 a5 A6 c6 l6 w5 hr0 hc0 hl1000 hr6 hc6
  refine q.mono ?_
  clear q
  rintro e w6 ⟨Ax3, cx3, rfl, hcx3, hCx3, hb6⟩
  replace hr0 := Kd.C_below hr0 hb6
  replace hr1 := Kd.C_below hr1 hb6
  replace hr6 := Kd.C_below hr6 hb6
  replace hCx1 := Kd.C_below hCx1 hb6
  replace hCy1 := Kd.C_below hCy1 hb6
  replace hCx2 := Kd.C_below hCx2 hb6
  replace hCy2 := Kd.C_below hCy2 hb6
  have hB6 : Below w.heap.size w w6 := hB5.trans (hb6.mono hB5.size)
  clear hb6
  go_wp2_with (fail)
  have q := refSize_calls A0 c0 l0 a2 a3 a5 A6 c6 l6 w6 hr0 hc0 hl1000 hr6 hc6 hb1000
  refine q.mono ?_
  clear q
  rintro e w7 ⟨Ay3, cy3, rfl, hcy3, hCy3, hb7⟩
  replace hr0 := Kd.C_below hr0 hb7
  replace hr1 := Kd.C_below hr1 hb7
  replace hr6 := Kd.C_below hr6 hb7
  replace hCx1 := Kd.C_below hCx1 hb7
  replace hCy1 := Kd.C_below hCy1 hb7
  replace hCx2 := Kd.C_below hCx2 hb7
  replace hCy2 := Kd.C_below hCy2 hb7
  replace hCx3 := Kd.C_below hCx3 hb7
  have hB7 : Below w.heap.size w w7 := hB6.trans (hb7.mono hB6.size)
  clear hb7
  have hn3 := sizeR_len a2 a3 a5 l6 l0
  generalize (sizeR a2 a3 a5 l6 l0).1 = z3 at *
  generalize (sizeR a2 a3 a5 l6 l0).2 = e3 at *
  replace hn3 : z3.length ≤ 90 := by omega
  go_wp2_with (fail)
  have q := gone_calls A0 c0 l0 a2 a3 A6 c6 l6 w7 hr0 hc0 hl1000 hr6 hc6
  refine q.mono ?_
  clear q
  rintro e w8 ⟨Ax4, cx4, rfl, hcx4, hCx4, hb8⟩
  replace hr0 := Kd.C_below hr0 hb8
  replace hr1 := Kd.C_below hr1 hb8
  replace hr6 := Kd.C_below hr6 hb8
  replace hCx1 := Kd.C_below hCx1 hb8
  replace hCy1 := Kd.C_below hCy1 hb8
  replace hCx2 := Kd.C_below hCx2 hb8
  replace hCy2 := Kd.C_below hCy2 hb8
  replace hCx3 := Kd.C_below hCx3 hb8
  replace hCy3 := Kd.C_below hCy3 hb8
  have hB8 : Below w.heap.size w w8 := hB7.trans (hb8.mono hB7.size)
  clear hb8
  go_wp2_with (fail)
  have q := refGone_calls A0 c0 l0 a2 a3 A6 c6 l6 w8 hr0 hc0 hl1000 hr6 hc6 hb1000
  refine q.mono ?_
  clear q
  rintro e w9 ⟨Ay4, cy4, rfl, hcy4, hCy4, hb9⟩
  replace hr0 := Kd.C_below hr0 hb9
  replace hr1 := Kd.C_below hr1 hb9
  replace hr6 := Kd.C_below hr6 hb9
  replace hCx1 := Kd.C_below hCx1 hb9
  replace hCy1 := Kd.C_below hCy1 hb9
  replace hCx2 := Kd.C_below hCx2 hb9
  replace hCy2 := Kd.C_below hCy2 hb9
  replace hCx3 := Kd.C_below hCx3 hb9
  replace hCy3 := Kd.C_below hCy3 hb9
  replace hCx4 := Kd.C_below hCx4 hb9
  have hB9 : Below w.heap.size w w9 := hB8.trans (hb9.mono hB8.size)
  clear hb9
  have hn4 := goneR_len a2 a3 l6 l0
  generalize (goneR a2 a3 l6 l0).1 = z4 at *
  generalize (goneR a2 a3 l6 l0).2 = e4 at *
  replace hn4 : z4.length ≤ 90 := by omega
  go_wp2_with (fail)
  have q := refSame_calls Ax1 cx1 z1 Ay1 cy1 z1 true (decide_eq_true rfl) w9 hCx1 hcx1 hCy1 hcy1 hn1
  refine q.mono ?_
  clear q
  rintro e w10 ⟨rfl, hb10⟩
  replace hr0 := Kd.C_below hr0 hb10
  replace hr1 := Kd.C_below hr1 hb10
  replace hr6 := Kd.C_below hr6 hb10
  replace hCx1 := Kd.C_below hCx1 hb10
  replace hCy1 := Kd.C_below hCy1 hb10
  replace hCx2 := Kd.C_below hCx2 hb10
  replace hCy2 := Kd.C_below hCy2 hb10
  replace hCx3 := Kd.C_below hCx3 hb10
  replace hCy3 := Kd.C_below hCy3 hb10
  replace hCx4 := Kd.C_below hCx4 hb10
  replace hCy4 := Kd.C_below hCy4 hb10
  have hB10 : Below w.heap.size w w10 := hB9.trans (hb10.mono hB9.size)
  clear hb10
  go_wp2_with (fail)
  have q := refSame_calls Ax2 cx2 z2 Ay2 cy2 z2 true (decide_eq_true rfl) w10 hCx2 hcx2 hCy2 hcy2 hn2
  refine q.mono ?_
  clear q
  rintro e w11 ⟨rfl, hb11⟩
  replace hr0 := Kd.C_below hr0 hb11
  replace hr1 := Kd.C_below hr1 hb11
  replace hr6 := Kd.C_below hr6 hb11
  replace hCx1 := Kd.C_below hCx1 hb11
  replace hCy1 := Kd.C_below hCy1 hb11
  replace hCx2 := Kd.C_below hCx2 hb11
  replace hCy2 := Kd.C_below hCy2 hb11
  replace hCx3 := Kd.C_below hCx3 hb11
  replace hCy3 := Kd.C_below hCy3 hb11
  replace hCx4 := Kd.C_below hCx4 hb11
  replace hCy4 := Kd.C_below hCy4 hb11
  have hB11 : Below w.heap.size w w11 := hB10.trans (hb11.mono hB10.size)
  clear hb11
  go_wp2_with (fail)
  have q := refSame_calls Ax3 cx3 z3 Ay3 cy3 z3 true (decide_eq_true rfl) w11 hCx3 hcx3 hCy3 hcy3 hn3
  refine q.mono ?_
  clear q
  rintro e w12 ⟨rfl, hb12⟩
  replace hr0 := Kd.C_below hr0 hb12
  replace hr1 := Kd.C_below hr1 hb12
  replace hr6 := Kd.C_below hr6 hb12
  replace hCx1 := Kd.C_below hCx1 hb12
  replace hCy1 := Kd.C_below hCy1 hb12
  replace hCx2 := Kd.C_below hCx2 hb12
  replace hCy2 := Kd.C_below hCy2 hb12
  replace hCx3 := Kd.C_below hCx3 hb12
  replace hCy3 := Kd.C_below hCy3 hb12
  replace hCx4 := Kd.C_below hCx4 hb12
  replace hCy4 := Kd.C_below hCy4 hb12
  have hB12 : Below w.heap.size w w12 := hB11.trans (hb12.mono hB11.size)
  clear hb12
  go_wp2_with (fail)
  have q := refSame_calls Ax4 cx4 z4 Ay4 cy4 z4 true (decide_eq_true rfl) w12 hCx4 hcx4 hCy4 hcy4 hn4
  refine q.mono ?_
  clear q
  rintro e w13 ⟨rfl, hb13⟩
  replace hr0 := Kd.C_below hr0 hb13
  replace hr1 := Kd.C_below hr1 hb13
  replace hr6 := Kd.C_below hr6 hb13
  replace hCx1 := Kd.C_below hCx1 hb13
  replace hCy1 := Kd.C_below hCy1 hb13
  replace hCx2 := Kd.C_below hCx2 hb13
  replace hCy2 := Kd.C_below hCy2 hb13
  replace hCx3 := Kd.C_below hCx3 hb13
  replace hCy3 := Kd.C_below hCy3 hb13
  replace hCx4 := Kd.C_below hCx4 hb13
  replace hCy4 := Kd.C_below hCy4 hb13
  have hB13 : Below w.heap.size w w13 := hB12.trans (hb13.mono hB12.size)
  clear hb13
  obtain ⟨bm, hbm⟩ : ∃ b, maysP l0 a2 = b := ⟨_, rfl⟩
  obtain ⟨bs, hbs⟩ : ∃ b, decide (l0 = l1) = b := ⟨_, rfl⟩
  obtain ⟨bg, hbg⟩ : ∃ b, givesP l0 a4 = b := ⟨_, rfl⟩
  have HBM := Lib.hid hbm
  have HBS := Lib.hid hbs
  have HBG := Lib.hid hbg
  clear hbm hbs hbg
  go_wp2_with (fail)
  have q := refMay_calls A0 c0 l0 a2 w13 hr0 hc0
  rw [HBM.out] at q
  refine q.mono ?_
  clear q
  rintro e w14 ⟨rfl, hb14⟩
  replace hr0 := Kd.C_below hr0 hb14
  replace hr1 := Kd.C_below hr1 hb14
  replace hr6 := Kd.C_below hr6 hb14
  replace hCx1 := Kd.C_below hCx1 hb14
  replace hCy1 := Kd.C_below hCy1 hb14
  replace hCx2 := Kd.C_below hCx2 hb14
  replace hCy2 := Kd.C_below hCy2 hb14
  replace hCx3 := Kd.C_below hCx3 hb14
  replace hCy3 := Kd.C_below hCy3 hb14
  replace hCx4 := Kd.C_below hCx4 hb14
  replace hCy4 := Kd.C_below hCy4 hb14
  have hB14 : Below w.heap.size w w14 := hB13.trans (hb14.mono hB13.size)
  clear hb14
  go_wp2_with (fail)
  have q := refSame_calls A0 c0 l0 A1 c1 l1 bs HBS.out w14 hr0 hc0 hr1 hc1 hq
  refine q.mono ?_
  clear q
  rintro e w15 ⟨rfl, hb15⟩
  replace hr0 := Kd.C_below hr0 hb15
  replace hr1 := Kd.C_below hr1 hb15
  replace hr6 := Kd.C_below hr6 hb15
  replace hCx1 := Kd.C_below hCx1 hb15
  replace hCy1 := Kd.C_below hCy1 hb15
  replace hCx2 := Kd.C_below hCx2 hb15
  replace hCy2 := Kd.C_below hCy2 hb15
  replace hCx3 := Kd.C_below hCx3 hb15
  replace hCy3 := Kd.C_below hCy3 hb15
  replace hCx4 := Kd.C_below hCx4 hb15
  replace hCy4 := Kd.C_below hCy4 hb15
  have hB15 : Below w.heap.size w w15 := hB14.trans (hb15.mono hB14.size)
  clear hb15
  go_wp2_with (fail)
  have q := refGives_calls A0 c0 l0 a4 w15 hr0 hc0 hq
  rw [HBG.out] at q
  refine q.mono ?_
  clear q
  rintro e w16 ⟨rfl, hb16⟩
  replace hr0 := Kd.C_below hr0 hb16
  replace hr1 := Kd.C_below hr1 hb16
  replace hr6 := Kd.C_below hr6 hb16
  replace hCx1 := Kd.C_below hCx1 hb16
  replace hCy1 := Kd.C_below hCy1 hb16
  replace hCx2 := Kd.C_below hCx2 hb16
  replace hCy2 := Kd.C_below hCy2 hb16
  replace hCx3 := Kd.C_below hCx3 hb16
  replace hCy3 := Kd.C_below hCy3 hb16
  replace hCx4 := Kd.C_below hCx4 hb16
  replace hCy4 := Kd.C_below hCy4 hb16
  have hB16 : Below w.heap.size w w16 := hB15.trans (hb16.mono hB15.size)
  clear hb16
  go_wp2_with (fail)
  have q := may_calls A0 c0 l0 a2 w16 hr0 hc0
  rw [HBM.out] at q
  refine q.mono ?_
  clear q
  rintro e w17 ⟨rfl, hb17⟩
  replace hr0 := Kd.C_below hr0 hb17
  replace hr1 := Kd.C_below hr1 hb17
  replace hr6 := Kd.C_below hr6 hb17
  replace hCx1 := Kd.C_below hCx1 hb17
  replace hCy1 := Kd.C_below hCy1 hb17
  replace hCx2 := Kd.C_below hCx2 hb17
  replace hCy2 := Kd.C_below hCy2 hb17
  replace hCx3 := Kd.C_below hCx3 hb17
  replace hCy3 := Kd.C_below hCy3 hb17
  replace hCx4 := Kd.C_below hCx4 hb17
  replace hCy4 := Kd.C_below hCy4 hb17
  have hB17 : Below w.heap.size w w17 := hB16.trans (hb17.mono hB16.size)
  clear hb17
  go_wp2_with (fail)
  have q := same_calls A0 c0 l0 A1 c1 l1 bs HBS.out w17 hr0 hc0 hr1 hc1 (by omega)
  refine q.mono ?_
  clear q
  rintro e w18 ⟨rfl, hb18⟩
  replace hr0 := Kd.C_below hr0 hb18
  replace hr1 := Kd.C_below hr1 hb18
  replace hr6 := Kd.C_below hr6 hb18
  replace hCx1 := Kd.C_below hCx1 hb18
  replace hCy1 := Kd.C_below hCy1 hb18
  replace hCx2 := Kd.C_below hCx2 hb18
  replace hCy2 := Kd.C_below hCy2 hb18
  replace hCx3 := Kd.C_below hCx3 hb18
  replace hCy3 := Kd.C_below hCy3 hb18
  replace hCx4 := Kd.C_below hCx4 hb18
  replace hCy4 := Kd.C_below hCy4 hb18
  have hB18 : Below w.heap.size w w18 := hB17.trans (hb18.mono hB17.size)
  clear hb18
  go_wp2_with (fail)
  have q := of_calls A0 c0 l0 a4 w18 hr0 hc0
  refine q.mono ?_
  clear q
  rintro e w19 ⟨rfl, hb19⟩
  replace hr0 := Kd.C_below hr0 hb19
  replace hr1 := Kd.C_below hr1 hb19
  replace hr6 := Kd.C_below hr6 hb19
  replace hCx1 := Kd.C_below hCx1 hb19
  replace hCy1 := Kd.C_below hCy1 hb19
  replace hCx2 := Kd.C_below hCx2 hb19
  replace hCy2 := Kd.C_below hCy2 hb19
  replace hCx3 := Kd.C_below hCx3 hb19
  replace hCy3 := Kd.C_below hCy3 hb19
  replace hCx4 := Kd.C_below hCx4 hb19
  replace hCy4 := Kd.C_below hCy4 hb19
  have hB19 : Below w.heap.size w w19 := hB18.trans (hb19.mono hB18.size)
  clear hb19
  go_wp2_with (fail)
  have q := refOf_calls A0 c0 l0 a4 w19 hr0 hc0 hq
  refine q.mono ?_
  clear q
  rintro e w20 ⟨rfl, hb20⟩
  replace hr0 := Kd.C_below hr0 hb20
  replace hr1 := Kd.C_below hr1 hb20
  replace hr6 := Kd.C_below hr6 hb20
  replace hCx1 := Kd.C_below hCx1 hb20
  replace hCy1 := Kd.C_below hCy1 hb20
  replace hCx2 := Kd.C_below hCx2 hb20
  replace hCy2 := Kd.C_below hCy2 hb20
  replace hCx3 := Kd.C_below hCx3 hb20
  replace hCy3 := Kd.C_below hCy3 hb20
  replace hCx4 := Kd.C_below hCx4 hb20
  replace hCy4 := Kd.C_below hCy4 hb20
  have hB20 : Below w.heap.size w w20 := hB19.trans (hb20.mono hB19.size)
  clear hb20
  generalize ofP l0 a4 = io at *
  go_wp2_with (fail)
  have q := gives_calls A0 c0 l0 a4 w20 hr0 hc0
  rw [HBG.out] at q
  refine q.mono ?_
  clear q
  rintro e w21 ⟨rfl, hb21⟩
  replace hr0 := Kd.C_below hr0 hb21
  replace hr1 := Kd.C_below hr1 hb21
  replace hr6 := Kd.C_below hr6 hb21
  replace hCx1 := Kd.C_below hCx1 hb21
  replace hCy1 := Kd.C_below hCy1 hb21
  replace hCx2 := Kd.C_below hCx2 hb21
  replace hCy2 := Kd.C_below hCy2 hb21
  replace hCx3 := Kd.C_below hCx3 hb21
  replace hCy3 := Kd.C_below hCy3 hb21
  replace hCx4 := Kd.C_below hCx4 hb21
  replace hCy4 := Kd.C_below hCy4 hb21
  have hB21 : Below w.heap.size w w21 := hB20.trans (hb21.mono hB20.size)
  clear hb21
  go_wp2_with (fail)
  go_ret
  exact ⟨rfl, hB21⟩

set_option maxRecDepth 100000 in
set_option maxHeartbeats 8000000 in
theorem poolTells_walk (a0 : Option Addr) (cap0 : Nat) (l0 : List Pl) (a1 : Option Addr) (cap1 : Nat) (l1 : List Pl) (a2 : Int) (a3 : Int) (a4 : Int) (a5 : Int) (a6 : Option Addr) (len6 cap6 : Nat) (z6 : List Int) (w : World)
    (hR0 : Kd.C kP w a0 l0.length l0) (hc0 : l0.length ≤ cap0)
    (hR1 : Kd.C kP w a1 l1.length l1) (hc1 : l1.length ≤ cap1)
    (w2 : (Lit.int .i64 a2).wf = true)
    (w3 : (Lit.int .i64 a3).wf = true)
    (w4 : (Lit.int .i64 a4).wf = true)
    (w5 : (Lit.int .i64 a5).wf = true)
    (w6 : (a6 = none ∧ len6 = 0 ∧ cap6 = 0 ∧ z6 = []) ∨ ∃ x, a6 = some x ∧ len6 ≤ cap6 ∧ cap6 ≤ maxLen ∧ z6.length = cap6 ∧ (∀ i, i < z6.length → w.cell? (x.add i) = some (.int .i64 (z6.getD i 0))) ∧ ∀ n ∈ z6, (Lit.int .i64 n).wf = true) (y6 : len6 * 8 ≤ 140737488351232) :
    Calls Try.prog 6 #[.slice a0 l0.length cap0, .slice a1 l1.length cap1, .int .i64 a2, .int .i64 a3, .int .i64 a4, .int .i64 a5, .slice a6 len6 cap6] w fun e w' => e = .returned (.bool true) ∧ Below w.heap.size w w' := by
  obtain ⟨l6, rfl, hr6, hm6, hw6, hc6⟩ := ReadsInt.ofRowC w6
  have hR6 : Kd.C (Kd.int .i64) w a6 l6.length l6 := Kd.C_of_reads (d := (0 : Int)) (h1 := fun _ => rfl) hr6
  clear w6 hr6
  unfold maxLen at hm6
  by_cases g0 : l0.length ≤ 6
  · skip
    by_cases g1 : l1.length ≤ 6
    · skip
      by_cases g2 : l6.length ≤ 40
      · skip
        exact poolTells_calls a0 cap0 l0 a1 cap1 l1 a2 a3 a4 a5 a6 cap6 l6 w hR0 hc0 hR1 hc1 w2 w3 w4 w5 hR6 hc6 g0 g1 g2
      · have k0 : ¬ ((6 : Int) < (l0.length : Int)) := by omega
        have k1 : ¬ ((6 : Int) < (l1.length : Int)) := by omega
        have k6 : (40 : Int) < (l6.length : Int) := by omega
        go_enter Try.func6, Try.ntmps6
        go_wp2_with (fail)
        refine (awake_true w).mono ?_
        rintro e w1 ⟨rfl, hb1⟩
        go_wp2_with (fail)
        go_ret
        exact ⟨rfl, hb1⟩
    · have k0 : ¬ ((6 : Int) < (l0.length : Int)) := by omega
      have k1 : (6 : Int) < (l1.length : Int) := by omega
      go_enter Try.func6, Try.ntmps6
      go_wp2_with (fail)
      refine (awake_true w).mono ?_
      rintro e w1 ⟨rfl, hb1⟩
      go_wp2_with (fail)
      go_ret
      exact ⟨rfl, hb1⟩
  · have k0 : (6 : Int) < (l0.length : Int) := by omega
    go_enter Try.func6, Try.ntmps6
    go_wp2_with (fail)
    refine (awake_true w).mono ?_
    rintro e w1 ⟨rfl, hb1⟩
    go_wp2_with (fail)
    go_ret
    exact ⟨rfl, hb1⟩

end Go.Proofs.Ytajofhjlkaenhaa.H
