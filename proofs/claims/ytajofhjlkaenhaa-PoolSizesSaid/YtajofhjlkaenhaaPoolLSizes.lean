import Derived.Test.YtajofhjlkaenhaaPoolM
import Derived.Deep.RegionHeld
import Derived.Deep.QuietTactic
import Derived.BigQuiet
import Derived.OpenShut
import Derived.Test.YtajofhjlkaenhaaPoolS
/-! The law PoolSizes, walked. -/
namespace Go.Proofs.Ytajofhjlkaenhaa.H
open Go.RowKit Go.Proofs.YtajofhjlkaenhaaW.PrintWords Go.Proofs.YtajofhjlkaenhaaW.PrintLast Go.Proofs.YtajofhjlkaenhaaW.PrintMore
set_option linter.unusedVariables false
set_option linter.unusedSimpArgs false

set_option maxRecDepth 100000 in
set_option maxHeartbeats 8000000 in
theorem poolSizes_calls (A0 : Option Addr) (c0 : Nat) (l0 : List Pl) (a1 : Int) (a2 : Int) (a3 : Int) (w : World) (hr0 : Kd.C kP w A0 l0.length l0) (hc0 : l0.length ≤ c0) (hw1 : (Lit.int .i64 a1).wf = true) (hw2 : (Lit.int .i64 a2).wf = true) (hw3 : (Lit.int .i64 a3).wf = true) (g0 : l0.length ≤ 6) :
    Calls Try.prog 5 #[.slice A0 l0.length c0, .int .i64 a1, .int .i64 a2, .int .i64 a3] w fun e w' => e = .returned (.bool true) ∧ Below w.heap.size w w' := by
  have k0 : ¬ ((6 : Int) < (l0.length : Int)) := by omega
  go_enter Try.func5, Try.ntmps5
  go_wp2_with (fail)
  refine (awake_true w).mono ?_
  rintro e w1 ⟨rfl, hb1⟩
  have hB1 : Below w.heap.size w w1 := hb1
  replace hr0 := Kd.C_below hr0 hb1
  go_wp2_with (fail)
  have q := size_calls A0 c0 l0 a1 a2 a3 none 0 [] w1 hr0 hc0 (by omega) (Kd.C_nil _ _) (by simp)
  refine q.mono ?_
  clear q
  rintro e w2 ⟨A1, c1, rfl, hc1, hC1, hb2⟩
  replace hr0 := Kd.C_below hr0 hb2
  have hB2 : Below w.heap.size w w2 := hB1.trans (hb2.mono hB1.size)
  clear hb2
  have HE := Lib.hid (fun h => sizeR_err (out := a1) (k := a2) (n := a3) (b := []) (l := l0) h)
  have HK := Lib.hid (fun h => sizes_ok (out := a1) (k := a2) (n := a3) (l := l0) h)
  generalize (sizeR a1 a2 a3 [] l0).1 = x1 at *
  generalize (sizeR a1 a2 a3 [] l0).2 = e1 at *
  by_cases h1 : e1 = 0
  · skip
    obtain ⟨d1, d2, d3, d4, d5⟩ := HK.out h1
    subst h1
    obtain ⟨kk, rfl⟩ := Int.eq_ofNat_of_zero_le d1
    have hk0 : kk < l0.length := by omega
    have hk1 : kk < x1.length := by omega
    have hi1 : (kk : Int) < (x1.length : Int) := by omega
    rw [getP_nat l0 kk hk0] at d4 d5
    rw [getP_nat x1 kk hk1] at d4
    obtain ⟨ad1, rfl, y0, y1, y2⟩ := at_pool hC1 kk hk1
    obtain ⟨ad0, rfl, z0, z1, z2⟩ := at_pool hr0 kk hk0
    rw [d4] at y0 y1 y2
    generalize l0[kk] = p at *
    have D5 := Lib.hid d5
    have hlb : ((x1.length : Int) != (l0.length : Int)) = false := by rw [bne_eq_false_iff_eq]; omega
    have hl6 : x1.length ≤ 6 := by omega
    clear HE HK d4 d5 d3
    dsimp only at y0 y1 y2
    go_wp2_with (fail)
    go_quiet (fail)
    have hdn := drewB (Below.refl w2.heap.size w2) nq
    replace hC1 := Kd.C_below hC1 hdn
    replace hr0 := Kd.C_below hr0 hdn
    replace hB2 := drewB hB2 nq
    clear hdn
    go_wp2_with (fail)
    have q := size_calls (some ad1) c1 x1 a1 kk p.f1 none 0 [] (w2.drewN nq) hC1 hc1 (by omega) (Kd.C_nil _ _) (by simp)
    rw [D5.out] at q
    refine q.mono ?_
    clear q
    rintro e w3 ⟨A2, c2, rfl, hc2, hC2, hb3⟩
    replace hr0 := Kd.C_below hr0 hb3
    replace hC1 := Kd.C_below hC1 hb3
    have hB3 : Below w.heap.size w w3 := hB2.trans (hb3.mono hB2.size)
    clear hb3
    dsimp only at hc2 hC2 ⊢
    go_wp2_with (fail)
    have q := same_calls A2 c2 l0 (some ad0) c0 l0 true (decide_eq_true rfl) w3 hC2 hc2 hr0 hc0 (by omega)
    refine q.mono ?_
    clear q
    rintro e w4 ⟨rfl, hb4⟩
    replace hr0 := Kd.C_below hr0 hb4
    replace hC1 := Kd.C_below hC1 hb4
    replace hC2 := Kd.C_below hC2 hb4
    have hB4 : Below w.heap.size w w4 := hB3.trans (hb4.mono hB3.size)
    clear hb4
    go_wp2_with (fail)
    go_ret
    exact ⟨rfl, hB4⟩
  · skip
    have hb0 : (e1 != 0) = true := by simpa using h1
    have hx := Lib.hid (HE.out h1)
    have H1 := Lib.hid h1
    clear h1
    go_wp2_with (fail)
    have q := same_calls A1 c1 x1 A0 c0 l0 true (decide_eq_true hx.out) w2 hC1 hc1 hr0 hc0 (by rw [hx.out]; omega)
    refine q.mono ?_
    clear q
    rintro e w3 ⟨rfl, hb3⟩
    replace hr0 := Kd.C_below hr0 hb3
    replace hC1 := Kd.C_below hC1 hb3
    have hB3 : Below w.heap.size w w3 := hB2.trans (hb3.mono hB2.size)
    clear hb3
    clear hx
    go_wp2_with (fail)
    go_ret
    exact ⟨rfl, hB3⟩

theorem poolSizes_walk (a0 : Option Addr) (cap0 : Nat) (l0 : List Pl) (a1 : Int) (a2 : Int) (a3 : Int) (w : World)
    (hR0 : Kd.C kP w a0 l0.length l0) (hc0 : l0.length ≤ cap0)
    (w1 : (Lit.int .i64 a1).wf = true)
    (w2 : (Lit.int .i64 a2).wf = true)
    (w3 : (Lit.int .i64 a3).wf = true) :
    Calls Try.prog 5 #[.slice a0 l0.length cap0, .int .i64 a1, .int .i64 a2, .int .i64 a3] w fun e w' => e = .returned (.bool true) ∧ Below w.heap.size w w' := by
  by_cases g0 : l0.length ≤ 6
  · skip
    exact poolSizes_calls a0 cap0 l0 a1 a2 a3 w hR0 hc0 w1 w2 w3 g0
  · have k0 : (6 : Int) < (l0.length : Int) := by omega
    go_enter Try.func5, Try.ntmps5
    go_wp2_with (fail)
    refine (awake_true w).mono ?_
    rintro e w1 ⟨rfl, hb1⟩
    go_wp2_with (fail)
    go_ret
    exact ⟨rfl, hb1⟩

end Go.Proofs.Ytajofhjlkaenhaa.H
