import Derived.Test.YtegcphdlkheboaaCrcAw
import Derived.Deep.RegionHeld
import Derived.OpenShut
/-! The law CrcBurst, walked. -/
namespace Go.Proofs.Ytegcphdlkheboaa.H
open Go.RowKit Moor Go.Proofs.YtegcphdlkheboaaW.PrintWords Go.Proofs.YtegcphdlkheboaaW.PrintLast Go.Proofs.YtegcphdlkheboaaW.PrintMore
set_option linter.unusedVariables false
set_option linter.unusedSimpArgs false

theorem below_onBurst {w8 W0 W1 : World} (h : Below W0.heap.size W0 W1) (g : Below w8.heap.size w8 W0) : Below w8.heap.size w8 W1 := g.trans (h.mono g.size)

theorem bounds_u32b {n : Int} (h : (Lit.int .u32 n).wf = true) : 0 ≤ n ∧ n ≤ 4294967295 := by
  simp [Lit.wf, IntKind.min, IntKind.max, IntKind.signed, IntKind.bits] at h
  omega
set_option maxRecDepth 100000 in
set_option maxHeartbeats 8000000 in
theorem crcBurst_calls (A0 : Option Addr) (c0 : Nat) (l0 : List Int) (a1 : Int) (a2 : Int) (w : World) (hr0 : Kd.C (Kd.int .u8) w A0 l0.length l0) (hc0 : l0.length ≤ c0) (ho0 : okB l0) (hw1 : (Lit.int .i64 a1).wf = true) (hw2 : (Lit.int .u32 a2).wf = true) (g0 : l0.length ≤ 300) (g1 : 0 ≤ a1) (g2 : a1 ≤ 2400) :
    Calls Try.prog 5 #[.slice A0 l0.length c0, .int .i64 a1, .int .u32 a2] w fun e w' => e = .returned (.bool true) ∧ Below w.heap.size w w' := by
  have k0 : ¬ ((300 : Int) < (l0.length : Int)) := by omega
  have ka : ¬ (a1 < 0) := by omega
  have kb : ¬ ((2400 : Int) < a1) := by omega
  have hs0 : 0 ≤ a2 := (bounds_u32b hw2).1
  have hs1 : a2 ≤ 4294967295 := (bounds_u32b hw2).2
  have ht1 := turned_tells l0 a1 a2 ho0 (by omega) (by omega) (by omega) hs0 (by omega)
  have hb1 := turn_burst l0 a1.toNat a2.toNat ho0
  have hsl := cSeal_length l0
  have hso := cSeal_ok ho0
  have hsp := cOpen_seal l0
  generalize hs : cSeal l0 = s at *
  have ht2 := turned_tells s a1 a2 hso (by omega) (by omega) (by omega) hs0 (by omega)
  have hb2 := turn_burst s a1.toNat a2.toNat hso
  generalize turn l0 a1.toNat a2.toNat = x at *
  generalize turn s a1.toNat a2.toNat = y at *
  have hxl : x.length = l0.length := hb1.1.1
  have hyl : y.length = s.length := hb2.1.1
  have hox : okB x := hb1.2
  have hoy : okB y := hb2.2
  have e1 : (cSum x == cSum l0) = decide (x = l0) := by
    rw [Bool.eq_iff_iff]
    simp only [beq_iff_eq, decide_eq_true_eq]
    exact ⟨fun h => burst_roll hb1.1 hox ho0 (cSum_inj.1 h), fun h => by rw [h]⟩
  have e2 : ((strOfNums x).toList == (strOfNums l0).toList) = decide (x = l0) := str_eq hox ho0
  have e3 : (cOpen y).2 = decide (y = s) := by
    rw [Bool.eq_iff_iff]
    simp only [decide_eq_true_eq]
    exact burst_open hb2.1 hoy hso (by rw [hsp])
  have e4 : ((strOfNums y).toList == (strOfNums s).toList) = decide (y = s) := str_eq hoy hso
  generalize decide (x = l0) = p at *
  generalize decide (y = s) = q at *
  have HT1 := Lib.hid ht1
  have HT2 := Lib.hid ht2
  have HS := Lib.hid hs
  have E1 := Lib.hid e1
  have E2 := Lib.hid e2
  have E3 := Lib.hid e3
  have E4 := Lib.hid e4
  have hxl' : x.length ≤ 300 := by omega
  have hyl' : y.length ≤ 304 := by omega
  have hsl' : s.length ≤ 304 := by omega
  clear ht1 ht2 hs e1 e2 e3 e4 hb1 hb2 hsp hsl hxl hyl
  go_enter Try.func5, Try.ntmps5
  go_wp2_with (fail)
  refine (awake_true w).mono ?_
  rintro e w1 ⟨rfl, hb1⟩
  have hB1 : Below w.heap.size w w1 := hb1
  go_wp2_with (fail)
  refine (B.mooringslaw04_turned.calls 40 A0 c0 l0 a1 a2 x w1 (Kd.C_below hr0 hB1) hc0 HT1.out).mono ?_
  rintro e w2 ⟨v2, rfl, hR2, hb2⟩
  have hB2 : Below w.heap.size w w2 := hB1.trans (hb2.mono hB1.size)
  obtain ⟨A2, c2, rfl, hc2, hC2⟩ := Kd.R_reads hR2
  go_wp2_with (fail)
  have qs := seal_calls A0 c0 l0 w2 (Kd.C_below hr0 hB2) hc0 ho0 (by omega)
  rw [HS.out] at qs
  refine qs.mono ?_
  rintro e w3 ⟨v3, rfl, hR3, hb3⟩
  have hB3 : Below w.heap.size w w3 := hB2.trans (hb3.mono hB2.size)
  obtain ⟨A3, c3, rfl, hc3, hC3⟩ := Kd.R_reads hR3
  replace hC2 := Kd.C_below hC2 hb3
  go_wp2_with (fail)
  refine (B.mooringslaw04_turned.calls 40 A3 c3 s a1 a2 y w3 hC3 hc3 HT2.out).mono ?_
  rintro e w4 ⟨v4, rfl, hR4, hb4⟩
  have hB4 : Below w.heap.size w w4 := hB3.trans (hb4.mono hB3.size)
  obtain ⟨A4, c4, rfl, hc4, hC4⟩ := Kd.R_reads hR4
  replace hC2 := Kd.C_below hC2 hb4
  replace hC3 := Kd.C_below hC3 hb4
  go_wp2_with (fail)
  refine (open_calls A4 c4 y w4 hC4 hc4 hoy (by omega)).mono ?_
  rintro e w5 ⟨v5, rfl, hR5, hb5⟩
  have hB5 : Below w.heap.size w w5 := hB4.trans (hb5.mono hB4.size)
  replace hC2 := Kd.C_below hC2 hb5
  replace hC3 := Kd.C_below hC3 hb5
  replace hC4 := Kd.C_below hC4 hb5
  have hC0 := Kd.C_below hr0 hB5
  rw [E3.out]
  clear qs hR2 hR3 hR4 hR5 hb2 hb3 hb4 hb5 hr0
  go_wp2_with (fail)
  have HK := Lib.hid (show ∀ W, Below w5.heap.size w5 W → Kd.C (Kd.int .u8) W A0 l0.length l0 from fun W h => Kd.C_below hC0 h)
  have HX := Lib.hid (show ∀ W, Below w5.heap.size w5 W → Kd.C (Kd.int .u8) W A2 x.length x from fun W h => Kd.C_below hC2 h)
  have HSS := Lib.hid (show ∀ W, Below w5.heap.size w5 W → Below w5.heap.size w5 W ∧ Sem.run Try.prog (convert 22 9 (Value.slice A2 x.length c2)) W = Result.ok (Value.string (strOfNums x)) W ∧ Sem.run Try.prog (convert 22 9 (Value.slice A0 l0.length c0)) W = Result.ok (Value.string (strOfNums l0)) W ∧ Sem.run Try.prog (convert 22 9 (Value.slice A4 y.length c4)) W = Result.ok (Value.string (strOfNums y)) W ∧ Sem.run Try.prog (convert 22 9 (Value.slice A3 s.length c3)) W = Result.ok (Value.string (strOfNums s)) W from fun W h => ⟨h, Kd.C_string (P := Try.prog) (c := c2) Try.underlying22 Try.underlying5 Try.underlying9 (Kd.C_below hC2 h), Kd.C_string (P := Try.prog) (c := c0) Try.underlying22 Try.underlying5 Try.underlying9 (Kd.C_below hC0 h), Kd.C_string (P := Try.prog) (c := c4) Try.underlying22 Try.underlying5 Try.underlying9 (Kd.C_below hC4 h), Kd.C_string (P := Try.prog) (c := c3) Try.underlying22 Try.underlying5 Try.underlying9 (Kd.C_below hC3 h)⟩)
  have DR := Lib.hid (show Below w5.heap.size w5 w5.drew from (Below.refl _ w5).drew)
  clear hC0 hC2 hC3 hC4
  have e1 := E1.out
  have e2 := E2.out
  have e4 := E4.out
  go_region_held (fun W => Below w5.heap.size w5 W ∧ Sem.run Try.prog (convert 22 9 (Value.slice A2 x.length c2)) W = Result.ok (Value.string (strOfNums x)) W ∧ Sem.run Try.prog (convert 22 9 (Value.slice A0 l0.length c0)) W = Result.ok (Value.string (strOfNums l0)) W ∧ Sem.run Try.prog (convert 22 9 (Value.slice A4 y.length c4)) W = Result.ok (Value.string (strOfNums y)) W ∧ Sem.run Try.prog (convert 22 9 (Value.slice A3 s.length c3)) W = Result.ok (Value.string (strOfNums s)) W)
    (first | exact HSS.out _ DR.out | exact HSS.out _ D6 | exact HSS.out _ D7)
    (first
      | (go_at_call 12; refine (sum_calls A0 c0 l0 _ (HK.out _ D6) hc0 ho0).mono ?_; rintro e w7 ⟨rfl, hb7⟩; have D7 := below_onBurst hb7 D6)
      | (go_at_call 12; refine (sum_calls A2 c2 x _ (HX.out _ DR.out) hc2 hox).mono ?_; rintro e w6 ⟨rfl, hb6⟩; have D6 := below_onBurst hb6 DR.out))
  all_goals
    go_wp2_with (fail)
    go_ret
    exact ⟨by simp, hB5.trans (D7.mono hB5.size)⟩

theorem crcBurst_walk (a0 : Option Addr) (len0 cap0 : Nat) (z0 : List Int) (a1 : Int) (a2 : Int) (w : World)
    (w0 : (a0 = none ∧ len0 = 0 ∧ cap0 = 0 ∧ z0 = []) ∨ ∃ x, a0 = some x ∧ len0 ≤ cap0 ∧ cap0 ≤ maxLen ∧ z0.length = cap0 ∧ (∀ i, i < z0.length → w.cell? (x.add i) = some (.int .u8 (z0.getD i 0))) ∧ ∀ n ∈ z0, (Lit.int .u8 n).wf = true) (y0 : len0 * 1 ≤ 140737488351232)
    (w1 : (Lit.int .i64 a1).wf = true)
    (w2 : (Lit.int .u32 a2).wf = true) :
    Calls Try.prog 5 #[.slice a0 len0 cap0, .int .i64 a1, .int .u32 a2] w fun e w' => e = .returned (.bool true) ∧ Below w.heap.size w w' := by
  obtain ⟨l0, rfl, hr0, hm0, hw0, hc0⟩ := ReadsInt.ofRowC w0
  have hR0 : Kd.C (Kd.int .u8) w a0 l0.length l0 := Kd.C_of_reads (d := (0 : Int)) (h1 := fun _ => rfl) hr0
  clear w0 hr0
  unfold maxLen at hm0
  by_cases g0 : l0.length ≤ 300
  · skip
    by_cases g1 : 0 ≤ a1
    · skip
      by_cases g2 : a1 ≤ 2400
      · skip
        exact crcBurst_calls a0 cap0 l0 a1 a2 w hR0 hc0 (okB_wf hw0) w1 w2 g0 g1 g2
      · have k0 : ¬ ((300 : Int) < (l0.length : Int)) := by omega
        have ka : ¬ (a1 < 0) := by omega
        have kb : (2400 : Int) < a1 := by omega
        go_enter Try.func5, Try.ntmps5
        go_wp2_with (fail)
        refine (awake_true w).mono ?_
        rintro e w1 ⟨rfl, hb1⟩
        go_wp2_with (fail)
        go_ret
        exact ⟨rfl, hb1⟩
    · have k0 : ¬ ((300 : Int) < (l0.length : Int)) := by omega
      have ka : a1 < 0 := by omega
      go_enter Try.func5, Try.ntmps5
      go_wp2_with (fail)
      refine (awake_true w).mono ?_
      rintro e w1 ⟨rfl, hb1⟩
      go_wp2_with (fail)
      go_ret
      exact ⟨rfl, hb1⟩
  · have k0 : (300 : Int) < (l0.length : Int) := by omega
    go_enter Try.func5, Try.ntmps5
    go_wp2_with (fail)
    refine (awake_true w).mono ?_
    rintro e w1 ⟨rfl, hb1⟩
    go_wp2_with (fail)
    go_ret
    exact ⟨rfl, hb1⟩

end Go.Proofs.Ytegcphdlkheboaa.H
