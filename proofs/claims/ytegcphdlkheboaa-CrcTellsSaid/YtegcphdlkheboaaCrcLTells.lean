import Derived.Test.YtegcphdlkheboaaCrcAw
import Derived.Deep.RegionHeld
import Derived.OpenShut
/-! The law CrcTells, walked. -/
namespace Go.Proofs.Ytegcphdlkheboaa.H
open Go.RowKit Moor Go.Proofs.YtegcphdlkheboaaW.PrintWords Go.Proofs.YtegcphdlkheboaaW.PrintLast Go.Proofs.YtegcphdlkheboaaW.PrintMore
set_option linter.unusedVariables false
set_option linter.unusedSimpArgs false

theorem below_onTells {w8 W0 W1 : World} (h : Below W0.heap.size W0 W1) (g : Below w8.heap.size w8 W0) : Below w8.heap.size w8 W1 := g.trans (h.mono g.size)

theorem bounds_u32' {n : Int} (h : (Lit.int .u32 n).wf = true) : 0 ≤ n ∧ n ≤ 4294967295 := by
  simp [Lit.wf, IntKind.min, IntKind.max, IntKind.signed, IntKind.bits] at h
  omega
set_option maxRecDepth 100000 in
set_option maxHeartbeats 8000000 in
theorem crcTells_calls (A0 : Option Addr) (c0 : Nat) (l0 : List Int) (a1 : Int) (w : World) (hr0 : Kd.C (Kd.int .u8) w A0 l0.length l0) (hc0 : l0.length ≤ c0) (ho0 : okB l0) (hw1 : (Lit.int .u32 a1).wf = true) (g0 : l0.length ≤ 600) :
    Calls Try.prog 3 #[.slice A0 l0.length c0, .int .u32 a1] w fun e w' => e = .returned (.bool true) ∧ Below w.heap.size w w' := by
  have k0 : ¬ ((600 : Int) < (l0.length : Int)) := by omega
  have hs0 : 0 ≤ a1 := (bounds_u32' hw1).1
  have hs1 : a1 ≤ 4294967295 := (bounds_u32' hw1).2
  go_enter Try.func3, Try.ntmps3
  go_wp2_with (fail)
  refine (awake_true w).mono ?_
  rintro e w1 ⟨rfl, hb1⟩
  have hB1 : Below w.heap.size w w1 := hb1
  go_wp2_with (fail)
  refine (open_calls A0 c0 l0 w1 (Kd.C_below hr0 hB1) hc0 ho0 (by omega)).mono ?_
  rintro e w2 ⟨v2, rfl, hR2, hb2⟩
  have hB2 : Below w.heap.size w w2 := hB1.trans (hb2.mono hB1.size)
  go_wp2_with (fail)
  refine (refOpen_calls A0 c0 l0 w2 (Kd.C_below hr0 hB2) hc0 ho0 (by omega)).mono ?_
  rintro e w3 ⟨v3, rfl, hR3, hb3⟩
  have hB3 : Below w.heap.size w w3 := hB2.trans (hb3.mono hB2.size)
  obtain ⟨A2, c2, rfl, hc2, hC2⟩ := Kd.R_reads (Kd.R_below hR2 hb3)
  obtain ⟨A3, c3, rfl, hc3, hC3⟩ := Kd.R_reads hR3
  have hC0 := Kd.C_below hr0 hB3
  clear hR2 hR3 hr0
  go_wp2_with (fail)
  generalize (cOpen l0).1 = x at *
  generalize (cOpen l0).2 = is at *
  have HC0 := Lib.hid hC0
  have HK := Lib.hid (show ∀ W, Below w3.heap.size w3 W → Kd.C (Kd.int .u8) W A0 l0.length l0 from fun W h => Kd.C_below hC0 h)
  have HS := Lib.hid (show ∀ W, Below w3.heap.size w3 W → Below w3.heap.size w3 W ∧ Sem.run Try.prog (convert 22 9 (Value.slice A2 x.length c2)) W = Result.ok (Value.string (strOfNums x)) W ∧ Sem.run Try.prog (convert 22 9 (Value.slice A3 x.length c3)) W = Result.ok (Value.string (strOfNums x)) W from fun W h => ⟨h, Kd.C_string (P := Try.prog) (c := c2) Try.underlying22 Try.underlying5 Try.underlying9 (Kd.C_below hC2 h), Kd.C_string (P := Try.prog) (c := c3) Try.underlying22 Try.underlying5 Try.underlying9 (Kd.C_below hC3 h)⟩)
  have DR := Lib.hid (show Below w3.heap.size w3 w3.drew from (Below.refl _ w3).drew)
  have hF1 : B.mooringsref04_Sum.f (10 * l0.length + 1) l0 = some (cSum l0) := refSum_tells l0 ho0 (by omega) _ (by omega)
  have hF2 : B.mooringsref04_More.f (10 * l0.length + 1) a1 l0 = some (cMore a1 l0) := refMore_tells a1 hs0 hs1 l0 ho0 (by omega) _ (by omega)
  have hF3 : B.mooringsref04_Seal.f (10 * l0.length + 1) l0 = some (cSeal l0) := refSeal_tells l0 ho0 (by omega) _ (by omega)
  have HF1 := Lib.hid hF1
  have HF2 := Lib.hid hF2
  have HF3 := Lib.hid hF3
  clear hC0 hC2 hC3 hF1 hF2 hF3
  go_region_held (fun W => Below w3.heap.size w3 W ∧ Sem.run Try.prog (convert 22 9 (Value.slice A2 x.length c2)) W = Result.ok (Value.string (strOfNums x)) W ∧ Sem.run Try.prog (convert 22 9 (Value.slice A3 x.length c3)) W = Result.ok (Value.string (strOfNums x)) W)
    (first | exact HS.out _ DR.out | exact HS.out _ D4 | exact HS.out _ D5 | exact HS.out _ D6 | exact HS.out _ D7 | exact HS.out _ D8 | exact HS.out _ D9)
    (first
      | (go_at_call 12; refine (sum_calls A0 c0 l0 _ (HK.out _ DR.out) hc0 ho0).mono ?_; rintro e w4 ⟨rfl, hb4⟩; have D4 := below_onTells hb4 DR.out)
      | (go_at_call 13; refine (B.mooringsref04_Sum.calls _ A0 c0 l0 _ _ (HK.out _ D4) hc0 HF1.out).mono ?_; rintro e w5 ⟨rfl, hb5⟩; have D5 := below_onTells hb5.below D4)
      | (go_at_call 14; refine (more_calls a1 A0 c0 l0 _ hs0 hs1 (HK.out _ D5) hc0 ho0).mono ?_; rintro e w6 ⟨rfl, hb6⟩; have D6 := below_onTells hb6 D5)
      | (go_at_call 15; refine (B.mooringsref04_More.calls _ a1 A0 c0 l0 _ _ (HK.out _ D6) hc0 HF2.out).mono ?_; rintro e w7 ⟨rfl, hb7⟩; have D7 := below_onTells hb7.below D6)
      | (go_at_call 16; refine (seal_calls A0 c0 l0 _ (HK.out _ D7) hc0 ho0 (by omega)).mono ?_; rintro e w8 ⟨v8, rfl, hR8, hb8⟩; obtain ⟨A8, c8, rfl, hc8, hC8⟩ := Kd.R_reads hR8; have hcv8 := Kd.C_string (P := Try.prog) (c := c8) Try.underlying22 Try.underlying5 Try.underlying9 hC8; have D8 := below_onTells hb8 D7)
      | (go_at_call 17; refine (B.mooringsref04_Seal.calls _ A0 c0 l0 _ _ (HK.out _ D8) hc0 HF3.out).mono ?_; rintro e w9 ⟨v9, rfl, hR9, hb9⟩; obtain ⟨A9, c9, rfl, hc9, hC9⟩ := Kd.R_reads hR9; have hcv9 := Kd.C_string (P := Try.prog) (c := c9) Try.underlying22 Try.underlying5 Try.underlying9 hC9; have hcv89 := Kd.C_string (P := Try.prog) (c := c8) Try.underlying22 Try.underlying5 Try.underlying9 (Kd.C_below hC8 hb9); have D9 := below_onTells hb9 D8))
  all_goals
    go_wp2_with (fail)
    go_ret
    exact ⟨rfl, hB3.trans (D9.mono hB3.size)⟩

theorem crcTells_walk (a0 : Option Addr) (len0 cap0 : Nat) (z0 : List Int) (a1 : Int) (w : World)
    (w0 : (a0 = none ∧ len0 = 0 ∧ cap0 = 0 ∧ z0 = []) ∨ ∃ x, a0 = some x ∧ len0 ≤ cap0 ∧ cap0 ≤ maxLen ∧ z0.length = cap0 ∧ (∀ i, i < z0.length → w.cell? (x.add i) = some (.int .u8 (z0.getD i 0))) ∧ ∀ n ∈ z0, (Lit.int .u8 n).wf = true) (y0 : len0 * 1 ≤ 140737488351232)
    (w1 : (Lit.int .u32 a1).wf = true) :
    Calls Try.prog 3 #[.slice a0 len0 cap0, .int .u32 a1] w fun e w' => e = .returned (.bool true) ∧ Below w.heap.size w w' := by
  obtain ⟨l0, rfl, hr0, hm0, hw0, hc0⟩ := ReadsInt.ofRowC w0
  have hR0 : Kd.C (Kd.int .u8) w a0 l0.length l0 := Kd.C_of_reads (d := (0 : Int)) (h1 := fun _ => rfl) hr0
  clear w0 hr0
  unfold maxLen at hm0
  by_cases g0 : l0.length ≤ 600
  · skip
    exact crcTells_calls a0 cap0 l0 a1 w hR0 hc0 (okB_wf hw0) w1 g0
  · have k0 : (600 : Int) < (l0.length : Int) := by omega
    go_enter Try.func3, Try.ntmps3
    go_wp2_with (fail)
    refine (awake_true w).mono ?_
    rintro e w1 ⟨rfl, hb1⟩
    go_wp2_with (fail)
    go_ret
    exact ⟨rfl, hb1⟩

end Go.Proofs.Ytegcphdlkheboaa.H
