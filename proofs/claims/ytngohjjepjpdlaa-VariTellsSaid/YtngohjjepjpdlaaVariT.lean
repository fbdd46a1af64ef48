import Derived.Test.YtngohjjepjpdlaaVariAw
import Derived.Test.YtngohjjepjpdlaaStr
import Derived.Deep.RegionHeld
import Derived.Outline
/-! The law VariTells, walked: both sides give the same plain answers. -/
namespace Go.Proofs.Ytngohjjepjpdlaa.H
open Go.RowKit Moor Go.Proofs.YtngohjjepjpdlaaW.PrintWords Go.Proofs.YtngohjjepjpdlaaW.PrintLast Go.Proofs.YtngohjjepjpdlaaW.PrintMore
set_option linter.unusedVariables false
set_option linter.unusedSimpArgs false

theorem below_on {w8 W0 W1 : World} (h : Below W0.heap.size W0 W1) (g : Below w8.heap.size w8 W0) : Below w8.heap.size w8 W1 := g.trans (h.mono g.size)

set_option maxRecDepth 100000 in
set_option maxHeartbeats 8000000 in
theorem tells_calls (n : Int) (A1 : Option Addr) (c1 : Nat) (l1 : List Int) (a2 : Int) (A3 : Option Addr) (c3 : Nat) (l3 : List Int) (w : World)
    (hr1 : Kd.C (Kd.int .u8) w A1 l1.length l1) (hc1 : l1.length ≤ c1) (ho1 : okB l1) (hr3 : Kd.C (Kd.int .i64) w A3 l3.length l3) (hc3 : l3.length ≤ c3) (h1 : l1.length ≤ 500) (h3 : l3.length ≤ 500) :
    Calls Try.prog 3 #[.int .i64 n, .slice A1 l1.length c1, .int .i64 a2, .slice A3 l3.length c3] w fun e w' => e = .returned (.bool true) ∧ Below w.heap.size w w' := by
  have g1 : ¬ ((500 : Int) < (l1.length : Int)) := by omega
  have g3 : ¬ ((500 : Int) < (l3.length : Int)) := by omega
  go_enter Try.func3, Try.ntmps3
  go_wp2_with (fail)
  refine (awake_true w).mono ?_
  rintro e w1 ⟨rfl, hb1⟩
  go_wp2_with (fail)
  refine (vari_Get.calls A1 c1 l1 a2 (vGet l1 a2).1 (vGet l1 a2).2 w1 (Kd.C_below hr1 hb1) hc1 (by unfold vari_Get.f; rw [if_pos ⟨ho1, by omega⟩])).mono ?_
  rintro e w2 ⟨rfl, hb2⟩
  have hB2 : Below w.heap.size w w2 := hb1.trans (hb2.mono hb1.size)
  go_wp2_with (fail)
  refine (mooringsref01_Get.calls A1 c1 l1 a2 (vGet l1 a2).1 (vGet l1 a2).2 w2 (Kd.C_below hr1 hB2) hc1 (by unfold mooringsref01_Get.f; rw [if_pos ⟨ho1, by omega⟩])).mono ?_
  rintro e w3 ⟨rfl, hb3⟩
  have hB3 : Below w.heap.size w w3 := hB2.trans (hb3.mono hB2.size)
  go_wp2_with (fail)
  refine (vari_All.calls A3 c3 l3 (vAll l3).1 (vAll l3).2 w3 (Kd.C_below hr3 hB3) hc3 rfl).mono ?_
  rintro e w4 ⟨v4, rfl, hR4, hb4⟩
  have hB4 : Below w.heap.size w w4 := hB3.trans (hb4.mono hB3.size)
  go_wp2_with (fail)
  refine (mooringsref01_All.calls A3 c3 l3 (vAll l3).1 (vAll l3).2 w4 (Kd.C_below hr3 hB4) hc3 rfl).mono ?_
  rintro e w5 ⟨v5, rfl, hR5, hb5⟩
  have hB5 : Below w.heap.size w w5 := hB4.trans (hb5.mono hB4.size)
  have hR45 := Kd.R_below hR4 hb5
  go_wp2_with (fail)
  refine (vari_Read.calls A1 c1 l1 (vRead l1).1 (vRead l1).2 w5 (Kd.C_below hr1 hB5) hc1 (by unfold vari_Read.f; rw [if_pos ⟨ho1, by omega⟩])).mono ?_
  rintro e w6 ⟨v6, rfl, hR6, hb6⟩
  have hB6 : Below w.heap.size w w6 := hB5.trans (hb6.mono hB5.size)
  go_wp2_with (fail)
  refine (mooringsref01_Read.calls A1 c1 l1 (vRead l1).1 (vRead l1).2 w6 (Kd.C_below hr1 hB6) hc1 (by unfold mooringsref01_Read.f; rw [if_pos ⟨ho1, by omega⟩])).mono ?_
  rintro e w7 ⟨v7, rfl, hR7, hb7⟩
  have hB7 : Below w.heap.size w w7 := hB6.trans (hb7.mono hB6.size)
  obtain ⟨A6, d6, rfl, hd6, hC6⟩ := Kd.R_reads (Kd.R_below hR6 hb7)
  obtain ⟨A7, d7, rfl, hd7, hC7⟩ := Kd.R_reads hR7
  have hrl := vRead_le l1
  go_wp2_with (fail)
  refine (mooringsref01_Ints.calls A6 d6 (vRead l1).1 A7 d7 (vRead l1).1 true w7 hC6 hd6 hC7 hd7 (by unfold mooringsref01_Ints.f; rw [if_pos (by omega)]; simp)).mono ?_
  rintro e w8 ⟨rfl, hb8⟩
  have hB8 : Below w.heap.size w w8 := hB7.trans (hb8.mono hB7.size)
  have hb58 : Below w5.heap.size w5 w8 := hb6.trans ((hb7.trans (hb8.mono hb7.size)).mono hb6.size)
  obtain ⟨A4, d4, rfl, hd4, hC4⟩ := Kd.R_reads (Kd.R_below hR45 hb58)
  obtain ⟨A5, d5, rfl, hd5, hC5⟩ := Kd.R_reads (Kd.R_below hR5 hb58)
  clear hR4 hR5 hR45 hR6 hR7 hC6 hC7 hr1 hr3 g1 g3
  go_wp2_with (fail)
  generalize (vAll l3).1 = x3 at *
  generalize (vAll l3).2 = y3 at *
  generalize (vRead l1).2 = y1 at *
  generalize (vGet l1 a2).1 = m1 at *
  generalize (vGet l1 a2).2 = m2 at *
  obtain ⟨q, hq⟩ : ∃ q, vPut n = q := ⟨_, rfl⟩
  have hf1 : vari_Put.f n = some q := by rw [← hq]; rfl
  have hf2 : mooringsref01_Put.f n = some q := by rw [← hq]; rfl
  have HF1 := Lib.hid hf1
  have HF2 := Lib.hid hf2
  clear hq hf1 hf2
  have hk : ∀ W, Below w8.heap.size w8 W → Below w8.heap.size w8 W ∧ Sem.run Try.prog (convert 22 9 (Value.slice A4 x3.length d4)) W = Result.ok (Value.string (strOfNums x3)) W ∧ Sem.run Try.prog (convert 22 9 (Value.slice A5 x3.length d5)) W = Result.ok (Value.string (strOfNums x3)) W := fun W h =>
    ⟨h, Kd.C_string (P := Try.prog) (c := d4) Try.underlying22 Try.underlying5 Try.underlying9 (Kd.C_below hC4 h), Kd.C_string (P := Try.prog) (c := d5) Try.underlying22 Try.underlying5 Try.underlying9 (Kd.C_below hC5 h)⟩
  have HK := Lib.hid hk
  have DR := Lib.hid (show Below w8.heap.size w8 w8.drew from (Below.refl _ w8).drew)
  clear hk hC4 hC5
  go_region_held (fun W => Below w8.heap.size w8 W ∧ Sem.run Try.prog (convert 22 9 (Value.slice A4 x3.length d4)) W = Result.ok (Value.string (strOfNums x3)) W ∧ Sem.run Try.prog (convert 22 9 (Value.slice A5 x3.length d5)) W = Result.ok (Value.string (strOfNums x3)) W)
    (first
      | exact HK.out _ DR.out
      | exact HK.out _ (below_on hq1 DR.out)
      | exact HK.out _ (below_on hq2 DR.out)
      | exact HK.out _ (below_on hq2 (below_on hq1 DR.out))
      | exact HK.out _ (below_on hq1 (below_on hq2 DR.out)))
    (first
      | (go_at_call 17; refine (vari_Put.calls n q _ HF1.out).mono ?_; rintro e W1 ⟨v1, rfl, hP1, hq1⟩; obtain ⟨P1, p1, rfl, _, hD1⟩ := Kd.R_reads hP1; have hcvp := Kd.C_string (P := Try.prog) (c := p1) Try.underlying22 Try.underlying5 Try.underlying9 hD1; (try have hcvq1 := Kd.C_string (P := Try.prog) (c := p2) Try.underlying22 Try.underlying5 Try.underlying9 (Kd.C_below hD2 hq1)))
      | (go_at_call 18; refine (mooringsref01_Put.calls n q _ HF2.out).mono ?_; rintro e W2 ⟨v2, rfl, hP2, hq2⟩; obtain ⟨P2, p2, rfl, _, hD2⟩ := Kd.R_reads hP2; have hcvq := Kd.C_string (P := Try.prog) (c := p2) Try.underlying22 Try.underlying5 Try.underlying9 hD2; (try have hcvp2 := Kd.C_string (P := Try.prog) (c := p1) Try.underlying22 Try.underlying5 Try.underlying9 (Kd.C_below hD1 hq2))))
  all_goals
    go_wp2_with (fail)
    go_ret
    first
      | exact ⟨rfl, hB8.trans ((below_on hq2 (below_on hq1 DR.out)).mono hB8.size)⟩
      | exact ⟨rfl, hB8.trans ((below_on hq1 (below_on hq2 DR.out)).mono hB8.size)⟩

/-CUT
  all_goals
    go_wp2_with (fail)
    go_ret
    exact ⟨rfl, hB8.trans (((((Below.refl _ w8).drew).trans (hq1.mono (Nat.le_refl _))).trans (hq2.mono hq1.size)).mono hB8.size)⟩

-/

theorem variTells_walk (n : Int) (a1 : Option Addr) (len1 cap1 : Nat) (z1 : List Int) (a2 : Int) (a3 : Option Addr) (len3 cap3 : Nat) (z3 : List Int) (w : World)
    (w0 : (Lit.int .i64 n).wf = true)
    (w1 : (a1 = none ∧ len1 = 0 ∧ cap1 = 0 ∧ z1 = []) ∨ ∃ x, a1 = some x ∧ len1 ≤ cap1 ∧ cap1 ≤ maxLen ∧ z1.length = cap1 ∧ (∀ i, i < z1.length → w.cell? (x.add i) = some (.int .u8 (z1.getD i 0))) ∧ ∀ n ∈ z1, (Lit.int .u8 n).wf = true) (y1 : len1 * 1 ≤ 140737488351232)
    (w2 : (Lit.int .i64 a2).wf = true)
    (w3 : (a3 = none ∧ len3 = 0 ∧ cap3 = 0 ∧ z3 = []) ∨ ∃ x, a3 = some x ∧ len3 ≤ cap3 ∧ cap3 ≤ maxLen ∧ z3.length = cap3 ∧ (∀ i, i < z3.length → w.cell? (x.add i) = some (.int .i64 (z3.getD i 0))) ∧ ∀ n ∈ z3, (Lit.int .i64 n).wf = true) (y3 : len3 * 8 ≤ 140737488351232) :
    Calls Try.prog 3 #[.int .i64 n, .slice a1 len1 cap1, .int .i64 a2, .slice a3 len3 cap3] w fun e w' => e = .returned (.bool true) ∧ Below w.heap.size w w' := by
  obtain ⟨l1, rfl, hr1, hm1, hw1, hc1⟩ := ReadsInt.ofRowC w1
  obtain ⟨l3, rfl, hr3, hm3, hw3, hc3⟩ := ReadsInt.ofRowC w3
  have hR1 : Kd.C (Kd.int .u8) w a1 l1.length l1 := Kd.C_of_reads (d := (0 : Int)) (h1 := fun _ => rfl) hr1
  have hR3 : Kd.C (Kd.int .i64) w a3 l3.length l3 := Kd.C_of_reads (d := (0 : Int)) (h1 := fun _ => rfl) hr3
  clear w1 w3 hr1 hr3
  unfold maxLen at hm1 hm3
  by_cases g1 : l1.length ≤ 500
  · by_cases g3 : l3.length ≤ 500
    · exact tells_calls n a1 cap1 l1 a2 a3 cap3 l3 w hR1 hc1 (okB_wf hw1) hR3 hc3 g1 g3
    · have k1 : ¬ ((500 : Int) < (l1.length : Int)) := by omega
      have k3 : (500 : Int) < (l3.length : Int) := by omega
      go_enter Try.func3, Try.ntmps3
      go_wp2_with (fail)
      refine (awake_true w).mono ?_
      rintro e w1 ⟨rfl, hb1⟩
      go_wp2_with (fail)
      go_ret
      exact ⟨rfl, hb1⟩
  · have k1 : (500 : Int) < (l1.length : Int) := by omega
    go_enter Try.func3, Try.ntmps3
    go_wp2_with (fail)
    refine (awake_true w).mono ?_
    rintro e w1 ⟨rfl, hb1⟩
    go_wp2_with (fail)
    go_ret
    exact ⟨rfl, hb1⟩

end Go.Proofs.Ytngohjjepjpdlaa.H
