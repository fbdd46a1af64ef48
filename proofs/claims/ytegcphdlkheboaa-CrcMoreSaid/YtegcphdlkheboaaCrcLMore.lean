import Derived.Test.YtegcphdlkheboaaCrcAw
import Derived.Deep.RegionHeld
import Derived.OpenShut
/-! The law CrcMore, walked. -/
namespace Go.Proofs.Ytegcphdlkheboaa.H
open Go.RowKit Moor Go.Proofs.YtegcphdlkheboaaW.PrintWords Go.Proofs.YtegcphdlkheboaaW.PrintLast Go.Proofs.YtegcphdlkheboaaW.PrintMore
set_option linter.unusedVariables false
set_option linter.unusedSimpArgs false

theorem below_onMore {w8 W0 W1 : World} (h : Below W0.heap.size W0 W1) (g : Below w8.heap.size w8 W0) : Below w8.heap.size w8 W1 := g.trans (h.mono g.size)

theorem bounds_u32m {n : Int} (h : (Lit.int .u32 n).wf = true) : 0 ≤ n ∧ n ≤ 4294967295 := by
  simp [Lit.wf, IntKind.min, IntKind.max, IntKind.signed, IntKind.bits] at h
  omega
set_option maxRecDepth 100000 in
set_option maxHeartbeats 8000000 in
theorem crcMore_calls (A0 : Option Addr) (c0 : Nat) (l0 : List Int) (A1 : Option Addr) (c1 : Nat) (l1 : List Int) (a2 : Int) (w : World) (hr0 : Kd.C (Kd.int .u8) w A0 l0.length l0) (hc0 : l0.length ≤ c0) (ho0 : okB l0) (hr1 : Kd.C (Kd.int .u8) w A1 l1.length l1) (hc1 : l1.length ≤ c1) (ho1 : okB l1) (hw2 : (Lit.int .u32 a2).wf = true) (g0 : l0.length ≤ 300) (g1 : l1.length ≤ 300) :
    Calls Try.prog 4 #[.slice A0 l0.length c0, .slice A1 l1.length c1, .int .u32 a2] w fun e w' => e = .returned (.bool true) ∧ Below w.heap.size w w' := by
  have k0 : ¬ ((300 : Int) < (l0.length : Int)) := by omega
  have k1 : ¬ ((300 : Int) < (l1.length : Int)) := by omega
  have hs0 : 0 ≤ a2 := (bounds_u32m hw2).1
  have hs1 : a2 ≤ 4294967295 := (bounds_u32m hw2).2
  go_enter Try.func4, Try.ntmps4
  go_wp2_with (fail)
  refine (awake_true w).mono ?_
  rintro e w1 ⟨rfl, hb1⟩
  have hB1 : Below w.heap.size w w1 := hb1
  have hC0 := Kd.C_below hr0 hB1
  have hC1 := Kd.C_below hr1 hB1
  clear hr0 hr1
  go_wp2_with (first
    | (at_builtin; refine Kd.R_append_rows (Kd.int .u8) (Rr := fun x cs => cs = [.int .u8 x]) (w0 := w1) w1.heap.size rfl _ _ 22 5 (.int .u8 0) 1 rfl Try.underlying22 infoU8 rfl (by decide) (by decide) _ l0 l1 A1 l1.length c1 (fun _ => True) (fun _ => False) rfl rfl hRa (Kd.C_below hC1 hBa) (fun _ _ h => h) (fun _ h => h.elim) (fun _ _ => trivial) hBa hBa.size (by simp; omega) ?_; intro vb w2 hRb hBb _ _)
    | (at_builtin; refine Kd.R_append_rows (Kd.int .u8) (Rr := fun x cs => cs = [.int .u8 x]) (w0 := w1) w1.heap.size rfl _ _ 22 5 (.int .u8 0) 1 rfl Try.underlying22 infoU8 rfl (by decide) (by decide) (.slice none 0 0) [] l0 A0 l0.length c0 (fun _ => True) (fun _ => False) rfl rfl (Kd.R_nil _ _ _ _ _) hC0 (fun _ _ h => h) (fun _ h => h.elim) (fun _ _ => trivial) (Below.refl _ _) (Nat.le_refl _) (by simp; omega) ?_; intro va wa hRa hBa _ _; simp only [List.nil_append] at hRa))
  obtain ⟨A2, c2, rfl, hc2, hC2⟩ := Kd.R_reads hRb
  have hB2 : Below w.heap.size w w2 := hB1.trans (hBb.mono hB1.size)
  replace hC0 := Kd.C_below hC0 hBb
  replace hC1 := Kd.C_below hC1 hBb
  have ho2 : okB (l0 ++ l1) := okB_append ho0 ho1
  have hl2 : (l0 ++ l1).length ≤ 600 := by simp; omega
  generalize hall : l0 ++ l1 = l2 at *
  have HL := Lib.hid hall
  clear hRa hBa hRb hBb hall
  go_wp2_with (fail)
  have q := sum_calls A2 c2 l2 w2 hC2 hc2 ho2
  refine q.mono ?_
  clear q
  rintro e w3 ⟨rfl, hb3⟩
  replace hC0 := Kd.C_below hC0 hb3
  replace hC1 := Kd.C_below hC1 hb3
  replace hC2 := Kd.C_below hC2 hb3
  have hB3 : Below w.heap.size w w3 := hB2.trans (hb3.mono hB2.size)
  clear hb3
  go_wp2_with (fail)
  have q := sum_calls A0 c0 l0 w3 hC0 hc0 ho0
  refine q.mono ?_
  clear q
  rintro e w4 ⟨rfl, hb4⟩
  replace hC0 := Kd.C_below hC0 hb4
  replace hC1 := Kd.C_below hC1 hb4
  replace hC2 := Kd.C_below hC2 hb4
  have hB4 : Below w.heap.size w w4 := hB3.trans (hb4.mono hB3.size)
  clear hb4
  go_wp2_with (fail)
  have q := more_calls (cSum l0) A1 c1 l1 w4 (cSum_ok l0).1 (by have := (cSum_ok l0).2; omega) hC1 hc1 ho1
  rw [cMore_sum, HL.out] at q
  refine q.mono ?_
  clear q
  rintro e w5 ⟨rfl, hb5⟩
  replace hC0 := Kd.C_below hC0 hb5
  replace hC1 := Kd.C_below hC1 hb5
  replace hC2 := Kd.C_below hC2 hb5
  have hB5 : Below w.heap.size w w5 := hB4.trans (hb5.mono hB4.size)
  clear hb5
  go_wp2_with (fail)
  have q := more_calls a2 none 0 [] w5 hs0 hs1 (Kd.C_nil _ _) (by simp) okB_nil
  rw [cMore_nil hs0 (by omega)] at q
  refine q.mono ?_
  clear q
  rintro e w6 ⟨rfl, hb6⟩
  replace hC0 := Kd.C_below hC0 hb6
  replace hC1 := Kd.C_below hC1 hb6
  replace hC2 := Kd.C_below hC2 hb6
  have hB6 : Below w.heap.size w w6 := hB5.trans (hb6.mono hB5.size)
  clear hb6
  go_wp2_with (fail)
  have q := more_calls a2 A0 c0 l0 w6 hs0 hs1 hC0 hc0 ho0
  refine q.mono ?_
  clear q
  rintro e w7 ⟨rfl, hb7⟩
  replace hC0 := Kd.C_below hC0 hb7
  replace hC1 := Kd.C_below hC1 hb7
  replace hC2 := Kd.C_below hC2 hb7
  have hB7 : Below w.heap.size w w7 := hB6.trans (hb7.mono hB6.size)
  clear hb7
  go_wp2_with (fail)
  have q := more_calls (cMore a2 l0) A1 c1 l1 w7 (cMore_ok a2 l0).1 (by have := (cMore_ok a2 l0).2; omega) hC1 hc1 ho1
  rw [cMore_more, HL.out] at q
  refine q.mono ?_
  clear q
  rintro e w8 ⟨rfl, hb8⟩
  replace hC0 := Kd.C_below hC0 hb8
  replace hC1 := Kd.C_below hC1 hb8
  replace hC2 := Kd.C_below hC2 hb8
  have hB8 : Below w.heap.size w w8 := hB7.trans (hb8.mono hB7.size)
  clear hb8
  go_wp2_with (fail)
  have q := more_calls a2 A2 c2 l2 w8 hs0 hs1 hC2 hc2 ho2
  refine q.mono ?_
  clear q
  rintro e w9 ⟨rfl, hb9⟩
  replace hC0 := Kd.C_below hC0 hb9
  replace hC1 := Kd.C_below hC1 hb9
  replace hC2 := Kd.C_below hC2 hb9
  have hB9 : Below w.heap.size w w9 := hB8.trans (hb9.mono hB8.size)
  clear hb9
  go_wp2_with (fail)
  have q := sum_calls A0 c0 l0 w9 hC0 hc0 ho0
  refine q.mono ?_
  clear q
  rintro e w10 ⟨rfl, hb10⟩
  replace hC0 := Kd.C_below hC0 hb10
  replace hC1 := Kd.C_below hC1 hb10
  replace hC2 := Kd.C_below hC2 hb10
  have hB10 : Below w.heap.size w w10 := hB9.trans (hb10.mono hB9.size)
  clear hb10
  go_wp2_with (fail)
  have q := more_calls 0 A0 c0 l0 w10 (by omega) (by omega) hC0 hc0 ho0
  rw [cMore_zero] at q
  refine q.mono ?_
  clear q
  rintro e w11 ⟨rfl, hb11⟩
  replace hC0 := Kd.C_below hC0 hb11
  replace hC1 := Kd.C_below hC1 hb11
  replace hC2 := Kd.C_below hC2 hb11
  have hB11 : Below w.heap.size w w11 := hB10.trans (hb11.mono hB10.size)
  clear hb11
  go_wp2_with (fail)
  go_ret
  exact ⟨rfl, hB11⟩

theorem crcMore_walk (a0 : Option Addr) (len0 cap0 : Nat) (z0 : List Int) (a1 : Option Addr) (len1 cap1 : Nat) (z1 : List Int) (a2 : Int) (w : World)
    (w0 : (a0 = none ∧ len0 = 0 ∧ cap0 = 0 ∧ z0 = []) ∨ ∃ x, a0 = some x ∧ len0 ≤ cap0 ∧ cap0 ≤ maxLen ∧ z0.length = cap0 ∧ (∀ i, i < z0.length → w.cell? (x.add i) = some (.int .u8 (z0.getD i 0))) ∧ ∀ n ∈ z0, (Lit.int .u8 n).wf = true) (y0 : len0 * 1 ≤ 140737488351232)
    (w1 : (a1 = none ∧ len1 = 0 ∧ cap1 = 0 ∧ z1 = []) ∨ ∃ x, a1 = some x ∧ len1 ≤ cap1 ∧ cap1 ≤ maxLen ∧ z1.length = cap1 ∧ (∀ i, i < z1.length → w.cell? (x.add i) = some (.int .u8 (z1.getD i 0))) ∧ ∀ n ∈ z1, (Lit.int .u8 n).wf = true) (y1 : len1 * 1 ≤ 140737488351232)
    (w2 : (Lit.int .u32 a2).wf = true) :
    Calls Try.prog 4 #[.slice a0 len0 cap0, .slice a1 len1 cap1, .int .u32 a2] w fun e w' => e = .returned (.bool true) ∧ Below w.heap.size w w' := by
  obtain ⟨l0, rfl, hr0, hm0, hw0, hc0⟩ := ReadsInt.ofRowC w0
  have hR0 : Kd.C (Kd.int .u8) w a0 l0.length l0 := Kd.C_of_reads (d := (0 : Int)) (h1 := fun _ => rfl) hr0
  clear w0 hr0
  unfold maxLen at hm0
  obtain ⟨l1, rfl, hr1, hm1, hw1, hc1⟩ := ReadsInt.ofRowC w1
  have hR1 : Kd.C (Kd.int .u8) w a1 l1.length l1 := Kd.C_of_reads (d := (0 : Int)) (h1 := fun _ => rfl) hr1
  clear w1 hr1
  unfold maxLen at hm1
  by_cases g0 : l0.length ≤ 300
  · skip
    by_cases g1 : l1.length ≤ 300
    · skip
      exact crcMore_calls a0 cap0 l0 a1 cap1 l1 a2 w hR0 hc0 (okB_wf hw0) hR1 hc1 (okB_wf hw1) w2 g0 g1
    · have k0 : ¬ ((300 : Int) < (l0.length : Int)) := by omega
      have k1 : (300 : Int) < (l1.length : Int) := by omega
      go_enter Try.func4, Try.ntmps4
      go_wp2_with (fail)
      refine (awake_true w).mono ?_
      rintro e w1 ⟨rfl, hb1⟩
      go_wp2_with (fail)
      go_ret
      exact ⟨rfl, hb1⟩
  · have k0 : (300 : Int) < (l0.length : Int) := by omega
    go_enter Try.func4, Try.ntmps4
    go_wp2_with (fail)
    refine (awake_true w).mono ?_
    rintro e w1 ⟨rfl, hb1⟩
    go_wp2_with (fail)
    go_ret
    exact ⟨rfl, hb1⟩

end Go.Proofs.Ytegcphdlkheboaa.H
