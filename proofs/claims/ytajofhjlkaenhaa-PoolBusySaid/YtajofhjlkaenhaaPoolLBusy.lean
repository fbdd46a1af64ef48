import Derived.Test.YtajofhjlkaenhaaPoolM
import Derived.Deep.RegionHeld
import Derived.Deep.QuietTactic
import Derived.BigQuiet
import Derived.OpenShut
import Derived.Test.YtajofhjlkaenhaaPoolQ
/-! The law PoolBusy, walked. -/
namespace Go.Proofs.Ytajofhjlkaenhaa.H
open Go.RowKit Go.Proofs.YtajofhjlkaenhaaW.PrintWords Go.Proofs.YtajofhjlkaenhaaW.PrintLast Go.Proofs.YtajofhjlkaenhaaW.PrintMore
set_option linter.unusedVariables false
set_option linter.unusedSimpArgs false

set_option maxRecDepth 100000 in
set_option maxHeartbeats 8000000 in
theorem poolBusy_calls (A0 : Option Addr) (c0 : Nat) (l0 : List Pl) (a1 : Int) (a2 : Int) (a3 : Int) (A4 : Option Addr) (c4 : Nat) (l4 : List Int) (a5 : Int) (w : World) (hr0 : Kd.C kP w A0 l0.length l0) (hc0 : l0.length ≤ c0) (hw1 : (Lit.int .i64 a1).wf = true) (hw2 : (Lit.int .i64 a2).wf = true) (hw3 : (Lit.int .i64 a3).wf = true) (hr4 : Kd.C (Kd.int .i64) w A4 l4.length l4) (hc4 : l4.length ≤ c4) (hw5 : (Lit.int .i64 a5).wf = true) (g0 : l0.length ≤ 6) (g1 : l4.length ≤ 40) :
    Calls Try.prog 8 #[.slice A0 l0.length c0, .int .i64 a1, .int .i64 a2, .int .i64 a3, .slice A4 l4.length c4, .int .i64 a5] w fun e w' => e = .returned (.bool true) ∧ Below w.heap.size w w' := by
  have k0 : ¬ ((6 : Int) < (l0.length : Int)) := by omega
  have k4 : ¬ ((40 : Int) < (l4.length : Int)) := by omega
  go_enter Try.func8, Try.ntmps8
  go_wp2_with (fail)
  refine (awake_true w).mono ?_
  rintro e w1 ⟨rfl, hb1⟩
  have hB1 : Below w.heap.size w w1 := hb1
  replace hr0 := Kd.C_below hr0 hb1
  replace hr4 := Kd.C_below hr4 hb1
  go_wp2_with (fail)
  have q := may_calls A0 c0 l0 a1 w1 hr0 hc0
  refine q.mono ?_
  clear q
  rintro e w2 ⟨rfl, hb2⟩
  replace hr0 := Kd.C_below hr0 hb2
  replace hr4 := Kd.C_below hr4 hb2
  have hB2 : Below w.heap.size w w2 := hB1.trans (hb2.mono hB1.size)
  clear hb2
  cases hm : maysP l0 a1 with
  | false =>
    clear hm
    go_wp2_with (fail)
    go_ret
    exact ⟨rfl, hB2⟩
  | true =>
    by_cases hi0 : a5 < 0
    · have hm' := Lib.hid hm
      clear hm
      go_wp2_with (fail)
      go_ret
      exact ⟨rfl, hB2⟩
    · by_cases hi1 : (l4.length : Int) ≤ a5
      · have hm' := Lib.hid hm
        clear hm
        go_wp2_with (fail)
        go_ret
        exact ⟨rfl, hB2⟩
      · obtain ⟨ii, rfl⟩ := Int.eq_ofNat_of_zero_le (show 0 ≤ a5 by omega)
        have hii : ii < l4.length := by omega
        have hiii : (ii : Int) < (l4.length : Int) := by omega
        obtain ⟨ad4, rfl, hcx⟩ := cell_ofI hr4 ii hii
        have hmem : l4[ii] ∈ l4 := List.getElem_mem hii
        generalize l4[ii] = x at *
        have HS := Lib.hid (fun hw => busy_size (out := a1) (k := a2) (n := a3) hm hmem hw)
        have HG := Lib.hid (fun hw => busy_gone (out := a1) (k := a2) hm hmem hw)
        have HD := Lib.hid (fun he => gone_done (out := a1) (k := a2) (l := l0) hmem he)
        clear hm hmem hi0 hi1
        go_wp2_with (fail)
        have q := of_calls (A0) c0 l0 x w2 hr0 hc0
        refine q.mono ?_
        clear q
        rintro e w3 ⟨rfl, hb3⟩
        replace hr0 := Kd.C_below hr0 hb3
        replace hr4 := Kd.C_below hr4 hb3
        have hB3 : Below w.heap.size w w3 := hB2.trans (hb3.mono hB2.size)
        clear hb3
        clear hcx
        go_wp2_with (fail)
        have q := gives_calls A0 c0 l0 x w3 hr0 hc0
        refine q.mono ?_
        clear q
        rintro e w4 ⟨rfl, hb4⟩
        replace hr0 := Kd.C_below hr0 hb4
        replace hr4 := Kd.C_below hr4 hb4
        have hB4 : Below w.heap.size w w4 := hB3.trans (hb4.mono hB3.size)
        clear hb4
        go_wp2_with (fail)
        have q := size_calls A0 c0 l0 a1 a2 a3 (some ad4) c4 l4 w4 hr0 hc0 (by omega) hr4 hc4
        refine q.mono ?_
        clear q
        rintro e w5 ⟨A1, c1, rfl, hc1, hC1, hb5⟩
        replace hr0 := Kd.C_below hr0 hb5
        replace hr4 := Kd.C_below hr4 hb5
        have hB5 : Below w.heap.size w w5 := hB4.trans (hb5.mono hB4.size)
        clear hb5
        go_wp2_with (fail)
        have q := gone_calls A0 c0 l0 a1 a2 (some ad4) c4 l4 w5 hr0 hc0 (by omega) hr4 hc4
        refine q.mono ?_
        clear q
        rintro e w6 ⟨A2, c2, rfl, hc2, hC2, hb6⟩
        replace hr0 := Kd.C_below hr0 hb6
        replace hr4 := Kd.C_below hr4 hb6
        replace hC1 := Kd.C_below hC1 hb6
        have hB6 : Below w.heap.size w w6 := hB5.trans (hb6.mono hB5.size)
        clear hb6
        generalize (sizeR a1 a2 a3 l4 l0).1 = xc at *
        generalize (sizeR a1 a2 a3 l4 l0).2 = ec at *
        generalize (goneR a1 a2 l4 l0).1 = xd at *
        generalize (goneR a1 a2 l4 l0).2 = ed at *
        by_cases hw : 0 ≤ ofP l0 x
        · obtain ⟨s1, s2⟩ := HS.out hw
          obtain ⟨g1, g2⟩ := HG.out hw
          have HS2 := Lib.hid s2
          have HG2 := Lib.hid g2
          clear s2 g2
          go_wp2_with (fail)
          have q := of_calls A1 c1 xc x w6 hC1 hc1
          refine q.mono ?_
          clear q
          rintro e w7 ⟨rfl, hb7⟩
          replace hr0 := Kd.C_below hr0 hb7
          replace hr4 := Kd.C_below hr4 hb7
          replace hC1 := Kd.C_below hC1 hb7
          replace hC2 := Kd.C_below hC2 hb7
          have hB7 : Below w.heap.size w w7 := hB6.trans (hb7.mono hB6.size)
          clear hb7
          go_wp2_with (fail)
          have q := of_calls A2 c2 xd x w7 hC2 hc2
          refine q.mono ?_
          clear q
          rintro e w8 ⟨rfl, hb8⟩
          replace hr0 := Kd.C_below hr0 hb8
          replace hr4 := Kd.C_below hr4 hb8
          replace hC1 := Kd.C_below hC1 hb8
          replace hC2 := Kd.C_below hC2 hb8
          have hB8 : Below w.heap.size w w8 := hB7.trans (hb8.mono hB7.size)
          clear hb8
          go_wp2_with (fail)
          have q := gives_calls A1 c1 xc x w8 hC1 hc1
          rw [HS2.out] at q
          refine q.mono ?_
          clear q
          rintro e w9 ⟨rfl, hb9⟩
          replace hr0 := Kd.C_below hr0 hb9
          replace hr4 := Kd.C_below hr4 hb9
          replace hC1 := Kd.C_below hC1 hb9
          replace hC2 := Kd.C_below hC2 hb9
          have hB9 : Below w.heap.size w w9 := hB8.trans (hb9.mono hB8.size)
          clear hb9
          go_wp2_with (fail)
          have q := gives_calls A2 c2 xd x w9 hC2 hc2
          rw [HG2.out] at q
          refine q.mono ?_
          clear q
          rintro e w10 ⟨rfl, hb10⟩
          replace hr0 := Kd.C_below hr0 hb10
          replace hr4 := Kd.C_below hr4 hb10
          replace hC1 := Kd.C_below hC1 hb10
          replace hC2 := Kd.C_below hC2 hb10
          have hB10 : Below w.heap.size w w10 := hB9.trans (hb10.mono hB9.size)
          clear hb10
          by_cases he : ed = 0
          · obtain ⟨d1, d2, d3, d4, d5⟩ := HD.out he
            subst he
            obtain ⟨kk, rfl⟩ := Int.eq_ofNat_of_zero_le d2
            have hkk : kk < l0.length := by omega
            obtain ⟨ad0, rfl, z0, z1, z2⟩ := at_pool hr0 kk hkk
            rw [getP_nat l0 kk hkk] at d4
            have hlb : ((xd.length : Int) == (l0.length : Int) - 1) = true := by rw [beq_iff_eq]; omega
            have hob : (ofP l0 x != (kk : Int)) = true := by rw [bne_iff_ne]; exact d5
            have hl1 : 1 ≤ (l0.length : Int) := by omega
            rw [d4] at z2
            clear d1 d4 d5 HS HG HD
            go_wp2_with (fail)
            have q := of_calls (some ad0) c0 l0 x w10 hr0 hc0
            refine q.mono ?_
            clear q
            rintro e w11 ⟨rfl, hb11⟩
            replace hr0 := Kd.C_below hr0 hb11
            replace hr4 := Kd.C_below hr4 hb11
            replace hC1 := Kd.C_below hC1 hb11
            replace hC2 := Kd.C_below hC2 hb11
            have hB11 : Below w.heap.size w w11 := hB10.trans (hb11.mono hB10.size)
            clear hb11
            generalize ofP l0 x = ox at *
            go_wp2_with (fail)
            go_ret
            exact ⟨rfl, hB11⟩
          · have heb : (ed != 0) = true := by simpa using he
            clear he
            go_wp2_with (fail)
            go_ret
            exact ⟨rfl, hB10⟩
        · have hwf : decide (0 ≤ ofP l0 x) = false := decide_eq_false hw
          by_cases he : ed = 0
          · obtain ⟨d1, d2, d3, d4, d5⟩ := HD.out he
            subst he
            obtain ⟨kk, rfl⟩ := Int.eq_ofNat_of_zero_le d2
            have hkk : kk < l0.length := by omega
            obtain ⟨ad0, rfl, z0, z1, z2⟩ := at_pool hr0 kk hkk
            rw [getP_nat l0 kk hkk] at d4
            have hlb : ((xd.length : Int) == (l0.length : Int) - 1) = true := by rw [beq_iff_eq]; omega
            have hob : (ofP l0 x != (kk : Int)) = true := by rw [bne_iff_ne]; exact d5
            have hl1 : 1 ≤ (l0.length : Int) := by omega
            rw [d4] at z2
            clear d1 d4 d5 HS HG HD
            go_wp2_with (fail)
            have q := of_calls (some ad0) c0 l0 x w6 hr0 hc0
            refine q.mono ?_
            clear q
            rintro e w7 ⟨rfl, hb7⟩
            replace hr0 := Kd.C_below hr0 hb7
            replace hr4 := Kd.C_below hr4 hb7
            replace hC1 := Kd.C_below hC1 hb7
            replace hC2 := Kd.C_below hC2 hb7
            have hB7 : Below w.heap.size w w7 := hB6.trans (hb7.mono hB6.size)
            clear hb7
            generalize ofP l0 x = ox at *
            go_wp2_with (fail)
            go_ret
            exact ⟨rfl, hB7⟩
          · have heb : (ed != 0) = true := by simpa using he
            clear he
            go_wp2_with (fail)
            go_ret
            exact ⟨rfl, hB6⟩

theorem poolBusy_walk (a0 : Option Addr) (cap0 : Nat) (l0 : List Pl) (a1 : Int) (a2 : Int) (a3 : Int) (a4 : Option Addr) (len4 cap4 : Nat) (z4 : List Int) (a5 : Int) (w : World)
    (hR0 : Kd.C kP w a0 l0.length l0) (hc0 : l0.length ≤ cap0)
    (w1 : (Lit.int .i64 a1).wf = true)
    (w2 : (Lit.int .i64 a2).wf = true)
    (w3 : (Lit.int .i64 a3).wf = true)
    (w4 : (a4 = none ∧ len4 = 0 ∧ cap4 = 0 ∧ z4 = []) ∨ ∃ x, a4 = some x ∧ len4 ≤ cap4 ∧ cap4 ≤ maxLen ∧ z4.length = cap4 ∧ (∀ i, i < z4.length → w.cell? (x.add i) = some (.int .i64 (z4.getD i 0))) ∧ ∀ n ∈ z4, (Lit.int .i64 n).wf = true) (y4 : len4 * 8 ≤ 140737488351232)
    (w5 : (Lit.int .i64 a5).wf = true) :
    Calls Try.prog 8 #[.slice a0 l0.length cap0, .int .i64 a1, .int .i64 a2, .int .i64 a3, .slice a4 len4 cap4, .int .i64 a5] w fun e w' => e = .returned (.bool true) ∧ Below w.heap.size w w' := by
  obtain ⟨l4, rfl, hr4, hm4, hw4, hc4⟩ := ReadsInt.ofRowC w4
  have hR4 : Kd.C (Kd.int .i64) w a4 l4.length l4 := Kd.C_of_reads (d := (0 : Int)) (h1 := fun _ => rfl) hr4
  clear w4 hr4
  unfold maxLen at hm4
  by_cases g0 : l0.length ≤ 6
  · skip
    by_cases g1 : l4.length ≤ 40
    · skip
      exact poolBusy_calls a0 cap0 l0 a1 a2 a3 a4 cap4 l4 a5 w hR0 hc0 w1 w2 w3 hR4 hc4 w5 g0 g1
    · have k0 : ¬ ((6 : Int) < (l0.length : Int)) := by omega
      have k4 : (40 : Int) < (l4.length : Int) := by omega
      go_enter Try.func8, Try.ntmps8
      go_wp2_with (fail)
      refine (awake_true w).mono ?_
      rintro e w1 ⟨rfl, hb1⟩
      go_wp2_with (fail)
      go_ret
      exact ⟨rfl, hb1⟩
  · have k0 : (6 : Int) < (l0.length : Int) := by omega
    go_enter Try.func8, Try.ntmps8
    go_wp2_with (fail)
    refine (awake_true w).mono ?_
    rintro e w1 ⟨rfl, hb1⟩
    go_wp2_with (fail)
    go_ret
    exact ⟨rfl, hb1⟩

end Go.Proofs.Ytajofhjlkaenhaa.H
