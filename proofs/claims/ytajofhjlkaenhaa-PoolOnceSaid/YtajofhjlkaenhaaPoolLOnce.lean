import Derived.Test.YtajofhjlkaenhaaPoolM
import Derived.Deep.RegionHeld
import Derived.Deep.QuietTactic
import Derived.BigQuiet
import Derived.OpenShut
import Derived.Test.YtajofhjlkaenhaaPoolS
/-! The law PoolOnce, walked. -/
namespace Go.Proofs.Ytajofhjlkaenhaa.H
open Go.RowKit Go.Proofs.YtajofhjlkaenhaaW.PrintWords Go.Proofs.YtajofhjlkaenhaaW.PrintLast Go.Proofs.YtajofhjlkaenhaaW.PrintMore
set_option linter.unusedVariables false
set_option linter.unusedSimpArgs false

theorem below_onPool {w8 W0 W1 : World} (h : Below W0.heap.size W0 W1) (g : Below w8.heap.size w8 W0) : Below w8.heap.size w8 W1 := g.trans (h.mono g.size)
theorem at_pool_is {w : World} {ad : Addr} {xs : List Pl} (h : Kd.C kP w (some ad) xs.length xs) (k : Nat) (hk : k < xs.length) :
    w.cell? ⟨(ad.add (k * 3)).block, (ad.add (k * 3)).off + 2, none⟩ = some (.int .i64 xs[k].f2) := by
  obtain ⟨ad', e, _, _, q2⟩ := at_pool h k hk
  cases e
  exact q2
theorem ifs {k : Int} {j : Nat} (h : k ≠ (j : Int)) : (if 0 ≤ k ∧ k < ((j + 1 : Nat) : Int) then (1 : Int) else 0) = (if 0 ≤ k ∧ k < (j : Int) then (1 : Int) else 0) := by
  by_cases g : 0 ≤ k ∧ k < (j : Int)
  · rw [if_pos g, if_pos (by omega)]
  · rw [if_neg g, if_neg (by omega)]

set_option maxRecDepth 100000 in
set_option maxHeartbeats 8000000 in
theorem poolOnce_calls (A0 : Option Addr) (c0 : Nat) (l0 : List Pl) (a1 : Int) (a2 : Int) (w : World) (hr0 : Kd.C kP w A0 l0.length l0) (hc0 : l0.length ≤ c0) (hw1 : (Lit.int .i64 a1).wf = true) (hw2 : (Lit.int .i64 a2).wf = true) (g0 : l0.length ≤ 6) :
    Calls Try.prog 3 #[.slice A0 l0.length c0, .int .i64 a1, .int .i64 a2] w fun e w' => e = .returned (.bool true) ∧ Below w.heap.size w w' := by
  have k0 : ¬ ((6 : Int) < (l0.length : Int)) := by omega
  go_enter Try.func3, Try.ntmps3
  go_wp2_with (fail)
  refine (awake_true w).mono ?_
  rintro e w1 ⟨rfl, hb1⟩
  have hB1 : Below w.heap.size w w1 := hb1
  replace hr0 := Kd.C_below hr0 hb1
  go_wp2_with (fail)
  have q := may_calls A0 c0 l0 a1 w1 hr0 hc0
  refine q.mono ?_
  clear q
  rintro e w2 ⟨rfl, hb2⟩
  replace hr0 := Kd.C_below hr0 hb2
  have hB2 : Below w.heap.size w w2 := hB1.trans (hb2.mono hB1.size)
  clear hb2
  cases hm : maysP l0 a1 with
  | false =>
    clear hm
    go_wp2_with (fail)
    go_ret
    exact ⟨rfl, hB2⟩
  | true =>
    go_wp2_with (fail)
    have q := of_calls A0 c0 l0 a2 w2 hr0 hc0
    refine q.mono ?_
    clear q
    rintro e w3 ⟨rfl, hb3⟩
    replace hr0 := Kd.C_below hr0 hb3
    have hB3 : Below w.heap.size w w3 := hB2.trans (hb3.mono hB2.size)
    clear hb3
    have HM := Lib.hid hm
    have hof := ofP_range l0 a2
    have HA := Lib.hid (fun i (hi : i < l0.length) => once_at (x := a2) hm hi)
    have HS := Lib.hid (fun i (hi : i < l0.length) => once_sum (out := a1) hm hi)
    have HI := Lib.hid (fun h => once_in (x := a2) hm h)
    have HO := Lib.hid (fun h => once_out (l := l0) (x := a2) h)
    generalize hk : ofP l0 a2 = k at *
    clear hm
    have HKK := Lib.hid hk
    clear hk
    go_wp2_with (fail)
    go_loopw [10, 9] (fun i m wr => ∃ j : Nat, j ≤ l0.length ∧ i = .int .i64 (j : Int) ∧ m = .int .i64 (if 0 ≤ k ∧ k < (j : Int) then 1 else 0) ∧ Below w3.heap.size w3 wr) (fun i _ _ => l0.length - (intOf i).toNat)
    case atStart => exact ⟨0, Nat.zero_le _, rfl, by rw [if_neg (by omega)], Below.refl _ _⟩
    case round =>
      obtain ⟨j, hj, rfl, rfl, hb⟩ := hrel
      have hBr : Below w.heap.size w wr := hB3.trans (hb.mono hB3.size)
      by_cases hlt : j < l0.length
      · have hlti : (j : Int) < (l0.length : Int) := by omega
        have hC := Kd.C_below hr0 hb
        obtain ⟨ad, rfl, z0, z1, z2⟩ := at_pool hC j hlt
        have ha := HA.out j hlt
        have hs := HS.out j hlt
        generalize l0[j] = p at *
        clear HA HS HI HO z2 hC
        by_cases i1 : p.f0 ≤ a2
        · by_cases i2 : a2 < p.f0 + p.f1
          · have hkj : k = (j : Int) := ha.1 ⟨i1, i2⟩
            have hkb : ((j : Int) != k) = false := by rw [bne_eq_false_iff_eq]; exact hkj.symm
            have h0 : (if 0 ≤ k ∧ k < (j : Int) then (1 : Int) else 0) = 0 := if_neg (by omega)
            have h9 : (if 0 ≤ k ∧ k < ((j + 1 : Nat) : Int) then (1 : Int) else 0) = 1 := if_pos (by omega)
            rw [h0]
            have H9 := Lib.hid h9
            clear h0 h9 ha hkj
            go_wp2_with (fail)
            go_quiet (fail)
            go_wp2_with (fail)
            go_roundw
            case rel => exact ⟨j + 1, by omega, by go_num, by rw [H9.out], drewB hb nq⟩
            case measure => simp [intOf]; omega
          · have hkj : k ≠ (j : Int) := fun e => i2 (ha.2 e).2
            have H9 := Lib.hid (show (if 0 ≤ k ∧ k < ((j + 1 : Nat) : Int) then (1 : Int) else 0) = (if 0 ≤ k ∧ k < (j : Int) then (1 : Int) else 0) from ifs hkj)
            generalize (if 0 ≤ k ∧ k < (j : Int) then (1 : Int) else 0) = m at *
            clear ha hkj
            go_wp2_with (fail)
            go_quiet (fail)
            go_wp2_with (fail)
            go_roundw
            case rel => exact ⟨j + 1, by omega, by go_num, by rw [H9.out], drewB hb nq⟩
            case measure => simp [intOf]; omega
        · have hkj : k ≠ (j : Int) := fun e => i1 (ha.2 e).1
          have H9 := Lib.hid (show (if 0 ≤ k ∧ k < ((j + 1 : Nat) : Int) then (1 : Int) else 0) = (if 0 ≤ k ∧ k < (j : Int) then (1 : Int) else 0) from ifs hkj)
          generalize (if 0 ≤ k ∧ k < (j : Int) then (1 : Int) else 0) = m at *
          clear ha hkj
          have i1b : a2 < p.f0 := by omega
          have i1d : decide (p.f0 ≤ a2) = false := decide_eq_false i1
          clear i1
          go_wp2_with (fail)
          go_quiet (fail)
          go_wp2_with (fail)
          go_roundw
          case rel => exact ⟨j + 1, by omega, by go_num, by rw [H9.out], drewB hb nq⟩
          case measure => simp [intOf]; omega
      · obtain rfl : j = l0.length := by omega
        have hnl : ¬ ((l0.length : Int) < (l0.length : Int)) := by omega
        have hC := Kd.C_below hr0 hb
        clear HA HS
        by_cases hk0 : 0 ≤ k
        · have h0 : (if 0 ≤ k ∧ k < (l0.length : Int) then (1 : Int) else 0) = 1 := if_pos (by omega)
          rw [h0]
          have hkl : k < (l0.length : Int) := by omega
          obtain ⟨x0, x1, gg⟩ := HI.out hk0
          have hkn : ¬ k < 0 := by omega
          obtain ⟨kk, rfl⟩ := Int.eq_ofNat_of_zero_le hk0
          have hkk : kk < l0.length := by omega
          rw [getP_nat l0 kk hkk] at gg
          obtain ⟨ad, rfl, z0, z1, z2⟩ := at_pool hC kk hkk
          have HQ := Lib.hid (show ∀ W, Below wr.heap.size wr W → Below wr.heap.size wr W ∧ W.cell? ⟨(ad.add (kk * 3)).block, (ad.add (kk * 3)).off + 2, none⟩ = some (.int .i64 l0[kk].f2) ∧ Kd.C kP W (some ad) l0.length l0 from fun W h => ⟨h, (at_pool_is (Kd.C_below hC h) kk hkk), Kd.C_below hC h⟩)
          generalize l0[kk] = p at *
          clear h0 HI HO hof z0 z1
          have HG := Lib.hid gg
          clear gg
          have DR := Lib.hid (show Below wr.heap.size wr wr.drew from (Below.refl _ wr).drew)
          go_wp2_with (fail)
          go_region_held (fun W => Below wr.heap.size wr W ∧ W.cell? ⟨(ad.add (kk * 3)).block, (ad.add (kk * 3)).off + 2, none⟩ = some (.int .i64 p.f2) ∧ Kd.C kP W (some ad) l0.length l0)
            (first | exact HQ.out _ DR.out | exact HQ.out _ D4)
            (first
              | (go_at_call 13; have qq := gives_calls (some ad) c0 l0 a2 _ (Kd.C_below hC DR.out) hc0; rw [HG.out] at qq; refine qq.mono ?_; clear qq; rintro e w4 ⟨rfl, hb4⟩; have D4 := below_onPool hb4 DR.out))
          all_goals
            go_wp2_with (fail)
            go_ret
            exact ⟨by show Ending.returned (.bool (decide (p.f2 = 0) == (p.f2 == 0))) = _; rw [show (decide (p.f2 = 0) == (p.f2 == 0)) = true by by_cases h : p.f2 = 0 <;> simp [h]], hBr.trans (D4.mono hBr.size)⟩
        · have h0 : (if 0 ≤ k ∧ k < (l0.length : Int) then (1 : Int) else 0) = 0 := if_neg (by omega)
          rw [h0]
          have hkn : k < 0 := by omega
          obtain ⟨o1, o2⟩ := HO.out hkn
          have hkb : (k == -1) = true := by simpa using o1
          have HG := Lib.hid o2
          clear o1 o2 h0 HI HO hof hk0
          go_wp2_with (fail)
          have q := gives_calls A0 c0 l0 a2 wr hC hc0
          rw [HG.out] at q
          refine q.mono ?_
          clear q
          rintro e w4 ⟨rfl, hb4⟩
          go_wp2_with (fail)
          go_ret
          exact ⟨rfl, hBr.trans (hb4.mono hBr.size)⟩

theorem poolOnce_walk (a0 : Option Addr) (cap0 : Nat) (l0 : List Pl) (a1 : Int) (a2 : Int) (w : World)
    (hR0 : Kd.C kP w a0 l0.length l0) (hc0 : l0.length ≤ cap0)
    (w1 : (Lit.int .i64 a1).wf = true)
    (w2 : (Lit.int .i64 a2).wf = true) :
    Calls Try.prog 3 #[.slice a0 l0.length cap0, .int .i64 a1, .int .i64 a2] w fun e w' => e = .returned (.bool true) ∧ Below w.heap.size w w' := by
  by_cases g0 : l0.length ≤ 6
  · skip
    exact poolOnce_calls a0 cap0 l0 a1 a2 w hR0 hc0 w1 w2 g0
  · have k0 : (6 : Int) < (l0.length : Int) := by omega
    go_enter Try.func3, Try.ntmps3
    go_wp2_with (fail)
    refine (awake_true w).mono ?_
    rintro e w1 ⟨rfl, hb1⟩
    go_wp2_with (fail)
    go_ret
    exact ⟨rfl, hb1⟩

end Go.Proofs.Ytajofhjlkaenhaa.H
