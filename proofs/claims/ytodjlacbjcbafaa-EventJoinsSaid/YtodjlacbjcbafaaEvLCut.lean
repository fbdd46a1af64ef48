import Derived.Test.YtodjlacbjcbafaaEvO
import Derived.Test.YtodjlacbjcbafaaRowS
import Derived.Deep.RegionHeld3
import Derived.Deep.RegionHeldLaw
import Derived.Deep.QuietTactic
import Derived.BigQuiet
import Derived.OpenShut
/-! The law EventCut, walked. -/
namespace Go.Proofs.Ytodjlacbjcbafaa.H
open Go.RowKit Moor Go.Proofs.YtodjlacbjcbafaaW.PrintWords Go.Proofs.YtodjlacbjcbafaaW.PrintLast Go.Proofs.YtodjlacbjcbafaaW.PrintMore
set_option linter.unusedVariables false
set_option linter.unusedSimpArgs false

theorem takeE (A : Option Addr) (c : Nat) (l : List Ev) (K : Nat) (hK : K ≤ l.length) (hc : l.length ≤ c) : ∃ y : List Ev, l.take K = y ∧ y.length = K ∧ (∀ W : World, (Instr.slice 22 (.slice A l.length c) none (some (.int .i64 (K : Int))) none).run Try.prog W = .ok (.slice A y.length c) W) ∧ ∀ w : World, Kd.C kE w A (l.map toE).length (l.map toE) → Kd.C kE w A (y.map toE).length (y.map toE) := by
  obtain ⟨i0, hi, hz0, hz1, hz2⟩ := info_parts infoE
  have hl : (l.take K).length = K := by rw [List.length_take]; omega
  refine ⟨_, rfl, hl, fun W => ?_, fun w h => ?_⟩
  · rw [hl]
    exact cut_to 22 34 .i64 Try.underlying22 hi A l.length c (K : Int) (by omega) (by omega) hc W
  · have q := Kd.C_take (m := K) h (by rw [List.length_map]; exact hK)
    rw [List.map_take]
    exact q
theorem dropE (A : Option Addr) (c : Nat) (l : List Ev) (K : Nat) (hK : K ≤ l.length) (hc : l.length ≤ c) : ∃ (A' : Option Addr) (y : List Ev), l.drop K = y ∧ y.length = l.length - K ∧ y.length ≤ c - K ∧ (∀ W : World, (Instr.slice 22 (.slice A l.length c) (some (.int .i64 (K : Int))) none none).run Try.prog W = .ok (.slice A' y.length (c - K)) W) ∧ ∀ w : World, Kd.C kE w A (l.map toE).length (l.map toE) → Kd.C kE w A' (y.map toE).length (y.map toE) := by
  obtain ⟨i0, hi, hz0, hz1, hz2⟩ := info_parts infoE
  have hl : (l.drop K).length = l.length - K := List.length_drop
  refine ⟨if c = (K : Int).toNat then A else A.map (·.add ((K : Int).toNat * 9)), _, rfl, hl, by rw [hl]; omega, fun W => ?_, fun w h => ?_⟩
  · rw [hl]
    exact cut_from 22 34 .i64 Try.underlying22 hi 9 hz1 A l.length c (K : Int) (by omega) (by omega) W
  · have q := Kd.C_drop (m := K) (c := c) h (by rw [List.length_map]; exact hK) (by rw [List.length_map]; exact hc)
    rw [List.map_drop]
    exact q
theorem takeU (A : Option Addr) (c : Nat) (l : List Int) (K : Nat) (hK : K ≤ l.length) (hc : l.length ≤ c) : ∃ y : List Int, l.take K = y ∧ y.length = K ∧ (∀ W : World, (Instr.slice 23 (.slice A l.length c) none (some (.int .i64 (K : Int))) none).run Try.prog W = .ok (.slice A y.length c) W) ∧ ∀ w : World, Kd.C (Kd.int .u8) w A l.length l → Kd.C (Kd.int .u8) w A y.length y := by
  obtain ⟨i0, hi, hz0, hz1, hz2⟩ := info_parts (show (Try.prog.info? 5).map (fun i => (i.zero, i.size, i.bytes)) = some (some (.int .u8 0), 1, 1) by kernel_rfl)
  have hl : (l.take K).length = K := by rw [List.length_take]; omega
  refine ⟨_, rfl, hl, fun W => ?_, fun w h => Kd.C_take h hK⟩
  rw [hl]
  exact cut_to 23 5 .i64 Try.underlying23 hi A l.length c (K : Int) (by omega) (by omega) hc W

set_option maxRecDepth 100000 in
set_option maxHeartbeats 8000000 in
theorem eventCut_walk (a0 : Int) (A1 : Option Addr) (c1 : Nat) (l1 : List Ev) (a2 : Int) (w : World) (hw0 : (Lit.int .i64 a0).wf = true) (hr1 : Kd.C kE w A1 (l1.map toE).length (l1.map toE)) (hc1 : l1.length ≤ c1) (hs1 : l1.length * 72 ≤ 140737488351232) (hw2 : (Lit.int .i64 a2).wf = true) :
    Calls Try.prog 8 #[.int .i64 a0, .slice A1 l1.length c1, .int .i64 a2] w fun e w' => e = .returned (.bool true) ∧ Below w.heap.size w w' := by
  go_enter Try.func8, Try.ntmps8
  go_wp2_with (fail)
  refine (awake_true _).mono ?_
  rintro e w10 ⟨rfl, hb1⟩
  have hB10 : Below w.heap.size w w10 := hb1
  clear hb1
  have HR1 := Lib.hid (Kd.C_below hr1 hB10)
  clear hr1
  have hmx : l1.length ≤ 2199023255552 := by omega
  clear hs1
  obtain ⟨P, hP⟩ : ∃ P, putE a0 l1 = P := ⟨_, rfl⟩
  have HCT := Lib.hid (fun h k hk hr => readE_cut (f := a0) (l := l1) h k hk hr)
  have hPo := putE_ok a0 l1
  have HNR := Lib.hid (fun b ho h => readE_no (f := a0) (b := b) ho h)
  rw [hP] at HCT hPo
  have HP := Lib.hid hP
  clear hP
  go_wp2_with (fail)
  have q := eput_calls a0 l1 A1 c1 w10 HR1.out hc1 hmx
  rw [HP.out] at q
  refine q.mono ?_
  clear q
  rintro e w11 ⟨A11, c11, rfl, hc11, hC11, hb11⟩
  dsimp only at hc11 hC11 ⊢
  replace HR1 := Lib.hid (Kd.C_below HR1.out hb11)
  have hB11 : Below w.heap.size w w11 := hB10.trans (hb11.mono hB10.size)
  clear hb11
  have HC11 := Lib.hid hC11
  clear hC11
  clear HP
  obtain ⟨P, is_⟩ := P
  dsimp only at *
  cases is_ with
  | true =>
      obtain ⟨hPo, hPl⟩ := hPo
      have HCT2 := Lib.hid (HCT.out rfl)
      clear HCT
      by_cases g1 : l1.length ≤ 60
      · skip
        have gi1 : ¬ (60 : Int) < (l1.length : Int) := by omega
        by_cases k0 : 0 ≤ a2
        · skip
          have ki0 : ¬ a2 < 0 := by omega
          by_cases k1 : a2 ≤ (P.length : Int)
          · skip
            have ki1 : ¬ (P.length : Int) < a2 := by omega
            obtain ⟨K, rfl⟩ := Int.eq_ofNat_of_zero_le k0
            have hKP : K ≤ P.length := by omega
            obtain ⟨y, hy, hyl, y1, y2⟩ := takeU A11 c11 P K hKP hc11
            have HY2 := Lib.hid y2
            have hyo : okB y := by rw [← hy]; exact okB_take hPo K
            have HCT3 := Lib.hid (HCT2.out K hKP)
            rw [hy] at HCT3
            obtain ⟨R, hR⟩ : ∃ R, readE a0 y = R := ⟨_, rfl⟩
            have HNO := Lib.hid (HNR.out y hyo)
            rw [hR] at HCT3 HNO
            have HR := Lib.hid hR
            have HYL := Lib.hid hyl
            clear HCT2 HNR y2 hR hy hyl
            go_wp2_with (fail)
            have q := egot_calls a0 A11 c11 y w11 (HY2.out _ HC11.out) (by have := HYL.out; omega) hyo (by have := HYL.out; omega)
            rw [HR.out] at q
            refine q.mono ?_
            clear q
            rintro e w12 ⟨A12, c12, rfl, hc12, hC12, hb12⟩
            dsimp only at hc12 hC12 ⊢
            replace HR1 := Lib.hid (Kd.C_below HR1.out hb12)
            replace HC11 := Lib.hid (Kd.C_below HC11.out hb12)
            have hB12 : Below w.heap.size w w12 := hB11.trans (hb12.mono hB11.size)
            clear hb12
            have HC12 := Lib.hid hC12
            clear hC12
            clear HR
            obtain ⟨R, can⟩ := R
            dsimp only at *
            cases can with
            | true =>
                obtain ⟨z1, z2, z3⟩ := HCT3.out rfl
                obtain ⟨x, hx, hxl, x1, x2⟩ := takeE A1 c1 l1 R.length z1 hc1
                rw [hx] at z2
                have HX2 := Lib.hid x2
                have hRl : ¬ (l1.length : Int) < (R.length : Int) := by omega
                have hxR : R = x := z2
                have HZ3 := Lib.hid z3
                clear x2 z2 z3 hx HNO HCT3
                subst hxR
                clear hxl
                go_wp2_with (fail)
                have q := esame_calls R R true (decide_eq_true rfl) A12 c12 A1 c1 w12 HC12.out hc12 (HX2.out _ HR1.out) (by omega) (by omega)
                refine q.mono ?_
                clear q
                rintro e w13 ⟨rfl, hb13⟩
                replace HR1 := Lib.hid (Kd.C_below HR1.out hb13)
                replace HC11 := Lib.hid (Kd.C_below HC11.out hb13)
                replace HC12 := Lib.hid (Kd.C_below HC12.out hb13)
                have hB13 : Below w.heap.size w w13 := hB12.trans (hb13.mono hB12.size)
                clear hb13
                go_wp2_with (fail)
                have q := eput_calls a0 R A12 c12 w13 HC12.out hc12 (by omega)
                rw [HZ3.out] at q
                refine q.mono ?_
                clear q
                rintro e w14 ⟨A14, c14, rfl, hc14, hC14, hb14⟩
                dsimp only at hc14 hC14 ⊢
                replace HR1 := Lib.hid (Kd.C_below HR1.out hb14)
                replace HC11 := Lib.hid (Kd.C_below HC11.out hb14)
                replace HC12 := Lib.hid (Kd.C_below HC12.out hb14)
                have hB14 : Below w.heap.size w w14 := hB13.trans (hb14.mono hB13.size)
                clear hb14
                have HC14 := Lib.hid hC14
                clear hC14
                have hyK : ((y.length : Int) == (K : Int)) = true := by rw [HYL.out]; exact beq_self_eq_true _
                go_wp2_with (fail)
                go_ret
                exact ⟨by simp, hB14⟩
            | false =>
                have hn : R = [] := congrArg Prod.fst (HNO.out rfl)
                subst hn
                go_wp2_with (fail)
                go_ret
                exact ⟨by simp, hB12⟩
          · skip
            have ki1 : (P.length : Int) < a2 := by omega
            go_wp2_with (fail)
            go_ret
            exact ⟨rfl, hB11⟩
        · skip
          have ki0 : a2 < 0 := by omega
          go_wp2_with (fail)
          go_ret
          exact ⟨rfl, hB11⟩
      · skip
        have gi1 : (60 : Int) < (l1.length : Int) := by omega
        go_wp2_with (fail)
        go_ret
        exact ⟨rfl, hB11⟩
  | false =>
      clear HCT HNR
      go_wp2_with (fail)
      go_ret
      exact ⟨rfl, hB11⟩

end Go.Proofs.Ytodjlacbjcbafaa.H
