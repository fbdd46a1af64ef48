import Derived.Test.YtodjlacbjcbafaaEvO
import Derived.Test.YtodjlacbjcbafaaRowS
import Derived.Deep.RegionHeld3
import Derived.Deep.RegionHeldLaw
import Derived.Deep.QuietTactic
import Derived.BigQuiet
import Derived.OpenShut
import Derived.Test.YtodjlacbjcbafaaEvLCut
/-! The law EventJoins, walked. -/
namespace Go.Proofs.Ytodjlacbjcbafaa.H
open Go.RowKit Moor Go.Proofs.YtodjlacbjcbafaaW.PrintWords Go.Proofs.YtodjlacbjcbafaaW.PrintLast Go.Proofs.YtodjlacbjcbafaaW.PrintMore
set_option linter.unusedVariables false
set_option linter.unusedSimpArgs false

theorem lastT_take (f : Int) (l : List Ev) (K : Nat) (h : K < l.length) : Moor.lastT f (l.take (K + 1)) = l[K].at_ := by
  unfold Moor.lastT
  rw [List.getLast?_eq_getElem?, List.length_take, Nat.min_eq_left (by omega), Nat.add_sub_cancel, List.getElem?_take, if_pos (by omega), List.getElem?_eq_getElem h]
set_option maxRecDepth 100000 in
set_option maxHeartbeats 8000000 in
theorem eventJoins_walk (a0 : Int) (A1 : Option Addr) (c1 : Nat) (l1 : List Ev) (a2 : Int) (w : World) (hw0 : (Lit.int .i64 a0).wf = true) (hr1 : Kd.C kE w A1 (l1.map toE).length (l1.map toE)) (hc1 : l1.length ≤ c1) (hs1 : l1.length * 72 ≤ 140737488351232) (hw2 : (Lit.int .i64 a2).wf = true) :
    Calls Try.prog 6 #[.int .i64 a0, .slice A1 l1.length c1, .int .i64 a2] w fun e w' => e = .returned (.bool true) ∧ Below w.heap.size w w' := by
  go_enter Try.func6, Try.ntmps6
  go_wp2_with (fail)
  refine (awake_true _).mono ?_
  rintro e w10 ⟨rfl, hb1⟩
  have hB10 : Below w.heap.size w w10 := hb1
  clear hb1
  have HR1 := Lib.hid (Kd.C_below hr1 hB10)
  clear hr1
  by_cases g1 : l1.length ≤ 60
  · skip
    have gi1 : ¬ (60 : Int) < (l1.length : Int) := by omega
    by_cases k0 : 0 ≤ a2
    · skip
      have ki0 : ¬ a2 < 0 := by omega
      by_cases k1 : a2 ≤ (l1.length : Int)
      · skip
        have ki1 : ¬ (l1.length : Int) < a2 := by omega
        obtain ⟨K, rfl⟩ := Int.eq_ofNat_of_zero_le k0
        have hK : K ≤ l1.length := by omega
        obtain ⟨y, hy, hyl, y1, y2⟩ := takeE A1 c1 l1 K hK hc1
        obtain ⟨AZ, z, hz, hzl, hzc, z1, z2⟩ := dropE A1 c1 l1 K hK hc1
        have hyz : y ++ z = l1 := by rw [← hy, ← hz, List.take_append_drop]
        have hjn := putE_joins a0 y z (by rw [hyz]; omega)
        rw [hyz] at hjn
        obtain ⟨P, hP⟩ : ∃ P, putE a0 l1 = P := ⟨_, rfl⟩
        obtain ⟨Q, hQ⟩ : ∃ P, putE a0 y = P := ⟨_, rfl⟩
        obtain ⟨t, ht⟩ : ∃ t, Moor.lastT a0 y = t := ⟨_, rfl⟩
        obtain ⟨R, hR⟩ : ∃ P, putE t z = P := ⟨_, rfl⟩
        have hQo := (putE_ok a0 y).2
        have hRo := (putE_ok t z).2
        rw [ht] at hjn
        rw [hP, hQ, hR] at hjn
        rw [hQ] at hQo
        rw [hR] at hRo
        have HP := Lib.hid hP
        have HQ := Lib.hid hQ
        have HR := Lib.hid hR
        have HT := Lib.hid ht
        have HJ := Lib.hid hjn
        have HY := Lib.hid y2
        have HZ := Lib.hid z2
        have HYE := Lib.hid hy
        have hyl' : y.length ≤ c1 := by omega
        have hyl2 : y.length ≤ 60 := by omega
        have hzl2 : z.length ≤ 60 := by omega
        clear hP hQ hR ht hjn y2 z2 hy hz hyz hyl hzl
        go_wp2_with (fail)
        have q := eput_calls a0 l1 A1 c1 w10 HR1.out hc1 (by omega)
        rw [HP.out] at q
        refine q.mono ?_
        clear q
        rintro e w11 ⟨A11, c11, rfl, hc11, hC11, hb11⟩
        dsimp only at hc11 hC11 ⊢
        replace HR1 := Lib.hid (Kd.C_below HR1.out hb11)
        have hB11 : Below w.heap.size w w11 := hB10.trans (hb11.mono hB10.size)
        clear hb11
        have HC11 := Lib.hid hC11
        clear hC11
        go_wp2_with (fail)
        have q := eput_calls a0 y A1 c1 w11 (HY.out _ HR1.out) hyl' (by omega)
        rw [HQ.out] at q
        refine q.mono ?_
        clear q
        rintro e w12 ⟨A12, c12, rfl, hc12, hC12, hb12⟩
        dsimp only at hc12 hC12 ⊢
        replace HR1 := Lib.hid (Kd.C_below HR1.out hb12)
        replace HC11 := Lib.hid (Kd.C_below HC11.out hb12)
        have hB12 : Below w.heap.size w w12 := hB11.trans (hb12.mono hB11.size)
        clear hb12
        have HC12 := Lib.hid hC12
        clear hC12
        by_cases hK0 : K = 0
        · skip
          subst hK0
          obtain rfl : a0 = t := by
            rw [← HT.out, ← HYE.out]; rfl
          simp only [Int.natCast_zero] at z1
          go_wp2_with (fail)
          have q := eput_calls a0 z AZ (c1 - 0) w12 (HZ.out _ HR1.out) hzc (by omega)
          rw [HR.out] at q
          refine q.mono ?_
          clear q
          rintro e w13 ⟨A13, c13, rfl, hc13, hC13, hb13⟩
          dsimp only at hc13 hC13 ⊢
          replace HR1 := Lib.hid (Kd.C_below HR1.out hb13)
          replace HC11 := Lib.hid (Kd.C_below HC11.out hb13)
          replace HC12 := Lib.hid (Kd.C_below HC12.out hb13)
          have hB13 : Below w.heap.size w w13 := hB12.trans (hb13.mono hB12.size)
          clear hb13
          have HC13 := Lib.hid hC13
          clear hC13
          clear HP HQ HR
          obtain ⟨P, is_⟩ := P
          obtain ⟨Q, one⟩ := Q
          obtain ⟨R, two⟩ := R
          dsimp only at *
          have hcp := Kd.C_string (P := Try.prog) (c := c11) Try.underlying23 Try.underlying5 Try.underlying9 HC11.out
          have hcq := Kd.C_string (P := Try.prog) (c := c12) Try.underlying23 Try.underlying5 Try.underlying9 HC12.out
          have hcr := Kd.C_string (P := Try.prog) (c := c13) Try.underlying23 Try.underlying5 Try.underlying9 HC13.out
          obtain ⟨j1, j2⟩ := HJ.out
          clear HJ
          (try dsimp only at j1 j2)
          subst j1
          have HSJ := Lib.hid j2
          clear j2
          have hss : (strOfNums Q).size + (strOfNums R).size ≤ 9223372036854775807 := by
            rw [str_size, str_size]
            omega
          cases one <;> cases two
          · skip
            skip
            go_wp2_with (fail)
            go_ret
            exact ⟨by simp, hB13⟩
          · skip
            skip
            go_wp2_with (fail)
            go_ret
            exact ⟨by simp, hB13⟩
          · skip
            skip
            go_wp2_with (fail)
            go_ret
            exact ⟨by simp, hB13⟩
          · skip
            have HS3 := Lib.hid (HSJ.out rfl)
            go_wp2_with (fail)
            go_ret
            exact ⟨by simp [HS3.out, str_append], hB13⟩
        · skip
          obtain ⟨ad, hA1, x0, x1, x2, x3, x4, x5, x6, x7, x8⟩ := B.at_T34 HR1.out ((K : Int) - 1) (by omega) (by rw [List.length_map]; omega)
          have hz1 : ((K : Int) - 1) = ((K - 1 : Nat) : Int) := by omega
          have hrd : B.rd_T34 (l1.map toE) ((K : Int) - 1) = toE l1[K - 1] := by rw [hz1]; exact rdE l1 (K - 1) (by omega)
          rw [hrd] at x1
          dsimp only [toE] at x1
          have hzz : ((K : Int) - 1).toNat = K - 1 := by omega
          rw [hzz] at x1
          clear hzz
          have hte : l1[K - 1].at_ = t := by
            rw [← HT.out, ← HYE.out]
            have q := (lastT_take a0 l1 (K - 1) (by omega)).symm
            rw [show K - 1 + 1 = K by omega] at q
            exact q
          rw [hte] at x1
          have hkp : 0 < (K : Int) := by omega
          have hkq : (1 : Int) ≤ (K : Int) := by omega
          have hkl : (K : Int) - 1 < (l1.length : Int) := by omega
          have hkm : (K : Int) ≤ (l1.length : Int) := by omega
          clear x0 x2 x3 x4 x5 x6 x7 x8 hte hrd hz1 hK0 k0 k1 ki0 ki1 hK
          subst hA1
          go_wp2_with (fail)
          have q := eput_calls t z AZ (c1 - K) w12 (HZ.out _ HR1.out) hzc (by omega)
          rw [HR.out] at q
          refine q.mono ?_
          clear q
          rintro e w13 ⟨A13, c13, rfl, hc13, hC13, hb13⟩
          dsimp only at hc13 hC13 ⊢
          replace HR1 := Lib.hid (Kd.C_below HR1.out hb13)
          replace HC11 := Lib.hid (Kd.C_below HC11.out hb13)
          replace HC12 := Lib.hid (Kd.C_below HC12.out hb13)
          have hB13 : Below w.heap.size w w13 := hB12.trans (hb13.mono hB12.size)
          clear hb13
          have HC13 := Lib.hid hC13
          clear hC13
          clear HP HQ HR
          obtain ⟨P, is_⟩ := P
          obtain ⟨Q, one⟩ := Q
          obtain ⟨R, two⟩ := R
          dsimp only at *
          have hcp := Kd.C_string (P := Try.prog) (c := c11) Try.underlying23 Try.underlying5 Try.underlying9 HC11.out
          have hcq := Kd.C_string (P := Try.prog) (c := c12) Try.underlying23 Try.underlying5 Try.underlying9 HC12.out
          have hcr := Kd.C_string (P := Try.prog) (c := c13) Try.underlying23 Try.underlying5 Try.underlying9 HC13.out
          obtain ⟨j1, j2⟩ := HJ.out
          clear HJ
          (try dsimp only at j1 j2)
          subst j1
          have HSJ := Lib.hid j2
          clear j2
          have hss : (strOfNums Q).size + (strOfNums R).size ≤ 9223372036854775807 := by
            rw [str_size, str_size]
            omega
          cases one <;> cases two
          · skip
            skip
            go_wp2_with (fail)
            go_ret
            exact ⟨by simp, hB13⟩
          · skip
            skip
            go_wp2_with (fail)
            go_ret
            exact ⟨by simp, hB13⟩
          · skip
            skip
            go_wp2_with (fail)
            go_ret
            exact ⟨by simp, hB13⟩
          · skip
            have HS3 := Lib.hid (HSJ.out rfl)
            go_wp2_with (fail)
            go_ret
            exact ⟨by simp [HS3.out, str_append], hB13⟩
      · skip
        have ki1 : (l1.length : Int) < a2 := by omega
        go_wp2_with (fail)
        go_ret
        exact ⟨rfl, hB10⟩
    · skip
      have ki0 : a2 < 0 := by omega
      go_wp2_with (fail)
      go_ret
      exact ⟨rfl, hB10⟩
  · skip
    have gi1 : (60 : Int) < (l1.length : Int) := by omega
    go_wp2_with (fail)
    go_ret
    exact ⟨rfl, hB10⟩

end Go.Proofs.Ytodjlacbjcbafaa.H
