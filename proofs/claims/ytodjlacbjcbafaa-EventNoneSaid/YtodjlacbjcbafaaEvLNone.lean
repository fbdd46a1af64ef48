import Derived.Test.YtodjlacbjcbafaaEvO
import Derived.Test.YtodjlacbjcbafaaRowS
import Derived.Deep.RegionHeld3
import Derived.Deep.RegionHeldLaw
import Derived.Deep.QuietTactic
import Derived.BigQuiet
import Derived.OpenShut
/-! The law EventNone, walked. -/
namespace Go.Proofs.Ytodjlacbjcbafaa.H
open Go.RowKit Moor Go.Proofs.YtodjlacbjcbafaaW.PrintWords Go.Proofs.YtodjlacbjcbafaaW.PrintLast Go.Proofs.YtodjlacbjcbafaaW.PrintMore
set_option linter.unusedVariables false
set_option linter.unusedSimpArgs false

set_option maxRecDepth 100000 in
set_option maxHeartbeats 8000000 in
theorem eventNone_walk (a0 : Int) (e1 : Ev) (w : World) (hw0 : (Lit.int .i64 a0).wf = true) :
    Calls Try.prog 9 #[.int .i64 a0, .agg (cellsE e1)] w fun e w' => e = .returned (.bool true) ∧ Below w.heap.size w w' := by
  go_enter Try.func9, Try.ntmps9
  go_wp2_with (fail)
  have hbx1 := EvB.new w e1
  have hBa : Below w.heap.size w (w.alloc (.cells (cellsE e1) 34)) := below_alloc (Below.refl _ _) _
  refine (awake_true _).mono ?_
  rintro e w10 ⟨rfl, hb1⟩
  have hB10 : Below w.heap.size w w10 := hBa.trans (hb1.mono hBa.size)
  replace hbx1 := hbx1.below hb1
  obtain ⟨x1_0, x1_1, x1_2, x1_3, x1_4, x1_5, x1_6, x1_7, x1_8⟩ := hbx1.nine
  clear hb1 hBa
  obtain ⟨bo, hbo⟩ : ∃ b, decide (okFrom a0) = b := ⟨_, rfl⟩
  have HBO := Lib.hid hbo
  obtain ⟨P, hP⟩ : ∃ P, putE a0 [e1] = P := ⟨_, rfl⟩
  have SH := fun h => putE_one (f := a0) (e := e1) h
  rw [hP] at SH
  have HS := Lib.hid SH
  have HP := Lib.hid hP
  clear SH hP hbo
  go_wp2_with (fail)
  have q := eput_calls a0 [] none 0 w10 (Kd.C_nil _ _) (Nat.le_refl _) (by simp)
  rw [putE_nil] at q
  rw [HBO.out] at q
  refine q.mono ?_
  clear q
  rintro e w11 ⟨A11, c11, rfl, hc11, hC11, hb11⟩
  dsimp only at hc11 hC11 ⊢
  replace hbx1 := hbx1.below hb11
  clear x1_0 x1_1 x1_2 x1_3 x1_4 x1_5 x1_6 x1_7 x1_8
  obtain ⟨x1_0, x1_1, x1_2, x1_3, x1_4, x1_5, x1_6, x1_7, x1_8⟩ := hbx1.nine
  have hB11 : Below w.heap.size w w11 := hB10.trans (hb11.mono hB10.size)
  clear hb11
  have HC11 := Lib.hid hC11
  clear hC11
  go_wp2_with (fail)
  have q := egot_calls a0 none 0 [] w11 (Kd.C_nil _ _) (Nat.le_refl _) okB_nil (by simp)
  rw [readE_nil] at q
  rw [HBO.out] at q
  refine q.mono ?_
  clear q
  rintro e w12 ⟨A12, c12, rfl, hc12, hC12, hb12⟩
  dsimp only at hc12 hC12 ⊢
  replace hbx1 := hbx1.below hb12
  clear x1_0 x1_1 x1_2 x1_3 x1_4 x1_5 x1_6 x1_7 x1_8
  obtain ⟨x1_0, x1_1, x1_2, x1_3, x1_4, x1_5, x1_6, x1_7, x1_8⟩ := hbx1.nine
  replace HC11 := Lib.hid (Kd.C_below HC11.out hb12)
  have hB12 : Below w.heap.size w w12 := hB11.trans (hb12.mono hB11.size)
  clear hb12
  have HC12 := Lib.hid hC12
  clear hC12
  go_wp2_with (fail)
  have hLA : Below w12.heap.size w12 (w12.alloc (.cells (cellsE e1) 34)) := below_alloc (Below.refl _ _) _
  have q := eput_calls a0 [e1] (some ⟨w12.heap.size, 0, none⟩) 1 _ (one_evW w12 e1) (Nat.le_refl _) (by simp)
  rw [HP.out] at q
  refine q.mono ?_
  clear q
  rintro e w13 ⟨A13, c13, rfl, hc13, hC13, hb13⟩
  dsimp only at hc13 hC13 ⊢
  replace hb13 : Below w12.heap.size w12 w13 := hLA.trans (hb13.mono hLA.size)
  clear hLA
  replace hbx1 := hbx1.below hb13
  clear x1_0 x1_1 x1_2 x1_3 x1_4 x1_5 x1_6 x1_7 x1_8
  obtain ⟨x1_0, x1_1, x1_2, x1_3, x1_4, x1_5, x1_6, x1_7, x1_8⟩ := hbx1.nine
  replace HC11 := Lib.hid (Kd.C_below HC11.out hb13)
  replace HC12 := Lib.hid (Kd.C_below HC12.out hb13)
  have hB13 : Below w.heap.size w w13 := hB12.trans (hb13.mono hB12.size)
  clear hb13
  have HC13 := Lib.hid hC13
  clear hC13
  clear HP
  obtain ⟨P, is_⟩ := P
  dsimp only at *
  have SH := HS.out
  clear HS
  by_cases h0 : 0 ≤ a0
  · skip
    by_cases h1 : a0 ≤ 1073741824
    · skip
      obtain rfl : bo = true := by rw [← HBO.out]; exact decide_eq_true ⟨h0, h1⟩
      have h0' : a0 ≥ 0 := h0
      cases is_ with
      | true =>
          obtain ⟨hm, -⟩ := SH rfl
          clear SH
          have hk := may_kind hm
          have k0 : e1.kind ≥ 0 := hk.1
          have k1 : e1.kind < 7 := by omega
          have k1b : decide (e1.kind < 7) = true := decide_eq_true k1
          have HM := Lib.hid hm
          clear hk hm
          go_wp2_with (fail)
          have q := emay_calls e1 w13
          refine q.mono ?_
          clear q
          rintro e w14 ⟨rfl, hb14⟩
          skip
          replace hbx1 := hbx1.below hb14
          clear x1_0 x1_1 x1_2 x1_3 x1_4 x1_5 x1_6 x1_7 x1_8
          obtain ⟨x1_0, x1_1, x1_2, x1_3, x1_4, x1_5, x1_6, x1_7, x1_8⟩ := hbx1.nine
          replace HC11 := Lib.hid (Kd.C_below HC11.out hb14)
          replace HC12 := Lib.hid (Kd.C_below HC12.out hb14)
          replace HC13 := Lib.hid (Kd.C_below HC13.out hb14)
          have hB14 : Below w.heap.size w w14 := hB13.trans (hb14.mono hB13.size)
          clear hb14
          have HD : Hid (decide (evMay e1) = true) := Lib.hid (decide_eq_true HM.out)
          rw [HD.out]
          go_wp2_with (fail)
          go_ret
          exact ⟨by simp, hB14⟩
      | false =>
          clear SH
          go_wp2_with (fail)
          go_ret
          exact ⟨by simp, hB13⟩
    · skip
      obtain rfl : bo = false := by rw [← HBO.out]; exact decide_eq_false (fun h => h1 h.2)
      have h0' : a0 ≥ 0 := h0
      cases is_ with
      | true =>
          obtain ⟨hm, -⟩ := SH rfl
          clear SH
          have hk := may_kind hm
          have k0 : e1.kind ≥ 0 := hk.1
          have k1 : e1.kind < 7 := by omega
          have k1b : decide (e1.kind < 7) = true := decide_eq_true k1
          have HM := Lib.hid hm
          clear hk hm
          go_wp2_with (fail)
          have q := emay_calls e1 w13
          refine q.mono ?_
          clear q
          rintro e w14 ⟨rfl, hb14⟩
          skip
          replace hbx1 := hbx1.below hb14
          clear x1_0 x1_1 x1_2 x1_3 x1_4 x1_5 x1_6 x1_7 x1_8
          obtain ⟨x1_0, x1_1, x1_2, x1_3, x1_4, x1_5, x1_6, x1_7, x1_8⟩ := hbx1.nine
          replace HC11 := Lib.hid (Kd.C_below HC11.out hb14)
          replace HC12 := Lib.hid (Kd.C_below HC12.out hb14)
          replace HC13 := Lib.hid (Kd.C_below HC13.out hb14)
          have hB14 : Below w.heap.size w w14 := hB13.trans (hb14.mono hB13.size)
          clear hb14
          have HD : Hid (decide (evMay e1) = true) := Lib.hid (decide_eq_true HM.out)
          rw [HD.out]
          go_wp2_with (fail)
          go_ret
          exact ⟨by simp, hB14⟩
      | false =>
          clear SH
          go_wp2_with (fail)
          go_ret
          exact ⟨by simp, hB13⟩
  · skip
    obtain rfl : bo = false := by rw [← HBO.out]; exact decide_eq_false (fun h => h0 h.1)
    have h0' : ¬ a0 ≥ 0 := h0
    cases is_ with
    | true =>
        obtain ⟨hm, -⟩ := SH rfl
        clear SH
        have hk := may_kind hm
        have k0 : e1.kind ≥ 0 := hk.1
        have k1 : e1.kind < 7 := by omega
        have k1b : decide (e1.kind < 7) = true := decide_eq_true k1
        have HM := Lib.hid hm
        clear hk hm
        go_wp2_with (fail)
        have q := emay_calls e1 w13
        refine q.mono ?_
        clear q
        rintro e w14 ⟨rfl, hb14⟩
        skip
        replace hbx1 := hbx1.below hb14
        clear x1_0 x1_1 x1_2 x1_3 x1_4 x1_5 x1_6 x1_7 x1_8
        obtain ⟨x1_0, x1_1, x1_2, x1_3, x1_4, x1_5, x1_6, x1_7, x1_8⟩ := hbx1.nine
        replace HC11 := Lib.hid (Kd.C_below HC11.out hb14)
        replace HC12 := Lib.hid (Kd.C_below HC12.out hb14)
        replace HC13 := Lib.hid (Kd.C_below HC13.out hb14)
        have hB14 : Below w.heap.size w w14 := hB13.trans (hb14.mono hB13.size)
        clear hb14
        have HD : Hid (decide (evMay e1) = true) := Lib.hid (decide_eq_true HM.out)
        rw [HD.out]
        go_wp2_with (fail)
        go_ret
        exact ⟨by simp, hB14⟩
    | false =>
        clear SH
        go_wp2_with (fail)
        go_ret
        exact ⟨by simp, hB13⟩

end Go.Proofs.Ytodjlacbjcbafaa.H
