import Derived.Test.YtiopafdndlodoaaWireAw
import Derived.Test.YtiopafdndlodoaaRowS
import Derived.Deep.RegionHeld3
import Derived.Deep.RegionHeldLaw
import Derived.Deep.QuietTactic
import Derived.BigQuiet
import Derived.OpenShut
/-! The law WireKinds, walked. -/
namespace Go.Proofs.Ytiopafdndlodoaa.H
open Go.RowKit Moor Go.Proofs.YtiopafdndlodoaaW.PrintWords Go.Proofs.YtiopafdndlodoaaW.PrintLast Go.Proofs.YtiopafdndlodoaaW.PrintMore
set_option linter.unusedVariables false
set_option linter.unusedSimpArgs false

set_option maxRecDepth 100000 in
set_option maxHeartbeats 4000000 in
theorem eq_runQ (p r : Rq) (W : World) : (binOp .eql 25 (.agg (cellsQ p)) (.agg (cellsQ r))).run Try.prog W = .ok (.bool (decide (p = r))) W := by
  by_cases h_kind : p.kind = r.kind
  · skip
    by_cases h_sub : p.sub = r.sub
    · skip
      by_cases h_addr : p.addr = r.addr
      · skip
        by_cases h_blk : p.blk = r.blk
        · skip
          by_cases h_n : p.n = r.n
          · skip
            by_cases h_q : p.q = r.q
            · skip
              by_cases h_i : p.i = r.i
              · skip
                by_cases h_h : p.h = r.h
                · skip
                  by_cases h_pair : p.pair = r.pair
                  · skip
                    have e : p = r := by cases p; cases r; simp_all
                    subst e
                    rw [decide_eq_true rfl]
                    clear h_kind h_sub h_addr h_blk h_n h_q h_i h_h h_pair
                    go_simp
                  · skip
                    rw [decide_eq_false (fun e : p = r => h_pair (by rw [e]))]
                    go_simp
                · skip
                  rw [decide_eq_false (fun e : p = r => h_h (by rw [e]))]
                  go_simp
              · skip
                rw [decide_eq_false (fun e : p = r => h_i (by rw [e]))]
                go_simp
            · skip
              rw [decide_eq_false (fun e : p = r => h_q (by rw [e]))]
              go_simp
          · skip
            rw [decide_eq_false (fun e : p = r => h_n (by rw [e]))]
            go_simp
        · skip
          rw [decide_eq_false (fun e : p = r => h_blk (by rw [e]))]
          go_simp
      · skip
        rw [decide_eq_false (fun e : p = r => h_addr (by rw [e]))]
        go_simp
    · skip
      rw [decide_eq_false (fun e : p = r => h_sub (by rw [e]))]
      go_simp
  · skip
    rw [decide_eq_false (fun e : p = r => h_kind (by rw [e]))]
    go_simp
set_option maxRecDepth 100000 in
set_option maxHeartbeats 4000000 in
theorem eq_runA (p r : Aw) (W : World) : (binOp .eql 28 (.agg (cellsA p)) (.agg (cellsA r))).run Try.prog W = .ok (.bool (decide (p = r))) W := by
  by_cases h_e : p.e = r.e
  · skip
    by_cases h_a : p.a = r.a
    · skip
      by_cases h_b : p.b = r.b
      · skip
        have e : p = r := by cases p; cases r; simp_all
        subst e
        rw [decide_eq_true rfl]
        clear h_e h_a h_b
        go_simp
      · skip
        rw [decide_eq_false (fun e : p = r => h_b (by rw [e]))]
        go_simp
    · skip
      rw [decide_eq_false (fun e : p = r => h_a (by rw [e]))]
      go_simp
  · skip
    rw [decide_eq_false (fun e : p = r => h_e (by rw [e]))]
    go_simp
attribute [local go_sem ↓] eq_runQ eq_runA
set_option maxRecDepth 100000 in
set_option maxHeartbeats 32000000 in
theorem wireKinds_walk (e0 : Rq) (e1 : Rq) (e2 : Aw) (e3 : Aw) (w : World)  :
    Calls Try.prog 6 #[.agg (cellsQ e0), .agg (cellsQ e1), .agg (cellsA e2), .agg (cellsA e3)] w fun e w' => e = .returned (.bool true) ∧ Below w.heap.size w w' := by
  go_enter Try.func6, Try.ntmps6
  go_wp2_with (fail)
  have hbx0 := QC.new w (cellsQ e0)
  have hBa0 : Below w.heap.size w (w.alloc (.cells (cellsQ e0) 25)) := below_alloc (Below.refl _ _) _
  have hbx1 := QC.new (w.alloc (.cells (cellsQ e0) 25)) (cellsQ e1)
  simp only [World.size_alloc] at hbx1
  replace hbx0 := hbx0.below (below_alloc (Below.refl _ _) (.cells (cellsQ e1) 25))
  have hBa1 : Below w.heap.size w ((w.alloc (.cells (cellsQ e0) 25)).alloc (.cells (cellsQ e1) 25)) := below_alloc hBa0 _
  have hbx2 := AC.new ((w.alloc (.cells (cellsQ e0) 25)).alloc (.cells (cellsQ e1) 25)) e2
  simp only [World.size_alloc] at hbx2
  replace hbx0 := hbx0.below (below_alloc (Below.refl _ _) (.cells (cellsA e2) 28))
  replace hbx1 := hbx1.below (below_alloc (Below.refl _ _) (.cells (cellsA e2) 28))
  have hBa2 : Below w.heap.size w (((w.alloc (.cells (cellsQ e0) 25)).alloc (.cells (cellsQ e1) 25)).alloc (.cells (cellsA e2) 28)) := below_alloc hBa1 _
  have hbx3 := AC.new (((w.alloc (.cells (cellsQ e0) 25)).alloc (.cells (cellsQ e1) 25)).alloc (.cells (cellsA e2) 28)) e3
  simp only [World.size_alloc] at hbx3
  replace hbx0 := hbx0.below (below_alloc (Below.refl _ _) (.cells (cellsA e3) 28))
  replace hbx1 := hbx1.below (below_alloc (Below.refl _ _) (.cells (cellsA e3) 28))
  replace hbx2 := hbx2.below (below_alloc (Below.refl _ _) (.cells (cellsA e3) 28))
  have hBa3 : Below w.heap.size w ((((w.alloc (.cells (cellsQ e0) 25)).alloc (.cells (cellsQ e1) 25)).alloc (.cells (cellsA e2) 28)).alloc (.cells (cellsA e3) 28)) := below_alloc hBa2 _
  refine (awake_true _).mono ?_
  rintro e w10 ⟨rfl, hb10⟩
  have hB10 : Below w.heap.size w w10 := hBa3.trans (hb10.mono hBa3.size)
  replace hbx0 := hbx0.below hb10
  replace hbx1 := hbx1.below hb10
  replace hbx2 := hbx2.below hb10
  replace hbx3 := hbx3.below hb10
  clear hb10 hBa0 hBa1 hBa2 hBa3
  obtain ⟨x0_0, x0_1, x0_2, x0_3, x0_4, x0_5, x0_6, x0_7, x0_8⟩ := hbx0.nine
  obtain ⟨x1_0, x1_1, x1_2, x1_3, x1_4, x1_5, x1_6, x1_7, x1_8⟩ := hbx1.nine
  obtain ⟨x2_0, x2_1, x2_2⟩ := hbx2.three
  obtain ⟨x3_0, x3_1, x3_2⟩ := hbx3.three
  obtain ⟨P, hP⟩ : ∃ P, wPut e0 = P := ⟨_, rfl⟩
  obtain ⟨R, hR⟩ : ∃ P, wPut e1 = P := ⟨_, rfl⟩
  obtain ⟨T, hT⟩ : ∃ P, wTell e2 = P := ⟨_, rfl⟩
  obtain ⟨U, hU⟩ : ∃ P, wTell e3 = P := ⟨_, rfl⟩
  have h1 := (wPut_long e0).1
  have h2 := (wPut_long e1).1
  have h3 := (wTell_long e2).1
  have h4 := (wTell_long e3).1
  have h5 := fun a b => wPut_inj (r := e0) (s := e1) a b
  have h6 := fun a b => wTell_inj (r := e2) (s := e3) a b
  rw [hP] at h1 h5
  rw [hR] at h2 h5
  rw [hT] at h3 h6
  rw [hU] at h4 h6
  have HP := Lib.hid hP
  have HR := Lib.hid hR
  have HT := Lib.hid hT
  have HU := Lib.hid hU
  have HPO := Lib.hid h1
  have HRO := Lib.hid h2
  have HTO := Lib.hid h3
  have HUO := Lib.hid h4
  have HI := Lib.hid h5
  have HJ := Lib.hid h6
  clear hP hR hT hU h1 h2 h3 h4 h5 h6
  go_wp2_with (fail)
  have q := wPut_calls e0 w10
  rw [HP.out] at q
  refine q.mono ?_
  clear q
  rintro e w11 ⟨A11, c11, rfl, hc11, hC11, hb11⟩
  dsimp only at hc11 hC11 ⊢
  replace hbx0 := hbx0.below hb11
  clear x0_0 x0_1 x0_2 x0_3 x0_4 x0_5 x0_6 x0_7 x0_8
  obtain ⟨x0_0, x0_1, x0_2, x0_3, x0_4, x0_5, x0_6, x0_7, x0_8⟩ := hbx0.nine
  replace hbx1 := hbx1.below hb11
  clear x1_0 x1_1 x1_2 x1_3 x1_4 x1_5 x1_6 x1_7 x1_8
  obtain ⟨x1_0, x1_1, x1_2, x1_3, x1_4, x1_5, x1_6, x1_7, x1_8⟩ := hbx1.nine
  replace hbx2 := hbx2.below hb11
  clear x2_0 x2_1 x2_2
  obtain ⟨x2_0, x2_1, x2_2⟩ := hbx2.three
  replace hbx3 := hbx3.below hb11
  clear x3_0 x3_1 x3_2
  obtain ⟨x3_0, x3_1, x3_2⟩ := hbx3.three
  have hB11 : Below w.heap.size w w11 := hB10.trans (hb11.mono hB10.size)
  clear hb11
  have HC11 := Lib.hid hC11
  clear hC11
  go_wp2_with (fail)
  have q := wPut_calls e1 w11
  rw [HR.out] at q
  refine q.mono ?_
  clear q
  rintro e w12 ⟨A12, c12, rfl, hc12, hC12, hb12⟩
  dsimp only at hc12 hC12 ⊢
  replace hbx0 := hbx0.below hb12
  clear x0_0 x0_1 x0_2 x0_3 x0_4 x0_5 x0_6 x0_7 x0_8
  obtain ⟨x0_0, x0_1, x0_2, x0_3, x0_4, x0_5, x0_6, x0_7, x0_8⟩ := hbx0.nine
  replace hbx1 := hbx1.below hb12
  clear x1_0 x1_1 x1_2 x1_3 x1_4 x1_5 x1_6 x1_7 x1_8
  obtain ⟨x1_0, x1_1, x1_2, x1_3, x1_4, x1_5, x1_6, x1_7, x1_8⟩ := hbx1.nine
  replace hbx2 := hbx2.below hb12
  clear x2_0 x2_1 x2_2
  obtain ⟨x2_0, x2_1, x2_2⟩ := hbx2.three
  replace hbx3 := hbx3.below hb12
  clear x3_0 x3_1 x3_2
  obtain ⟨x3_0, x3_1, x3_2⟩ := hbx3.three
  replace HC11 := Lib.hid (Kd.C_below HC11.out hb12)
  have hB12 : Below w.heap.size w w12 := hB11.trans (hb12.mono hB11.size)
  clear hb12
  have HC12 := Lib.hid hC12
  clear hC12
  go_wp2_with (fail)
  have q := wtell_calls e2 w12
  rw [HT.out] at q
  refine q.mono ?_
  clear q
  rintro e w13 ⟨A13, c13, rfl, hc13, hC13, hb13⟩
  dsimp only at hc13 hC13 ⊢
  replace hbx0 := hbx0.below hb13
  clear x0_0 x0_1 x0_2 x0_3 x0_4 x0_5 x0_6 x0_7 x0_8
  obtain ⟨x0_0, x0_1, x0_2, x0_3, x0_4, x0_5, x0_6, x0_7, x0_8⟩ := hbx0.nine
  replace hbx1 := hbx1.below hb13
  clear x1_0 x1_1 x1_2 x1_3 x1_4 x1_5 x1_6 x1_7 x1_8
  obtain ⟨x1_0, x1_1, x1_2, x1_3, x1_4, x1_5, x1_6, x1_7, x1_8⟩ := hbx1.nine
  replace hbx2 := hbx2.below hb13
  clear x2_0 x2_1 x2_2
  obtain ⟨x2_0, x2_1, x2_2⟩ := hbx2.three
  replace hbx3 := hbx3.below hb13
  clear x3_0 x3_1 x3_2
  obtain ⟨x3_0, x3_1, x3_2⟩ := hbx3.three
  replace HC11 := Lib.hid (Kd.C_below HC11.out hb13)
  replace HC12 := Lib.hid (Kd.C_below HC12.out hb13)
  have hB13 : Below w.heap.size w w13 := hB12.trans (hb13.mono hB12.size)
  clear hb13
  have HC13 := Lib.hid hC13
  clear hC13
  go_wp2_with (fail)
  have q := wtell_calls e3 w13
  rw [HU.out] at q
  refine q.mono ?_
  clear q
  rintro e w14 ⟨A14, c14, rfl, hc14, hC14, hb14⟩
  dsimp only at hc14 hC14 ⊢
  replace hbx0 := hbx0.below hb14
  clear x0_0 x0_1 x0_2 x0_3 x0_4 x0_5 x0_6 x0_7 x0_8
  obtain ⟨x0_0, x0_1, x0_2, x0_3, x0_4, x0_5, x0_6, x0_7, x0_8⟩ := hbx0.nine
  replace hbx1 := hbx1.below hb14
  clear x1_0 x1_1 x1_2 x1_3 x1_4 x1_5 x1_6 x1_7 x1_8
  obtain ⟨x1_0, x1_1, x1_2, x1_3, x1_4, x1_5, x1_6, x1_7, x1_8⟩ := hbx1.nine
  replace hbx2 := hbx2.below hb14
  clear x2_0 x2_1 x2_2
  obtain ⟨x2_0, x2_1, x2_2⟩ := hbx2.three
  replace hbx3 := hbx3.below hb14
  clear x3_0 x3_1 x3_2
  obtain ⟨x3_0, x3_1, x3_2⟩ := hbx3.three
  replace HC11 := Lib.hid (Kd.C_below HC11.out hb14)
  replace HC12 := Lib.hid (Kd.C_below HC12.out hb14)
  replace HC13 := Lib.hid (Kd.C_below HC13.out hb14)
  have hB14 : Below w.heap.size w w14 := hB13.trans (hb14.mono hB13.size)
  clear hb14
  have HC14 := Lib.hid hC14
  clear hC14
  clear HP HR HT HU
  obtain ⟨P, is_⟩ := P
  obtain ⟨R, can⟩ := R
  obtain ⟨T, has⟩ := T
  obtain ⟨U, had⟩ := U
  dsimp only at *
  have hcp := fun n => Kd.C_string (P := Try.prog) (c := c11) Try.underlying29 Try.underlying5 Try.underlying9 (Kd.C_drewN HC11.out n)
  have hcq := fun n => Kd.C_string (P := Try.prog) (c := c12) Try.underlying29 Try.underlying5 Try.underlying9 (Kd.C_drewN HC12.out n)
  have hct := fun n => Kd.C_string (P := Try.prog) (c := c13) Try.underlying29 Try.underlying5 Try.underlying9 (Kd.C_drewN HC13.out n)
  have hcu := fun n => Kd.C_string (P := Try.prog) (c := c14) Try.underlying29 Try.underlying5 Try.underlying9 (Kd.C_drewN HC14.out n)
  obtain ⟨b1, hb1⟩ : ∃ b, decide (e0 = e1) = b := ⟨_, rfl⟩
  obtain ⟨b2, hb2⟩ : ∃ b, decide (e2 = e3) = b := ⟨_, rfl⟩
  have HB1 := Lib.hid hb1
  have HB2 := Lib.hid hb2
  cases is_ with
  | true =>
      cases can with
      | true =>
          have hsp : ((strOfNums P).toList == (strOfNums R).toList) = b1 := by rw [str_eq HPO.out HRO.out, ← HB1.out]; exact decide_eq_decide.2 (HI.out rfl rfl)
          cases has with
          | true =>
              cases had with
              | true =>
                  have hsu : ((strOfNums T).toList == (strOfNums U).toList) = b2 := by rw [str_eq HTO.out HUO.out, ← HB2.out]; exact decide_eq_decide.2 (HJ.out rfl rfl)
                  go_wp2_with (fail)
                  go_quiet (fail)
                  all_goals
                    go_wp2_with (fail)
                    go_ret
                    exact ⟨by simp, pw_below_drewN hB14 _⟩
              | false =>
                  go_wp2_with (fail)
                  go_quiet (fail)
                  all_goals
                    go_wp2_with (fail)
                    go_ret
                    exact ⟨by simp, pw_below_drewN hB14 _⟩
          | false =>
              go_wp2_with (fail)
              go_quiet (fail)
              all_goals
                go_wp2_with (fail)
                go_ret
                exact ⟨by simp, pw_below_drewN hB14 _⟩
      | false =>
          cases has with
          | true =>
              cases had with
              | true =>
                  have hsu : ((strOfNums T).toList == (strOfNums U).toList) = b2 := by rw [str_eq HTO.out HUO.out, ← HB2.out]; exact decide_eq_decide.2 (HJ.out rfl rfl)
                  go_wp2_with (fail)
                  go_quiet (fail)
                  all_goals
                    go_wp2_with (fail)
                    go_ret
                    exact ⟨by simp, pw_below_drewN hB14 _⟩
              | false =>
                  go_wp2_with (fail)
                  go_quiet (fail)
                  all_goals
                    go_wp2_with (fail)
                    go_ret
                    exact ⟨by simp, pw_below_drewN hB14 _⟩
          | false =>
              go_wp2_with (fail)
              go_quiet (fail)
              all_goals
                go_wp2_with (fail)
                go_ret
                exact ⟨by simp, pw_below_drewN hB14 _⟩
  | false =>
      cases has with
      | true =>
          cases had with
          | true =>
              have hsu : ((strOfNums T).toList == (strOfNums U).toList) = b2 := by rw [str_eq HTO.out HUO.out, ← HB2.out]; exact decide_eq_decide.2 (HJ.out rfl rfl)
              go_wp2_with (fail)
              go_quiet (fail)
              all_goals
                go_wp2_with (fail)
                go_ret
                exact ⟨by simp, pw_below_drewN hB14 _⟩
          | false =>
              go_wp2_with (fail)
              go_quiet (fail)
              all_goals
                go_wp2_with (fail)
                go_ret
                exact ⟨by simp, pw_below_drewN hB14 _⟩
      | false =>
          go_wp2_with (fail)
          go_quiet (fail)
          all_goals
            go_wp2_with (fail)
            go_ret
            exact ⟨by simp, pw_below_drewN hB14 _⟩

end Go.Proofs.Ytiopafdndlodoaa.H
