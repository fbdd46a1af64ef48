import Derived.Test.YtodjlacbjcbafaaEvO
import Derived.Test.YtodjlacbjcbafaaRowS
import Derived.Deep.RegionHeld3
import Derived.Deep.RegionHeldLaw
import Derived.Deep.QuietTactic
import Derived.BigQuiet
import Derived.OpenShut
/-! The law EventStays, walked. -/
namespace Go.Proofs.Ytodjlacbjcbafaa.H
open Go.RowKit Moor Go.Proofs.YtodjlacbjcbafaaW.PrintWords Go.Proofs.YtodjlacbjcbafaaW.PrintLast Go.Proofs.YtodjlacbjcbafaaW.PrintMore
set_option linter.unusedVariables false
set_option linter.unusedSimpArgs false

theorem below_onE {w1 w2 w3 : World} (h : Below w2.heap.size w2 w3) (k : Below w1.heap.size w1 w2) : Below w1.heap.size w1 w3 := k.trans (h.mono k.size)
theorem emay_yes (e : Ev) (h : evMay e) (w : World) : Calls Try.prog 17 #[.agg #[.int .i64 e.kind, .int .i64 e.at_, .int .i64 e.a, .int .i64 e.b, .int .i64 e.c, .int .i64 e.q, .int .i64 e.i, .int .i64 e.h, .bool e.pair]] w fun x w' => x = .returned (.bool true) ∧ Below w.heap.size w w' :=
  (emay_calls e w).mono fun x w' h2 => by rw [decide_eq_true h] at h2; exact h2
theorem add_posE (ad : Addr) (j : Nat) (h : 0 < j) : ad.add j = ⟨ad.block, ad.off + j, none⟩ := by
  have q := add_field ad 0 j h
  rw [Nat.zero_add, add_zeroR] at q
  exact q
theorem row_nine {W : World} {ad : Addr} {e : Ev} (h : Kd.C kE W (some ad) (([e] : List Ev).map toE).length ([e].map toE)) : W.cell? ad = some (.int .i64 e.kind) ∧ W.cell? ⟨ad.block, ad.off + 1, none⟩ = some (.int .i64 e.at_) ∧ W.cell? ⟨ad.block, ad.off + 2, none⟩ = some (.int .i64 e.a) ∧ W.cell? ⟨ad.block, ad.off + 3, none⟩ = some (.int .i64 e.b) ∧ W.cell? ⟨ad.block, ad.off + 4, none⟩ = some (.int .i64 e.c) ∧ W.cell? ⟨ad.block, ad.off + 5, none⟩ = some (.int .i64 e.q) ∧ W.cell? ⟨ad.block, ad.off + 6, none⟩ = some (.int .i64 e.i) ∧ W.cell? ⟨ad.block, ad.off + 7, none⟩ = some (.int .i64 e.h) ∧ W.cell? ⟨ad.block, ad.off + 8, none⟩ = some (.bool e.pair) := by
  obtain ⟨ad', e1, hc⟩ := h.2.2 (by simp)
  cases e1
  obtain ⟨cs, h1, h2, h3⟩ := hc 0 (toE e) rfl
  rw [B.k34_open h2] at h3
  have hz : ∀ i, ad.add (0 * kE.sz + i) = ad.add i := fun i => by rw [Nat.zero_mul, Nat.zero_add]
  refine ⟨?_, ?_, ?_, ?_, ?_, ?_, ?_, ?_, ?_⟩
  · have q := h3 0 _ rfl; rw [hz, add_zeroR] at q; exact q
  · have q := h3 1 _ rfl; rw [hz, add_posE ad 1 (by decide)] at q; exact q
  · have q := h3 2 _ rfl; rw [hz, add_posE ad 2 (by decide)] at q; exact q
  · have q := h3 3 _ rfl; rw [hz, add_posE ad 3 (by decide)] at q; exact q
  · have q := h3 4 _ rfl; rw [hz, add_posE ad 4 (by decide)] at q; exact q
  · have q := h3 5 _ rfl; rw [hz, add_posE ad 5 (by decide)] at q; exact q
  · have q := h3 6 _ rfl; rw [hz, add_posE ad 6 (by decide)] at q; exact q
  · have q := h3 7 _ rfl; rw [hz, add_posE ad 7 (by decide)] at q; exact q
  · have q := h3 8 _ rfl; rw [hz, add_posE ad 8 (by decide)] at q; exact q

set_option maxRecDepth 100000 in
set_option maxHeartbeats 8000000 in
theorem eventStays_walk (a0 : Int) (e1 : Ev) (a2 : Int) (w : World) (hw0 : (Lit.int .i64 a0).wf = true) (hw2 : (Lit.int .i64 a2).wf = true) :
    Calls Try.prog 7 #[.int .i64 a0, .agg (cellsE e1), .int .i64 a2] w fun e w' => e = .returned (.bool true) ∧ Below w.heap.size w w' := by
  go_enter Try.func7, Try.ntmps7
  go_wp2_with (fail)
  have hbx1 := EvB.new w e1
  have hBa : Below w.heap.size w (w.alloc (.cells (cellsE e1) 34)) := below_alloc (Below.refl _ _) _
  refine (awake_true _).mono ?_
  rintro e w10 ⟨rfl, hb1⟩
  have hB10 : Below w.heap.size w w10 := hBa.trans (hb1.mono hBa.size)
  replace hbx1 := hbx1.below hb1
  obtain ⟨x1_0, x1_1, x1_2, x1_3, x1_4, x1_5, x1_6, x1_7, x1_8⟩ := hbx1.nine
  clear hb1 hBa
  obtain ⟨P, hP⟩ : ∃ P, putE a0 [e1] = P := ⟨_, rfl⟩
  have HSH := Lib.hid (fun h => putE_one (f := a0) (e := e1) h)
  have HRD := Lib.hid (fun h => readE_put (f := a0) (l := [e1]) h)
  have hPo := putE_ok a0 [e1]
  rw [hP] at HSH HRD hPo
  have HP := Lib.hid hP
  clear hP
  obtain ⟨Q, hQ⟩ : ∃ P, putE a2 [e1] = P := ⟨_, rfl⟩
  have HSQ := Lib.hid (fun h => putE_one (f := a2) (e := e1) h)
  rw [hQ] at HSQ
  have HQ := Lib.hid hQ
  clear hQ
  go_wp2_with (fail)
  have hLA : Below w10.heap.size w10 (w10.alloc (.cells (cellsE e1) 34)) := below_alloc (Below.refl _ _) _
  have q := eput_calls a0 [e1] (some ⟨w10.heap.size, 0, none⟩) 1 _ (one_evW w10 e1) (Nat.le_refl _) (by simp)
  rw [HP.out] at q
  refine q.mono ?_
  clear q
  rintro e w11 ⟨A11, c11, rfl, hc11, hC11, hb11⟩
  dsimp only at hc11 hC11 ⊢
  replace hb11 : Below w10.heap.size w10 w11 := hLA.trans (hb11.mono hLA.size)
  clear hLA
  replace hbx1 := hbx1.below hb11
  clear x1_0 x1_1 x1_2 x1_3 x1_4 x1_5 x1_6 x1_7 x1_8
  obtain ⟨x1_0, x1_1, x1_2, x1_3, x1_4, x1_5, x1_6, x1_7, x1_8⟩ := hbx1.nine
  have hB11 : Below w.heap.size w w11 := hB10.trans (hb11.mono hB10.size)
  clear hb11
  have HC11 := Lib.hid hC11
  clear hC11
  clear HP
  obtain ⟨P, is_⟩ := P
  dsimp only at *
  cases is_ with
  | true =>
      obtain ⟨hPo, hPl⟩ := hPo
      have HM := Lib.hid (HSH.out rfl).1
      have HR2 := Lib.hid (HRD.out rfl)
      clear HSH HRD
      go_wp2_with (fail)
      have q := egot_calls a0 A11 c11 P w11 HC11.out hc11 hPo (by omega)
      rw [HR2.out] at q
      refine q.mono ?_
      clear q
      rintro e w12 ⟨A12, c12, rfl, hc12, hC12, hb12⟩
      dsimp only at hc12 hC12 ⊢
      replace hbx1 := hbx1.below hb12
      clear x1_0 x1_1 x1_2 x1_3 x1_4 x1_5 x1_6 x1_7 x1_8
      obtain ⟨x1_0, x1_1, x1_2, x1_3, x1_4, x1_5, x1_6, x1_7, x1_8⟩ := hbx1.nine
      replace HC11 := Lib.hid (Kd.C_below HC11.out hb12)
      have hB12 : Below w.heap.size w w12 := hB11.trans (hb12.mono hB11.size)
      clear hb12
      have HC12 := Lib.hid hC12
      clear hC12
      go_wp2_with (fail)
      have hLA : Below w12.heap.size w12 (w12.alloc (.cells (cellsE e1) 34)) := below_alloc (Below.refl _ _) _
      have q := eput_calls a2 [e1] (some ⟨w12.heap.size, 0, none⟩) 1 _ (one_evW w12 e1) (Nat.le_refl _) (by simp)
      rw [HQ.out] at q
      refine q.mono ?_
      clear q
      rintro e w13 ⟨A13, c13, rfl, hc13, hC13, hb13⟩
      dsimp only at hc13 hC13 ⊢
      replace hb13 : Below w12.heap.size w12 w13 := hLA.trans (hb13.mono hLA.size)
      clear hLA
      replace hbx1 := hbx1.below hb13
      clear x1_0 x1_1 x1_2 x1_3 x1_4 x1_5 x1_6 x1_7 x1_8
      obtain ⟨x1_0, x1_1, x1_2, x1_3, x1_4, x1_5, x1_6, x1_7, x1_8⟩ := hbx1.nine
      replace HC11 := Lib.hid (Kd.C_below HC11.out hb13)
      replace HC12 := Lib.hid (Kd.C_below HC12.out hb13)
      have hB13 : Below w.heap.size w w13 := hB12.trans (hb13.mono hB12.size)
      clear hb13
      have HC13 := Lib.hid hC13
      clear hC13
      clear HQ
      obtain ⟨Q, late⟩ := Q
      dsimp only at *
      obtain ⟨adq, rfl, -⟩ := B.at_T34 HC12.out 0 (by omega) (by simp)
      have HNR := Lib.hid (show ∀ W, Below w13.heap.size w13 W → W.cell? adq = some (.int .i64 e1.kind) ∧ W.cell? ⟨adq.block, adq.off + 1, none⟩ = some (.int .i64 e1.at_) ∧ W.cell? ⟨adq.block, adq.off + 2, none⟩ = some (.int .i64 e1.a) ∧ W.cell? ⟨adq.block, adq.off + 3, none⟩ = some (.int .i64 e1.b) ∧ W.cell? ⟨adq.block, adq.off + 4, none⟩ = some (.int .i64 e1.c) ∧ W.cell? ⟨adq.block, adq.off + 5, none⟩ = some (.int .i64 e1.q) ∧ W.cell? ⟨adq.block, adq.off + 6, none⟩ = some (.int .i64 e1.i) ∧ W.cell? ⟨adq.block, adq.off + 7, none⟩ = some (.int .i64 e1.h) ∧ W.cell? ⟨adq.block, adq.off + 8, none⟩ = some (.bool e1.pair) from fun W h => row_nine (Kd.C_below HC12.out h))
      cases late with
      | true =>
          have hle : a2 ≤ e1.at_ := (HSQ.out rfl).2
          have hleb : decide (a2 ≤ e1.at_) = true := decide_eq_true hle
          have HNe1 := Lib.hid (fun W (h : Below w13.heap.size w13 W) => (EvB.below hbx1 h).nine)
          have HSS := Lib.hid (show ∀ W, Below w13.heap.size w13 W → Below w13.heap.size w13 W ∧ W.cell? ⟨w.heap.size, 0, none⟩ = some (.int .i64 e1.kind) ∧ W.cell? ⟨w.heap.size, 1, none⟩ = some (.int .i64 e1.at_) ∧ W.cell? ⟨w.heap.size, 2, none⟩ = some (.int .i64 e1.a) ∧ W.cell? ⟨w.heap.size, 3, none⟩ = some (.int .i64 e1.b) ∧ W.cell? ⟨w.heap.size, 4, none⟩ = some (.int .i64 e1.c) ∧ W.cell? ⟨w.heap.size, 5, none⟩ = some (.int .i64 e1.q) ∧ W.cell? ⟨w.heap.size, 6, none⟩ = some (.int .i64 e1.i) ∧ W.cell? ⟨w.heap.size, 7, none⟩ = some (.int .i64 e1.h) ∧ W.cell? ⟨w.heap.size, 8, none⟩ = some (.bool e1.pair) ∧ W.cell? adq = some (.int .i64 e1.kind) ∧ W.cell? ⟨adq.block, adq.off + 1, none⟩ = some (.int .i64 e1.at_) ∧ W.cell? ⟨adq.block, adq.off + 2, none⟩ = some (.int .i64 e1.a) ∧ W.cell? ⟨adq.block, adq.off + 3, none⟩ = some (.int .i64 e1.b) ∧ W.cell? ⟨adq.block, adq.off + 4, none⟩ = some (.int .i64 e1.c) ∧ W.cell? ⟨adq.block, adq.off + 5, none⟩ = some (.int .i64 e1.q) ∧ W.cell? ⟨adq.block, adq.off + 6, none⟩ = some (.int .i64 e1.i) ∧ W.cell? ⟨adq.block, adq.off + 7, none⟩ = some (.int .i64 e1.h) ∧ W.cell? ⟨adq.block, adq.off + 8, none⟩ = some (.bool e1.pair) from fun W h => ⟨h, (HNe1.out W h).1, (HNe1.out W h).2.1, (HNe1.out W h).2.2.1, (HNe1.out W h).2.2.2.1, (HNe1.out W h).2.2.2.2.1, (HNe1.out W h).2.2.2.2.2.1, (HNe1.out W h).2.2.2.2.2.2.1, (HNe1.out W h).2.2.2.2.2.2.2.1, (HNe1.out W h).2.2.2.2.2.2.2.2, (HNR.out W h).1, (HNR.out W h).2.1, (HNR.out W h).2.2.1, (HNR.out W h).2.2.2.1, (HNR.out W h).2.2.2.2.1, (HNR.out W h).2.2.2.2.2.1, (HNR.out W h).2.2.2.2.2.2.1, (HNR.out W h).2.2.2.2.2.2.2.1, (HNR.out W h).2.2.2.2.2.2.2.2⟩)
          have D0 := Lib.hid (show Below w13.heap.size w13 w13.drew from (Below.refl _ w13).drew)
          go_wp2_with (fail)
          first
          | (go_region_held_law (fun W => Below w13.heap.size w13 W ∧ W.cell? ⟨w.heap.size, 0, none⟩ = some (.int .i64 e1.kind) ∧ W.cell? ⟨w.heap.size, 1, none⟩ = some (.int .i64 e1.at_) ∧ W.cell? ⟨w.heap.size, 2, none⟩ = some (.int .i64 e1.a) ∧ W.cell? ⟨w.heap.size, 3, none⟩ = some (.int .i64 e1.b) ∧ W.cell? ⟨w.heap.size, 4, none⟩ = some (.int .i64 e1.c) ∧ W.cell? ⟨w.heap.size, 5, none⟩ = some (.int .i64 e1.q) ∧ W.cell? ⟨w.heap.size, 6, none⟩ = some (.int .i64 e1.i) ∧ W.cell? ⟨w.heap.size, 7, none⟩ = some (.int .i64 e1.h) ∧ W.cell? ⟨w.heap.size, 8, none⟩ = some (.bool e1.pair) ∧ W.cell? adq = some (.int .i64 e1.kind) ∧ W.cell? ⟨adq.block, adq.off + 1, none⟩ = some (.int .i64 e1.at_) ∧ W.cell? ⟨adq.block, adq.off + 2, none⟩ = some (.int .i64 e1.a) ∧ W.cell? ⟨adq.block, adq.off + 3, none⟩ = some (.int .i64 e1.b) ∧ W.cell? ⟨adq.block, adq.off + 4, none⟩ = some (.int .i64 e1.c) ∧ W.cell? ⟨adq.block, adq.off + 5, none⟩ = some (.int .i64 e1.q) ∧ W.cell? ⟨adq.block, adq.off + 6, none⟩ = some (.int .i64 e1.i) ∧ W.cell? ⟨adq.block, adq.off + 7, none⟩ = some (.int .i64 e1.h) ∧ W.cell? ⟨adq.block, adq.off + 8, none⟩ = some (.bool e1.pair))
            (first | (with_reducible exact HSS.out _ D0.out) | (with_reducible exact HSS.out _ D1.out))
            (first
            | (go_at_call 17; (with_reducible refine (emay_yes e1 HM.out _).mono ?_); rintro e v1 ⟨rfl, hq1⟩; have D1 := Lib.hid (below_onE hq1 D0.out))))
          | fail
          all_goals
            go_wp2_with (fail)
            go_ret
            exact ⟨by simp, hB13.trans (D1.out.mono hB13.size)⟩
      | false =>
          by_cases hle : a2 ≤ e1.at_
          · skip
            have hleb : decide (a2 ≤ e1.at_) = true := decide_eq_true hle
            have HNe1 := Lib.hid (fun W (h : Below w13.heap.size w13 W) => (EvB.below hbx1 h).nine)
            have HSS := Lib.hid (show ∀ W, Below w13.heap.size w13 W → Below w13.heap.size w13 W ∧ W.cell? ⟨w.heap.size, 0, none⟩ = some (.int .i64 e1.kind) ∧ W.cell? ⟨w.heap.size, 1, none⟩ = some (.int .i64 e1.at_) ∧ W.cell? ⟨w.heap.size, 2, none⟩ = some (.int .i64 e1.a) ∧ W.cell? ⟨w.heap.size, 3, none⟩ = some (.int .i64 e1.b) ∧ W.cell? ⟨w.heap.size, 4, none⟩ = some (.int .i64 e1.c) ∧ W.cell? ⟨w.heap.size, 5, none⟩ = some (.int .i64 e1.q) ∧ W.cell? ⟨w.heap.size, 6, none⟩ = some (.int .i64 e1.i) ∧ W.cell? ⟨w.heap.size, 7, none⟩ = some (.int .i64 e1.h) ∧ W.cell? ⟨w.heap.size, 8, none⟩ = some (.bool e1.pair) ∧ W.cell? adq = some (.int .i64 e1.kind) ∧ W.cell? ⟨adq.block, adq.off + 1, none⟩ = some (.int .i64 e1.at_) ∧ W.cell? ⟨adq.block, adq.off + 2, none⟩ = some (.int .i64 e1.a) ∧ W.cell? ⟨adq.block, adq.off + 3, none⟩ = some (.int .i64 e1.b) ∧ W.cell? ⟨adq.block, adq.off + 4, none⟩ = some (.int .i64 e1.c) ∧ W.cell? ⟨adq.block, adq.off + 5, none⟩ = some (.int .i64 e1.q) ∧ W.cell? ⟨adq.block, adq.off + 6, none⟩ = some (.int .i64 e1.i) ∧ W.cell? ⟨adq.block, adq.off + 7, none⟩ = some (.int .i64 e1.h) ∧ W.cell? ⟨adq.block, adq.off + 8, none⟩ = some (.bool e1.pair) from fun W h => ⟨h, (HNe1.out W h).1, (HNe1.out W h).2.1, (HNe1.out W h).2.2.1, (HNe1.out W h).2.2.2.1, (HNe1.out W h).2.2.2.2.1, (HNe1.out W h).2.2.2.2.2.1, (HNe1.out W h).2.2.2.2.2.2.1, (HNe1.out W h).2.2.2.2.2.2.2.1, (HNe1.out W h).2.2.2.2.2.2.2.2, (HNR.out W h).1, (HNR.out W h).2.1, (HNR.out W h).2.2.1, (HNR.out W h).2.2.2.1, (HNR.out W h).2.2.2.2.1, (HNR.out W h).2.2.2.2.2.1, (HNR.out W h).2.2.2.2.2.2.1, (HNR.out W h).2.2.2.2.2.2.2.1, (HNR.out W h).2.2.2.2.2.2.2.2⟩)
            have D0 := Lib.hid (show Below w13.heap.size w13 w13.drew from (Below.refl _ w13).drew)
            go_wp2_with (fail)
            first
            | (go_region_held_law (fun W => Below w13.heap.size w13 W ∧ W.cell? ⟨w.heap.size, 0, none⟩ = some (.int .i64 e1.kind) ∧ W.cell? ⟨w.heap.size, 1, none⟩ = some (.int .i64 e1.at_) ∧ W.cell? ⟨w.heap.size, 2, none⟩ = some (.int .i64 e1.a) ∧ W.cell? ⟨w.heap.size, 3, none⟩ = some (.int .i64 e1.b) ∧ W.cell? ⟨w.heap.size, 4, none⟩ = some (.int .i64 e1.c) ∧ W.cell? ⟨w.heap.size, 5, none⟩ = some (.int .i64 e1.q) ∧ W.cell? ⟨w.heap.size, 6, none⟩ = some (.int .i64 e1.i) ∧ W.cell? ⟨w.heap.size, 7, none⟩ = some (.int .i64 e1.h) ∧ W.cell? ⟨w.heap.size, 8, none⟩ = some (.bool e1.pair) ∧ W.cell? adq = some (.int .i64 e1.kind) ∧ W.cell? ⟨adq.block, adq.off + 1, none⟩ = some (.int .i64 e1.at_) ∧ W.cell? ⟨adq.block, adq.off + 2, none⟩ = some (.int .i64 e1.a) ∧ W.cell? ⟨adq.block, adq.off + 3, none⟩ = some (.int .i64 e1.b) ∧ W.cell? ⟨adq.block, adq.off + 4, none⟩ = some (.int .i64 e1.c) ∧ W.cell? ⟨adq.block, adq.off + 5, none⟩ = some (.int .i64 e1.q) ∧ W.cell? ⟨adq.block, adq.off + 6, none⟩ = some (.int .i64 e1.i) ∧ W.cell? ⟨adq.block, adq.off + 7, none⟩ = some (.int .i64 e1.h) ∧ W.cell? ⟨adq.block, adq.off + 8, none⟩ = some (.bool e1.pair))
              (first | (with_reducible exact HSS.out _ D0.out) | (with_reducible exact HSS.out _ D1.out))
              (first
              | (go_at_call 17; (with_reducible refine (emay_yes e1 HM.out _).mono ?_); rintro e v1 ⟨rfl, hq1⟩; have D1 := Lib.hid (below_onE hq1 D0.out))))
            | fail
            all_goals
              go_wp2_with (fail)
              go_ret
              exact ⟨by simp, hB13.trans (D1.out.mono hB13.size)⟩
          · skip
            have hleb : decide (a2 ≤ e1.at_) = false := decide_eq_false hle
            have HNe1 := Lib.hid (fun W (h : Below w13.heap.size w13 W) => (EvB.below hbx1 h).nine)
            have HSS := Lib.hid (show ∀ W, Below w13.heap.size w13 W → Below w13.heap.size w13 W ∧ W.cell? ⟨w.heap.size, 0, none⟩ = some (.int .i64 e1.kind) ∧ W.cell? ⟨w.heap.size, 1, none⟩ = some (.int .i64 e1.at_) ∧ W.cell? ⟨w.heap.size, 2, none⟩ = some (.int .i64 e1.a) ∧ W.cell? ⟨w.heap.size, 3, none⟩ = some (.int .i64 e1.b) ∧ W.cell? ⟨w.heap.size, 4, none⟩ = some (.int .i64 e1.c) ∧ W.cell? ⟨w.heap.size, 5, none⟩ = some (.int .i64 e1.q) ∧ W.cell? ⟨w.heap.size, 6, none⟩ = some (.int .i64 e1.i) ∧ W.cell? ⟨w.heap.size, 7, none⟩ = some (.int .i64 e1.h) ∧ W.cell? ⟨w.heap.size, 8, none⟩ = some (.bool e1.pair) ∧ W.cell? adq = some (.int .i64 e1.kind) ∧ W.cell? ⟨adq.block, adq.off + 1, none⟩ = some (.int .i64 e1.at_) ∧ W.cell? ⟨adq.block, adq.off + 2, none⟩ = some (.int .i64 e1.a) ∧ W.cell? ⟨adq.block, adq.off + 3, none⟩ = some (.int .i64 e1.b) ∧ W.cell? ⟨adq.block, adq.off + 4, none⟩ = some (.int .i64 e1.c) ∧ W.cell? ⟨adq.block, adq.off + 5, none⟩ = some (.int .i64 e1.q) ∧ W.cell? ⟨adq.block, adq.off + 6, none⟩ = some (.int .i64 e1.i) ∧ W.cell? ⟨adq.block, adq.off + 7, none⟩ = some (.int .i64 e1.h) ∧ W.cell? ⟨adq.block, adq.off + 8, none⟩ = some (.bool e1.pair) from fun W h => ⟨h, (HNe1.out W h).1, (HNe1.out W h).2.1, (HNe1.out W h).2.2.1, (HNe1.out W h).2.2.2.1, (HNe1.out W h).2.2.2.2.1, (HNe1.out W h).2.2.2.2.2.1, (HNe1.out W h).2.2.2.2.2.2.1, (HNe1.out W h).2.2.2.2.2.2.2.1, (HNe1.out W h).2.2.2.2.2.2.2.2, (HNR.out W h).1, (HNR.out W h).2.1, (HNR.out W h).2.2.1, (HNR.out W h).2.2.2.1, (HNR.out W h).2.2.2.2.1, (HNR.out W h).2.2.2.2.2.1, (HNR.out W h).2.2.2.2.2.2.1, (HNR.out W h).2.2.2.2.2.2.2.1, (HNR.out W h).2.2.2.2.2.2.2.2⟩)
            have D0 := Lib.hid (show Below w13.heap.size w13 w13.drew from (Below.refl _ w13).drew)
            go_wp2_with (fail)
            first
            | (go_region_held_law (fun W => Below w13.heap.size w13 W ∧ W.cell? ⟨w.heap.size, 0, none⟩ = some (.int .i64 e1.kind) ∧ W.cell? ⟨w.heap.size, 1, none⟩ = some (.int .i64 e1.at_) ∧ W.cell? ⟨w.heap.size, 2, none⟩ = some (.int .i64 e1.a) ∧ W.cell? ⟨w.heap.size, 3, none⟩ = some (.int .i64 e1.b) ∧ W.cell? ⟨w.heap.size, 4, none⟩ = some (.int .i64 e1.c) ∧ W.cell? ⟨w.heap.size, 5, none⟩ = some (.int .i64 e1.q) ∧ W.cell? ⟨w.heap.size, 6, none⟩ = some (.int .i64 e1.i) ∧ W.cell? ⟨w.heap.size, 7, none⟩ = some (.int .i64 e1.h) ∧ W.cell? ⟨w.heap.size, 8, none⟩ = some (.bool e1.pair) ∧ W.cell? adq = some (.int .i64 e1.kind) ∧ W.cell? ⟨adq.block, adq.off + 1, none⟩ = some (.int .i64 e1.at_) ∧ W.cell? ⟨adq.block, adq.off + 2, none⟩ = some (.int .i64 e1.a) ∧ W.cell? ⟨adq.block, adq.off + 3, none⟩ = some (.int .i64 e1.b) ∧ W.cell? ⟨adq.block, adq.off + 4, none⟩ = some (.int .i64 e1.c) ∧ W.cell? ⟨adq.block, adq.off + 5, none⟩ = some (.int .i64 e1.q) ∧ W.cell? ⟨adq.block, adq.off + 6, none⟩ = some (.int .i64 e1.i) ∧ W.cell? ⟨adq.block, adq.off + 7, none⟩ = some (.int .i64 e1.h) ∧ W.cell? ⟨adq.block, adq.off + 8, none⟩ = some (.bool e1.pair))
              (first | (with_reducible exact HSS.out _ D0.out) | (with_reducible exact HSS.out _ D1.out))
              (first
              | (go_at_call 17; (with_reducible refine (emay_yes e1 HM.out _).mono ?_); rintro e v1 ⟨rfl, hq1⟩; have D1 := Lib.hid (below_onE hq1 D0.out))))
            | fail
            all_goals
              go_wp2_with (fail)
              go_ret
              exact ⟨by simp, hB13.trans (D1.out.mono hB13.size)⟩
  | false =>
      clear HSH HRD
      go_wp2_with (fail)
      go_ret
      exact ⟨rfl, hB11⟩

end Go.Proofs.Ytodjlacbjcbafaa.H
