import Derived.Test.YtahiigcofgnncaaDiskO
import Derived.OpenShut
/-! The law DiskCrash, walked. -/
namespace Go.Proofs.Ytahiigcofgnncaa.H
open Go.RowKit Moor Go.Proofs.YtahiigcofgnncaaW.PrintWords Go.Proofs.YtahiigcofgnncaaW.PrintLast Go.Proofs.YtahiigcofgnncaaW.PrintMore
set_option linter.unusedVariables false
set_option linter.unusedSimpArgs false

theorem cell_ofB {w : World} {A : Option Addr} {l : List Int} (h : Kd.C (Kd.int .u8) w A l.length l) (k : Nat) (hk : k < l.length) : ∃ ad, A = some ad ∧ w.cell? (ad.add k) = some (.int .u8 l[k]) := by
  obtain ⟨ad, e, hc⟩ := Kd.at_int h (k : Int) (by omega) (by omega)
  have hr : rd l (k : Int) = l[k] := by unfold rd; simp [List.getD_eq_getElem?_getD, hk]
  rw [hr] at hc
  exact ⟨ad, e, by simpa using hc⟩
def sureX (f : Fl) : Bool := f.sure == (f.data.length : Int)
theorem sure_snoc (l : List Fl) (k : Nat) (h : k < l.length) : (l.take (k + 1)).all sureX = ((l.take k).all sureX && sureX l[k]) := by
  rw [take_snoc (List.getElem?_eq_getElem h), List.all_append]
  simp
theorem sure_all {l : List Fl} (h : l.all sureX = true) : ∀ f ∈ l, f.sure = (f.data.length : Int) := fun f hf => by
  have := List.all_eq_true.1 h f hf
  simpa [sureX] using this
set_option maxRecDepth 100000 in
set_option maxHeartbeats 16000000 in
theorem diskCrash_walk (a0 : Int) (A0 : Option Addr) (c0 : Nat) (l0 : List Fl) (A1 : Option Addr) (c1 : Nat) (l1 : List Int) (A2 : Option Addr) (c2 : Nat) (l2 : List Int) (w : World) (hr0 : Kd.C kF w A0 l0.length l0) (hc0 : l0.length ≤ c0) (ho0 : ∀ f ∈ l0, okB f.data)
    (hr1 : Kd.C (Kd.int .i64) w A1 l1.length l1) (hc1 : l1.length ≤ c1) (hr2 : Kd.C (Kd.int .i64) w A2 l2.length l2) (hc2 : l2.length ≤ c2) :
    Calls Try.prog 3 #[.agg (cellsD a0 A0 l0.length c0), .slice A1 l1.length c1, .slice A2 l2.length c2] w fun e w' => e = .returned (.bool true) ∧ Below w.heap.size w w' := by
  have bx := BoxC.new w (cellsD a0 A0 l0.length c0) 24
  have hBa := below_alloc (Below.refl w.heap.size w) (.cells (cellsD a0 A0 l0.length c0) 24)
  have HR0 := Lib.hid hr0
  have HR1 := Lib.hid hr1
  have HR2 := Lib.hid hr2
  have HO0 := Lib.hid ho0
  clear hr0 hr1 hr2 ho0
  go_enter Try.func3, Try.ntmps3
  go_wp2_with (fail)
  refine (awake_true _).mono ?_
  rintro e w1 ⟨rfl, hb1⟩
  have hB1 : Below w.heap.size w w1 := hBa.trans (hb1.mono hBa.size)
  replace bx := bx.below hb1
  have x0 := bx.c 0 rfl
  have x1 := bx.c 1 rfl
  clear hb1 hBa
  go_wp2_with (fail)
  refine (few_calls a0 A0 c0 l0 w1 (Kd.C_below HR0.out hB1) hc0).mono ?_
  rintro e w2 ⟨rfl, hb2⟩
  have hB2 := hB1.trans (hb2.mono hB1.size)
  replace bx := bx.below hb2
  clear x0 x1
  have x0 := bx.c 0 rfl
  have x1 := bx.c 1 rfl
  clear hb2 hB1
  by_cases hf : fewF l0
  · rw [decide_eq_true hf]
    have hsm : smallF l0 := fun f hf' => by have := hf.1 f hf'; omega
    have hus := fewF_used hf.1
    have hl14 : l0.length ≤ 14 := hf.2
    have HSM := Lib.hid hsm
    have hu : usedF l0 ≤ 42000 := by omega
    have HU := Lib.hid hu
    have HF := Lib.hid hf.1
    clear hf hsm hus hu
    by_cases h1 : l1.length ≤ 60
    · have h1i : ¬ (60 : Int) < (l1.length : Int) := by omega
      by_cases h2 : l2.length ≤ 60
      · have h2i : ¬ (60 : Int) < (l2.length : Int) := by omega
        go_wp2_with (fail)
        refine (may_calls a0 A0 c0 l0 w2 (Kd.C_below HR0.out hB2) hc0 (by have := HU.out; omega)).mono ?_
        rintro e w3 ⟨rfl, hb3⟩
        have hB3 := hB2.trans (hb3.mono hB2.size)
        replace bx := bx.below hb3
        clear x0 x1
        have x0 := bx.c 0 rfl
        have x1 := bx.c 1 rfl
        clear hb3 hB2
        by_cases hm : mayD ⟨a0, l0⟩
        · rw [decide_eq_true hm]
          have hlaw := crash_law hm l1
          have hmem := fun g (hg : g ∈ crashL l0 l1) => crash_mem hm.1 hg
          have hcd := crashD_yes hm l1
          have HM := Lib.hid hm
          have q1 := crash_calls a0 A0 c0 l0 A1 c1 l1 w3 (Kd.C_below HR0.out hB3) hc0 (by omega) HSM.out (by have := HU.out; omega) HO0.out (Kd.C_below HR1.out hB3) hc1
          rw [hcd] at q1
          have Q1 := Lib.hid q1
          clear hm hcd q1
          go_wp2_with (fail)
          refine Q1.out.mono ?_
          clear Q1
          rintro e w4 ⟨A4, c4, rfl, hc4, hF4, hb4⟩
          dsimp only at hc4 hF4 ⊢
          generalize crashL l0 l1 = m at *
          have hml := hlaw.1
          have hB4 := hB3.trans (hb4.mono hB3.size)
          have hba := below_alloc (Below.refl w4.heap.size w4) (.cells (cellsD a0 A4 m.length c4) 24)
          obtain ⟨w5, hw5⟩ : ∃ w5, w4.alloc (.cells (cellsD a0 A4 m.length c4) 24) = w5 := ⟨_, rfl⟩
          have by_ : BoxC w5 w4.heap.size (cellsD a0 A4 m.length c4) 24 := by rw [← hw5]; exact BoxC.new _ _ _
          rw [hw5] at hba
          have hbx5 := (bx.below hb4).below hba
          have hB5 := hB4.trans (hba.mono hB4.size)
          have hC5 := (hF4.below hba).now
          have hm14 : m.length ≤ 14 := by omega
          have hneq : ((m.length : Int) != (l0.length : Int)) = false := by simp; omega
          have hsmm : smallF m := fun g hg => by
            obtain ⟨f, hf, hcr⟩ := hmem g hg
            have h9 := HF.out f hf
            have h10 := hcr.2.2.2.1
            omega
          have husm : usedF m ≤ 42000 := by
            have h9 := fewF_used (l := m) (fun g hg => by
              obtain ⟨f, hf, hcr⟩ := hmem g hg
              have h9 := HF.out f hf
              have h10 := hcr.2.2.2.1
              omega)
            omega
          have hom : ∀ g ∈ m, okB g.data := fun g hg => by
            obtain ⟨f, hf, hcr⟩ := hmem g hg
            exact hcr.2.2.2.2.2.1 (HO0.out f hf)
          have HSS := Lib.hid (show ∀ W, Below w5.heap.size w5 W → W.cell? ⟨w4.heap.size, 0, none⟩ = some (.int .i64 a0) ∧ W.cell? ⟨w4.heap.size, 1, none⟩ = some (.slice A4 m.length c4) ∧ W.cell? ⟨w.heap.size, 0, none⟩ = some (.int .i64 a0) ∧ W.cell? ⟨w.heap.size, 1, none⟩ = some (.slice A0 l0.length c0) from fun W h => ⟨(by_.below h).c 0 rfl, (by_.below h).c 1 rfl, (hbx5.below h).c 0 rfl, (hbx5.below h).c 1 rfl⟩)
          have D0 := Lib.hid (show Below w5.heap.size w5 w5.drew from (Below.refl _ w5).drew)
          obtain ⟨y0, y1, x0', x1'⟩ := HSS.out w5 (Below.refl _ _)
          have HLAW := Lib.hid hlaw
          have HML := Lib.hid hml
          have HC5 := Lib.hid hC5
          have HSMM := Lib.hid hsmm
          have HUSM := Lib.hid husm
          have HOM := Lib.hid hom
          have hcrash2 := hlaw.2.1 l2
          have HCR2 := Lib.hid hcrash2
          have HR5 := Lib.hid (Kd.C_below HR0.out hB5)
          clear hlaw hmem hF4 hb4 hba by_ hbx5 hC5 hsmm husm hom hml hcrash2 bx x0 x1 hB3 hB4
          go_wp2_with (fail)
          go_region_held3 (fun W => W.cell? ⟨w4.heap.size, 0, none⟩ = some (.int .i64 a0) ∧ W.cell? ⟨w4.heap.size, 1, none⟩ = some (.slice A4 m.length c4) ∧ W.cell? ⟨w.heap.size, 0, none⟩ = some (.int .i64 a0) ∧ W.cell? ⟨w.heap.size, 1, none⟩ = some (.slice A0 l0.length c0))
            (first | (with_reducible exact HSS.out _ D0.out) | (with_reducible exact HSS.out _ D1.out) | (with_reducible exact HSS.out _ D2.out))
            (first
              | (go_at_call 14; have Z1 := D1; refine (same_calls a0 a0 A6 c6 m A4 c4 m _ HC6.out hc6 (Kd.C_below HC5.out D1.out) hc4 HSMM.out).mono ?_; rintro e v2 ⟨rfl, hq2⟩; have D2 := Lib.hid (below_onR hq2 D1.out))
              | (go_at_call 13; refine ((show Calls _ _ _ _ (DiskEnd ⟨a0, m⟩ _) from HCR2.out ▸ crash_calls a0 A4 c4 m A2 c2 l2 _ (Kd.C_below HC5.out D0.out) hc4 (by omega) HSMM.out (by have := HUSM.out; omega) HOM.out (Kd.C_below (Kd.C_below HR2.out hB5) D0.out) hc2)).mono ?_; rintro e v1 ⟨A6, c6, rfl, hc6, hF6, hq1⟩; have D1 := Lib.hid (below_onR hq1 D0.out); have HC6 := Lib.hid hF6.now))
          all_goals
            have hB6 := hB5.trans (D2.out.mono hB5.size)
            clear y0 y1 x0' x1'
            obtain ⟨y0, y1, x0, x1⟩ := HSS.out v2 D2.out
            clear D0 D1 HC6
            go_wp2_with (fail)
            go_loopw [10, 11] (fun s i wr => ∃ k : Nat, k ≤ l0.length ∧ i = .int .i64 (k : Int) ∧ s = .bool ((l0.take k).all sureX) ∧ Below w5.heap.size w5 wr) (fun _ i _ => l0.length - (intOf i).toNat)
            case atStart => exact ⟨0, Nat.zero_le _, rfl, rfl, D2.out⟩
            case round =>
              clear y0 y1 x0 x1
              obtain ⟨k, hk, rfl, rfl, hB⟩ := hrel
              by_cases hlt : k < l0.length
              · have hlti : (k : Int) < (l0.length : Int) := by omega
                have hltm : k < m.length := by have := HML.out; omega
                have hltmi : (k : Int) < (m.length : Int) := by omega
                obtain ⟨ad, E1, e1, rfl, p0, p1, p2, hpe, hpC⟩ := file_at HR5.out k hlt
                obtain ⟨ad', E2, e2, rfl, q0, q1, q2, hqe, hqC⟩ := file_at HC5.out k hltm
                have hcr := HLAW.out.2.2.1 k hlt hltm
                have hln := HF.out l0[k] (List.getElem_mem hlt)
                have hsn := sure_snoc l0 k hlt
                generalize hff : l0[k] = f at *
                generalize hgg : m[k] = g at *
                obtain ⟨z1, z2, z3, z4, z5, -, -⟩ := hcr
                have HFA := Lib.hid (show ∀ W, Below w5.heap.size w5 W → W.cell? ⟨w4.heap.size, 0, none⟩ = some (.int .i64 a0) ∧ W.cell? ⟨w4.heap.size, 1, none⟩ = some (.slice (some ad') m.length c4) ∧ W.cell? ⟨w.heap.size, 1, none⟩ = some (.slice (some ad) l0.length c0) ∧
                    W.cell? (ad.add (k * 3)) = some (.int .i64 f.no) ∧ W.cell? ⟨(ad.add (k * 3)).block, (ad.add (k * 3)).off + 1, none⟩ = some (.slice E1 f.data.length e1) ∧ W.cell? ⟨(ad.add (k * 3)).block, (ad.add (k * 3)).off + 2, none⟩ = some (.int .i64 f.sure) ∧
                    W.cell? (ad'.add (k * 3)) = some (.int .i64 g.no) ∧ W.cell? ⟨(ad'.add (k * 3)).block, (ad'.add (k * 3)).off + 1, none⟩ = some (.slice E2 g.data.length e2) ∧ W.cell? ⟨(ad'.add (k * 3)).block, (ad'.add (k * 3)).off + 2, none⟩ = some (.int .i64 g.sure) from fun W h =>
                  ⟨(HSS.out W h).1, (HSS.out W h).2.1, (HSS.out W h).2.2.2, cell_belowD p0 h, cell_belowD p1 h, cell_belowD p2 h, cell_belowD q0 h, cell_belowD q1 h, cell_belowD q2 h⟩)
                have HBY := Lib.hid (show ∀ (j : Nat) W, j + 8 < g.data.length → Below w5.heap.size w5 W → ∃ (a1 a2 : Addr) (y : Int), E1 = some a1 ∧ E2 = some a2 ∧ W.cell? (a1.add j) = some (.int .u8 y) ∧ W.cell? (a2.add j) = some (.int .u8 y) from fun j W hj h => by
                  obtain ⟨a1, h1, h2⟩ := cell_ofB (Kd.C_below hpC h) j (by omega)
                  obtain ⟨a2, h3, h4⟩ := cell_ofB (Kd.C_below hqC h) j (by omega)
                  have h5 := z5 j hj
                  rw [List.getElem?_eq_getElem (show j < g.data.length by omega), List.getElem?_eq_getElem (show j < f.data.length by omega)] at h5
                  injection h5 with h5
                  rw [h5] at h4
                  exact ⟨a1, a2, _, h1, h3, h2, h4⟩)
                have zn1 : (g.no != f.no) = false := by rw [z1]; simp
                have zn2 : (g.sure != (g.data.length : Int)) = false := by rw [z2]; simp
                have zn3 : ¬ (g.data.length : Int) < f.sure := by omega
                have zn4 : ¬ (f.data.length : Int) < (g.data.length : Int) := by omega
                have zn5 : (g.data.length : Int) ≤ 3000 := by omega
                have zd1 : decide ((g.data.length : Int) < f.sure) = false := decide_eq_false zn3
                have zd2 : decide ((f.data.length : Int) < (g.data.length : Int)) = false := decide_eq_false zn4
                obtain ⟨y0, y1, x1, r0, r1, r2, t0, t1, t2⟩ := HFA.out wr hB
                obtain ⟨ng, hng⟩ : ∃ ng, g.data.length = ng := ⟨_, rfl⟩
                have HSN := Lib.hid hsn
                clear z1 z2 z3 z4 z5 hpC hqC p0 p1 p2 q0 q1 q2 hsn hff hgg hln hpe hqe
                rw [hng] at HFA HBY zn2 zn3 zn4 zn5 zd1 zd2 t1
                clear hng
                cases hsb : List.all (List.take k l0) sureX
                all_goals
                  go_wp2_with (fail)
                  go_quiet (fail)
                  all_goals
                    have hBq : Below w5.heap.size w5 (wr.drewN nq) := pw_below_drewN hB nq
                    clear y0 y1 x1 r0 r1 r2 t0 t1 t2
                    generalize wr.drewN nq = W1 at *
                    obtain ⟨y0, y1, x1, r0, r1, r2, t0, t1, t2⟩ := HFA.out W1 hBq
                    go_wp2_with (fail)
                    go_quiet (fail)
                    all_goals
                      have hBr : Below w5.heap.size w5 (W1.drewN nq) := pw_below_drewN hBq nq
                      clear y0 y1 x1 r0 r1 r2 t0 t1 t2
                      generalize W1.drewN nq = W2 at *
                      go_wp2_with (fail)
                      go_loopw [13] (fun i wz => ∃ j : Nat, j ≤ ng ∧ i = .int .i64 (j : Int) ∧ Below w5.heap.size w5 wz) (fun i _ => ng - (intOf i).toNat)
                      case atStart => exact ⟨0, Nat.zero_le _, rfl, hBr⟩
                      case round =>
                        obtain ⟨j, hj, rfl, hBz⟩ := hrel
                        by_cases hjl : (j : Int) < (ng : Int) - 8
                        · obtain ⟨a1, a2, yv, rfl, rfl, u1, u2⟩ := HBY.out j wr (by omega) hBz
                          obtain ⟨y0, y1, x1, r0, r1, r2, t0, t1, t2⟩ := HFA.out wr hBz
                          have hjl1 : (j : Int) < (ng : Int) := by omega
                          have hjl2 : (j : Int) < (f.data.length : Int) := by omega
                          go_wp2_with (fail)
                          go_quiet (fail)
                          all_goals
                            go_wp2_with (fail)
                            go_roundw
                            case rel => exact ⟨j + 1, by omega, by go_num, pw_below_drewN hBz _⟩
                            case measure => simp [intOf]; omega
                        · go_wp2_with (fail)
                          exact ⟨⟨k + 1, by omega, by go_num, by rw [HSN.out, hsb]; first | rfl | simp [sureX], hBz⟩, by simp [intOf]; omega⟩
              · have hnl : ¬ (k : Int) < (l0.length : Int) := by omega
                obtain rfl : k = l0.length := by omega
                rw [List.take_length] at *
                obtain ⟨y0, y1, x0, x1⟩ := HSS.out wr hB
                have hBe := hB5.trans (hB.mono hB5.size)
                cases hsb : List.all l0 sureX
                · go_wp2_with (fail)
                  go_ret
                  exact ⟨rfl, hBe⟩
                · have hml : m = l0 := HLAW.out.2.2.2 (sure_all hsb)
                  have q := same_calls a0 a0 A4 c4 m A0 c0 l0 wr (Kd.C_below HC5.out hB) hc4 (Kd.C_below HR5.out hB) hc0 HSMM.out
                  rw [show decide ((⟨a0, m⟩ : Dk) = ⟨a0, l0⟩) = true by rw [hml]; exact decide_eq_true rfl] at q
                  have Q := Lib.hid q
                  clear q hml
                  go_wp2_with (fail)
                  refine Q.out.mono ?_
                  rintro e w7 ⟨rfl, hb7⟩
                  have hB7 := hBe.trans (hb7.mono hBe.size)
                  clear hb7
                  go_wp2_with (fail)
                  go_ret
                  exact ⟨rfl, hB7⟩
        · rw [decide_eq_false hm]
          go_wp2_with (fail)
          go_ret
          exact ⟨rfl, hB3⟩
      · have h2i : (60 : Int) < (l2.length : Int) := by omega
        go_wp2_with (fail)
        go_ret
        exact ⟨rfl, hB2⟩
    · have h1i : (60 : Int) < (l1.length : Int) := by omega
      go_wp2_with (fail)
      go_ret
      exact ⟨rfl, hB2⟩
  · rw [decide_eq_false hf]
    go_wp2_with (fail)
    go_ret
    exact ⟨rfl, hB2⟩
end Go.Proofs.Ytahiigcofgnncaa.H
