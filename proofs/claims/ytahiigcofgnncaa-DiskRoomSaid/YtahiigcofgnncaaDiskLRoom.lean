import Derived.Test.YtahiigcofgnncaaDiskP
import Derived.Test.YtahiigcofgnncaaDiskQ
import Derived.OpenShut
import Derived.Deep.RegionHeldLaw
/-! The law DiskRoom, walked. -/
namespace Go.Proofs.Ytahiigcofgnncaa.H
open Go.RowKit Moor Go.Proofs.YtahiigcofgnncaaW.PrintWords Go.Proofs.YtahiigcofgnncaaW.PrintLast Go.Proofs.YtahiigcofgnncaaW.PrintMore
set_option linter.unusedVariables false
set_option linter.unusedSimpArgs false

set_option maxRecDepth 100000 in
set_option maxHeartbeats 16000000 in
theorem diskRoom_walk (a0 : Int) (A0 : Option Addr) (c0 : Nat) (l0 : List Fl) (a1 : Int) (A2 : Option Addr) (c2 : Nat) (l2 : List Int) (w : World) (hr0 : Kd.C kF w A0 l0.length l0) (hc0 : l0.length ≤ c0) (ho0 : ∀ f ∈ l0, okB f.data) (hw1 : (Lit.int .i64 a1).wf = true)
    (hr2 : Kd.C kB w A2 l2.length l2) (hc2 : l2.length ≤ c2) (ho2 : okB l2) :
    Calls Try.prog 4 #[.agg (cellsD a0 A0 l0.length c0), .int .i64 a1, .slice A2 l2.length c2] w fun e w' => e = .returned (.bool true) ∧ Below w.heap.size w w' := by
  have bx := BoxC.new w (cellsD a0 A0 l0.length c0) 24
  have hBa := below_alloc (Below.refl w.heap.size w) (.cells (cellsD a0 A0 l0.length c0) 24)
  have HR0 := Lib.hid hr0
  have HR2 := Lib.hid hr2
  clear hr0 hr2 ho0 ho2
  go_enter Try.func4, Try.ntmps4
  go_wp2_with (fail)
  refine (awake_true _).mono ?_
  rintro e w1 ⟨rfl, hb1⟩
  have hB1 : Below w.heap.size w w1 := hBa.trans (hb1.mono hBa.size)
  replace bx := bx.below hb1
  have x0 := bx.c 0 rfl
  have x1 := bx.c 1 rfl
  clear hb1 hBa
  go_wp2_with (fail)
  refine (few_calls a0 A0 c0 l0 w1 (Kd.C_below HR0.out hB1) hc0).mono ?_
  rintro e w2 ⟨rfl, hb2⟩
  have hB2 := hB1.trans (hb2.mono hB1.size)
  replace bx := bx.below hb2
  clear x0 x1
  have x0 := bx.c 0 rfl
  have x1 := bx.c 1 rfl
  clear hb2 hB1
  by_cases hf : fewF l0
  · rw [decide_eq_true hf]
    have hsm : smallF l0 := fun f hf' => by have := hf.1 f hf'; omega
    have hus := fewF_used hf.1
    have hl14 : l0.length ≤ 14 := hf.2
    have HSM := Lib.hid hsm
    have hu : usedF l0 ≤ 42000 := by omega
    have HU := Lib.hid hu
    clear hf hsm hus hu
    by_cases h2 : l2.length ≤ 3000
    · have h2i : ¬ (3000 : Int) < (l2.length : Int) := by omega
      go_wp2_with (fail)
      refine (may_calls a0 A0 c0 l0 w2 (Kd.C_below HR0.out hB2) hc0 (by have := HU.out; omega)).mono ?_
      rintro e w3 ⟨rfl, hb3⟩
      have hB3 := hB2.trans (hb3.mono hB2.size)
      replace bx := bx.below hb3
      clear x0 x1
      have x0 := bx.c 0 rfl
      have x1 := bx.c 1 rfl
      clear hb3 hB2
      by_cases hm : mayD ⟨a0, l0⟩
      · rw [decide_eq_true hm]
        have HM := Lib.hid hm
        clear hm
        go_wp2_with (fail)
        refine (find_calls a0 a1 A0 c0 l0 w3 (Kd.C_below HR0.out hB3) hc0 (by have := HU.out; omega)).mono ?_
        rintro e w4 ⟨rfl, hb4⟩
        have hB4 := hB3.trans (hb4.mono hB3.size)
        replace bx := bx.below hb4
        clear x0 x1
        have x0 := bx.c 0 rfl
        have x1 := bx.c 1 rfl
        clear hb4 hB3
        by_cases hfd : findD ⟨a0, l0⟩ a1 < 0
        · generalize findD ⟨a0, l0⟩ a1 = fd at *
          go_wp2_with (fail)
          go_ret
          exact ⟨rfl, hB4⟩
        · have hlaw := room_law l2 HM.out hfd
          have hmw := may_write a1 l2 HM.out
          have hused : usedD ⟨a0, l0⟩ = (usedF l0 : Int) := by unfold usedD; rw [if_pos HM.out]
          have q := write_calls a0 a1 A0 c0 l0 A2 c2 l2 w4 (Kd.C_below HR0.out hB4) hc0 (by omega) HSM.out (by have := HU.out; omega) (Kd.C_below HR2.out hB4) hc2 (by omega)
          have Q := Lib.hid q
          have HLAW := Lib.hid hlaw
          have HMW := Lib.hid hmw
          have HUSED := Lib.hid hused
          generalize findD ⟨a0, l0⟩ a1 = fd at *
          clear q hlaw hmw hused
          go_wp2_with (fail)
          refine Q.out.mono ?_
          rintro e w5 ⟨A5, c5, rfl, hc5, hF5, hb5⟩
          generalize writeD ⟨a0, l0⟩ a1 l2 = r at *
          obtain ⟨⟨cp, m⟩, er⟩ := r
          dsimp only at hc5 hF5 HLAW HMW ⊢
          have hB5 := hB4.trans (hb5.mono hB4.size)
          obtain ⟨w6, hw6⟩ : ∃ w6, w5.alloc (.cells (cellsD cp A5 m.length c5) 24) = w6 := ⟨_, rfl⟩
          have hba : Below w5.heap.size w5 w6 := by rw [← hw6]; exact below_alloc (Below.refl _ _) _
          have by6 : BoxC w6 w5.heap.size (cellsD cp A5 m.length c5) 24 := by rw [← hw6]; exact BoxC.new _ _ _
          have bx6 := (bx.below hb5).below hba
          have hB6 := hB5.trans (hba.mono hB5.size)
          have hC6 := (hF5.below hba).now
          have y0 := by6.c 0 rfl
          have y1 := by6.c 1 rfl
          have hsm := may_small HMW.out
          have hlm : m.length ≤ 12 := hsm.2
          have hum : usedF m ≤ 65536 := hsm.1
          have HC6 := Lib.hid hC6
          clear hF5 hb5 hba by6 bx x0 x1 hsm hC6 hB5 hB4 Q
          go_wp2_with (fail)
          refine (refMay_calls cp A5 c5 m w6 HC6.out hc5 (by omega) (by omega)).mono ?_
          rintro e w7 ⟨rfl, hb7⟩
          rw [decide_eq_true HMW.out]
          have hB7 := hB6.trans (hb7.mono hB6.size)
          have bx7 := bx6.below hb7
          have HR7 := Lib.hid (Kd.C_below HR0.out hB7)
          have HSS := Lib.hid (show ∀ W, Below w7.heap.size w7 W → W.cell? ⟨w.heap.size, 0, none⟩ = some (.int .i64 a0) ∧ W.cell? ⟨w.heap.size, 1, none⟩ = some (.slice A0 l0.length c0) from fun W h => ⟨(bx7.below h).c 0 rfl, (bx7.below h).c 1 rfl⟩)
          have D0 := Lib.hid (show Below w7.heap.size w7 w7.drew from (Below.refl _ w7).drew)
          obtain ⟨u, hu⟩ : ∃ u, usedF l0 = u := ⟨_, rfl⟩
          have hu2 : u ≤ 42000 := by have := HU.out; omega
          have hsum : IntKind.i64.wrap ((u : Int) + (l2.length : Int)) = (u : Int) + (l2.length : Int) := i64_of (by omega) (by omega)
          have HUS := Lib.hid (HUSED.out.trans (by rw [hu]))
          rw [hu] at HLAW
          clear bx6 bx7 hb7 y0 y1 hu
          rcases HLAW.out with ⟨g1, g2⟩ | ⟨g1, g2⟩
          · obtain rfl : er = 9 := by injection g2
            have g3 : a0 < (u : Int) + (l2.length : Int) := g1
            have g3d : decide (a0 < (u : Int) + (l2.length : Int)) = true := decide_eq_true g3
            clear g1 g2 HLAW
            go_wp2_with (fail)
            go_region_held3 (fun W => W.cell? ⟨w.heap.size, 0, none⟩ = some (.int .i64 a0) ∧ W.cell? ⟨w.heap.size, 1, none⟩ = some (.slice A0 l0.length c0))
              (first | (with_reducible exact HSS.out _ D0.out) | (with_reducible exact HSS.out _ D1.out))
              ((go_at_call 18; refine (usedD_calls a0 A0 c0 l0 _ (Kd.C_below HR7.out D0.out) hc0 (by have := HU.out; omega)).mono ?_; rintro e v1 ⟨rfl, hq1⟩; rw [HUS.out]; have D1 := Lib.hid (below_onR hq1 D0.out)))
            all_goals
              clear hsum
              go_wp2_with (fail)
              go_ret
              exact ⟨by simp, hB7.trans (D1.out.mono hB7.size)⟩
          · obtain rfl : er = 0 := g2
            have g3 : ¬ a0 < (u : Int) + (l2.length : Int) := by omega
            have g3d : decide (a0 < (u : Int) + (l2.length : Int)) = false := decide_eq_false g3
            clear g1 HLAW
            go_wp2_with (fail)
            first
              | (go_region_held_law (fun W => W.cell? ⟨w.heap.size, 0, none⟩ = some (.int .i64 a0) ∧ W.cell? ⟨w.heap.size, 1, none⟩ = some (.slice A0 l0.length c0))
                  (first | (with_reducible exact HSS.out _ D0.out) | (with_reducible exact HSS.out _ D1.out))
                  ((go_at_call 18; refine (usedD_calls a0 A0 c0 l0 _ (Kd.C_below HR7.out D0.out) hc0 (by have := HU.out; omega)).mono ?_; rintro e v1 ⟨rfl, hq1⟩; rw [HUS.out]; have D1 := Lib.hid (below_onR hq1 D0.out))))
              | fail
            all_goals
              clear hsum
              go_wp2_with (fail)
              go_ret
              exact ⟨by simp, hB7.trans (D1.out.mono hB7.size)⟩
      · rw [decide_eq_false hm]
        go_wp2_with (fail)
        go_ret
        exact ⟨rfl, hB3⟩
    · have h2i : (3000 : Int) < (l2.length : Int) := by omega
      go_wp2_with (fail)
      go_ret
      exact ⟨rfl, hB2⟩
  · rw [decide_eq_false hf]
    go_wp2_with (fail)
    go_ret
    exact ⟨rfl, hB2⟩
end Go.Proofs.Ytahiigcofgnncaa.H
