import Derived.Test.YtahiigcofgnncaaDiskOp
import Derived.Test.YtahiigcofgnncaaDiskZ
import Derived.OpenShut
import Derived.Deep.RegionHeldLaw
import Derived.Deep.RegionHeld3
/-! The law DiskStays, walked. -/
namespace Go.Proofs.Ytahiigcofgnncaa.H
open Go.RowKit Moor Go.Proofs.YtahiigcofgnncaaW.PrintWords Go.Proofs.YtahiigcofgnncaaW.PrintLast Go.Proofs.YtahiigcofgnncaaW.PrintMore
set_option linter.unusedVariables false
set_option linter.unusedSimpArgs false

set_option maxRecDepth 100000 in
set_option maxHeartbeats 16000000 in
theorem diskStays_walk (a0 : Int) (A0 : Option Addr) (c0 : Nat) (l0 : List Fl) (k1 n1 m1 : Int) (A1 : Option Addr) (c1 : Nat) (l1 : List Int) (P1 : Option Addr) (q1 : Nat) (p1 : List Int) (w : World) (hr0 : Kd.C kF w A0 l0.length l0) (hc0 : l0.length ≤ c0) (ho0 : ∀ f ∈ l0, okB f.data) (hr1 : Kd.C kB w A1 l1.length l1) (hc1 : l1.length ≤ c1) (ho1 : okB l1) (hr1p : Kd.C (Kd.int .i64) w P1 p1.length p1) (hc1p : p1.length ≤ q1) :
    Calls Try.prog 7 #[.agg (cellsD a0 A0 l0.length c0), .agg (cellsO k1 n1 m1 A1 l1.length c1 P1 p1.length q1)] w fun e w' => e = .returned (.bool true) ∧ Below w.heap.size w w' := by
  obtain ⟨w0, hw0⟩ : ∃ w0, (w.alloc (.cells (cellsD a0 A0 l0.length c0) 24)).alloc (.cells (cellsO k1 n1 m1 A1 l1.length c1 P1 p1.length q1) 45) = w0 := ⟨_, rfl⟩
  have hB : Below w.heap.size w w0 := by rw [← hw0]; exact below_alloc (below_alloc (Below.refl _ _) _) _
  have bx : BoxC w0 w.heap.size (cellsD a0 A0 l0.length c0) 24 := by rw [← hw0]; exact (BoxC.new w _ _).alloc _
  have by_ : BoxC w0 (w.heap.size + 1) (cellsO k1 n1 m1 A1 l1.length c1 P1 p1.length q1) 45 := by
    rw [← hw0]
    have h9 := BoxC.new (w.alloc (.cells (cellsD a0 A0 l0.length c0) 24)) (cellsO k1 n1 m1 A1 l1.length c1 P1 p1.length q1) 45
    rw [World.size_alloc] at h9
    exact h9
  have HR0 := Lib.hid hr0
  have HR1 := Lib.hid hr1
  have HR1P := Lib.hid hr1p
  have HO0 := Lib.hid ho0
  have HW0 := Lib.hid hw0
  clear hr0 hr1 hr1p ho0 ho1
  go_enter Try.func7, Try.ntmps7
  go_wp2_with (fail)
  refine (awake_true _).mono ?_
  rintro e w1 ⟨rfl, hb1⟩
  replace hB := hB.trans (hb1.mono hB.size)
  replace bx := bx.below hb1
  replace by_ := by_.below hb1
  clear hb1
  try clear x0 x1
  have x0 := bx.c 0 rfl
  have x1 := bx.c 1 rfl
  try clear y0 y1 y2 y3 y4
  have y0 := by_.c 0 rfl
  have y1 := by_.c 1 rfl
  have y2 := by_.c 2 rfl
  have y3 := by_.c 3 rfl
  have y4 := by_.c 4 rfl
  go_wp2_with (fail)
  refine (few_calls a0 A0 c0 l0 w1 (Kd.C_below HR0.out hB) hc0).mono ?_
  rintro e w2 ⟨rfl, hb2⟩
  replace hB := hB.trans (hb2.mono hB.size)
  replace bx := bx.below hb2
  replace by_ := by_.below hb2
  clear hb2
  try clear x0 x1
  have x0 := bx.c 0 rfl
  have x1 := bx.c 1 rfl
  try clear y0 y1 y2 y3 y4
  have y0 := by_.c 0 rfl
  have y1 := by_.c 1 rfl
  have y2 := by_.c 2 rfl
  have y3 := by_.c 3 rfl
  have y4 := by_.c 4 rfl
  by_cases hf : fewF l0
  · rw [decide_eq_true hf]
    have hsm : smallF l0 := fun f hf' => by have := hf.1 f hf'; omega
    have hus := fewF_used hf.1
    have hl14 : l0.length ≤ 14 := hf.2
    have HSM := Lib.hid hsm
    have hu : usedF l0 ≤ 42000 := by omega
    have HU := Lib.hid hu
    clear hf hsm hus hu
    go_wp2_with (fail)
    refine (small_calls k1 n1 m1 A1 l1.length c1 P1 p1.length q1 w2).mono ?_
    rintro e w3 ⟨rfl, hb3⟩
    replace hB := hB.trans (hb3.mono hB.size)
    replace bx := bx.below hb3
    replace by_ := by_.below hb3
    clear hb3
    try clear x0 x1
    have x0 := bx.c 0 rfl
    have x1 := bx.c 1 rfl
    try clear y0 y1 y2 y3 y4
    have y0 := by_.c 0 rfl
    have y1 := by_.c 1 rfl
    have y2 := by_.c 2 rfl
    have y3 := by_.c 3 rfl
    have y4 := by_.c 4 rfl
    by_cases hz : l1.length ≤ 3000 ∧ p1.length ≤ 60
    · rw [decide_eq_true hz]
      have q := do_calls a0 A0 c0 l0 k1 n1 m1 A1 c1 l1 P1 q1 p1 w3 (Kd.C_below HR0.out hB) hc0 (by omega) HSM.out (by have := HU.out; omega) HO0.out (Kd.C_below HR1.out hB) hc1 (by omega) (Kd.C_below HR1P.out hB) hc1p
      have Q := Lib.hid q
      clear q
      have hlaw := stays_law ⟨a0, l0⟩ ⟨k1, n1, m1, l1, p1⟩
      generalize doD ⟨a0, l0⟩ ⟨k1, n1, m1, l1, p1⟩ = r at *
      obtain ⟨⟨cp, m⟩, er⟩ := r
      dsimp only at hlaw
      obtain ⟨hl1, hl2, rfl, hl4⟩ := hlaw
      have hum : usedF m ≤ 70000 := by
        by_cases h9 : mayD ⟨cp, l0⟩
        · have := (may_small (hl2.2 h9)).1
          dsimp only at this
          omega
        · have := hl4 h9
          injection this with _ this
          rw [this]
          have := HU.out
          omega
      have hdec : decide (mayD ⟨cp, m⟩) = decide (mayD ⟨cp, l0⟩) := decide_eq_decide.2 hl2
      have HUM := Lib.hid hum
      have HL1 := Lib.hid hl1
      have HDEC := Lib.hid hdec
      clear hum hl1 hl2 hl4 hdec
      go_wp2_with (fail)
      refine Q.out.mono ?_
      rintro e w4 ⟨A5, c5, rfl, hc5, hF5, hb4⟩
      dsimp only at hc5 hF5 ⊢
      obtain ⟨w5, hw5⟩ : ∃ w5, w4.alloc (.cells (cellsD cp A5 m.length c5) 24) = w5 := ⟨_, rfl⟩
      have hba : Below w4.heap.size w4 w5 := by rw [← hw5]; exact below_alloc (Below.refl _ _) _
      have bz : BoxC w5 w4.heap.size (cellsD cp A5 m.length c5) 24 := by rw [← hw5]; exact BoxC.new _ _ _
      have hC5 := (hF5.below hba).now
      have hb := hb4.trans (hba.mono hb4.size)
      replace hB := hB.trans (hb.mono hB.size)
      replace bx := bx.below hb
      replace by_ := by_.below hb
      clear hF5 hb4 hba hb Q
      try clear x0 x1
      have x0 := bx.c 0 rfl
      have x1 := bx.c 1 rfl
      try clear y0 y1 y2 y3 y4
      have y0 := by_.c 0 rfl
      have y1 := by_.c 1 rfl
      have y2 := by_.c 2 rfl
      have y3 := by_.c 3 rfl
      have y4 := by_.c 4 rfl
      try clear bz0 bz1
      have bz0 := bz.c 0 rfl
      have bz1 := bz.c 1 rfl
      by_cases he : er = 0
      · subst he
        have HC5 := Lib.hid hC5
        have HR0B := Lib.hid (Kd.C_below HR0.out hB)
        have HSS := Lib.hid (show ∀ W, Below w5.heap.size w5 W → W.cell? ⟨w.heap.size, 0, none⟩ = some (.int .i64 cp) ∧ W.cell? ⟨w.heap.size, 1, none⟩ = some (.slice A0 l0.length c0) ∧ W.cell? ⟨w4.heap.size, 0, none⟩ = some (.int .i64 cp) ∧ W.cell? ⟨w4.heap.size, 1, none⟩ = some (.slice A5 m.length c5) from fun W h => ⟨(bx.below h).c 0 rfl, (bx.below h).c 1 rfl, (bz.below h).c 0 rfl, (bz.below h).c 1 rfl⟩)
        have D0 := Lib.hid (show Below w5.heap.size w5 w5.drew from (Below.refl _ w5).drew)
        clear bx by_ bz hC5 y0 y1 y2 y3 y4
        go_wp2_with (fail)
        go_region_held3 (fun W => W.cell? ⟨w.heap.size, 0, none⟩ = some (.int .i64 cp) ∧ W.cell? ⟨w.heap.size, 1, none⟩ = some (.slice A0 l0.length c0) ∧ W.cell? ⟨w4.heap.size, 0, none⟩ = some (.int .i64 cp) ∧ W.cell? ⟨w4.heap.size, 1, none⟩ = some (.slice A5 m.length c5))
          (first | (with_reducible exact HSS.out _ D0.out) | (with_reducible exact HSS.out _ D1.out) | (with_reducible exact HSS.out _ D2.out))
          (first
          | (go_at_call 12; have Z1 := D1; refine (may_calls cp A0 c0 l0 _ (Kd.C_below HR0B.out D1.out) hc0 (by have := HU.out; omega)).mono ?_; rintro e v2 ⟨rfl, hq2⟩; have D2 := Lib.hid (below_onR hq2 D1.out))
          | (go_at_call 12; refine (may_calls cp A5 c5 m _ (Kd.C_below HC5.out D0.out) hc5 (by have := HUM.out; omega)).mono ?_; rintro e v1 ⟨rfl, hq1⟩; rw [HDEC.out]; have D1 := Lib.hid (below_onR hq1 D0.out)))
        all_goals
          go_wp2_with (fail)
          go_ret
          exact ⟨by simp, hB.trans (D2.out.mono hB.size)⟩
      · have heq := HL1.out he
        injection heq with _ heq
        replace heq := heq.symm
        subst heq
        have hei : (er != 0) = true := by simpa using he
        clear he
        go_wp2_with (fail)
        refine (same_calls cp cp A5 c5 l0 A0 c0 l0 w5 hC5 hc5 (Kd.C_below HR0.out hB) hc0 HSM.out).mono ?_
        rintro e w6 ⟨rfl, hb6⟩
        rw [decide_eq_true (rfl : (⟨cp, l0⟩ : Dk) = ⟨cp, l0⟩)]
        replace hC5 := Kd.C_below hC5 hb6
        replace hB := hB.trans (hb6.mono hB.size)
        replace bx := bx.below hb6
        replace by_ := by_.below hb6
        replace bz := bz.below hb6
        clear hb6
        try clear x0 x1
        have x0 := bx.c 0 rfl
        have x1 := bx.c 1 rfl
        try clear y0 y1 y2 y3 y4
        have y0 := by_.c 0 rfl
        have y1 := by_.c 1 rfl
        have y2 := by_.c 2 rfl
        have y3 := by_.c 3 rfl
        have y4 := by_.c 4 rfl
        try clear bz0 bz1
        have bz0 := bz.c 0 rfl
        have bz1 := bz.c 1 rfl
        have HC5 := Lib.hid hC5
        have HR0B := Lib.hid (Kd.C_below HR0.out hB)
        have HSS := Lib.hid (show ∀ W, Below w6.heap.size w6 W → W.cell? ⟨w.heap.size, 0, none⟩ = some (.int .i64 cp) ∧ W.cell? ⟨w.heap.size, 1, none⟩ = some (.slice A0 l0.length c0) ∧ W.cell? ⟨w4.heap.size, 0, none⟩ = some (.int .i64 cp) ∧ W.cell? ⟨w4.heap.size, 1, none⟩ = some (.slice A5 l0.length c5) from fun W h => ⟨(bx.below h).c 0 rfl, (bx.below h).c 1 rfl, (bz.below h).c 0 rfl, (bz.below h).c 1 rfl⟩)
        have D0 := Lib.hid (show Below w6.heap.size w6 w6.drew from (Below.refl _ w6).drew)
        clear bx by_ bz hC5 y0 y1 y2 y3 y4
        go_wp2_with (fail)
        go_region_held3 (fun W => W.cell? ⟨w.heap.size, 0, none⟩ = some (.int .i64 cp) ∧ W.cell? ⟨w.heap.size, 1, none⟩ = some (.slice A0 l0.length c0) ∧ W.cell? ⟨w4.heap.size, 0, none⟩ = some (.int .i64 cp) ∧ W.cell? ⟨w4.heap.size, 1, none⟩ = some (.slice A5 l0.length c5))
          (first | (with_reducible exact HSS.out _ D0.out) | (with_reducible exact HSS.out _ D1.out) | (with_reducible exact HSS.out _ D2.out))
          (first
          | (go_at_call 12; have Z1 := D1; refine (may_calls cp A0 c0 l0 _ (Kd.C_below HR0B.out D1.out) hc0 (by have := HU.out; omega)).mono ?_; rintro e v2 ⟨rfl, hq2⟩; have D2 := Lib.hid (below_onR hq2 D1.out))
          | (go_at_call 12; refine (may_calls cp A5 c5 l0 _ (Kd.C_below HC5.out D0.out) hc5 (by have := HUM.out; omega)).mono ?_; rintro e v1 ⟨rfl, hq1⟩; have D1 := Lib.hid (below_onR hq1 D0.out)))
        all_goals
          go_wp2_with (fail)
          go_ret
          exact ⟨by simp, hB.trans (D2.out.mono hB.size)⟩
    · rw [decide_eq_false hz]
      go_wp2_with (fail)
      go_ret
      exact ⟨rfl, hB⟩
  · rw [decide_eq_false hf]
    go_wp2_with (fail)
    refine (small_calls k1 n1 m1 A1 l1.length c1 P1 p1.length q1 w2).mono ?_
    rintro e w3 ⟨rfl, hb3⟩
    replace hB := hB.trans (hb3.mono hB.size)
    generalize decide (l1.length ≤ 3000 ∧ p1.length ≤ 60) = zz
    go_wp2_with (fail)
    go_ret
    exact ⟨rfl, hB⟩
end Go.Proofs.Ytahiigcofgnncaa.H
