import Derived.Test.YtahiigcofgnncaaDiskOp
import Derived.Test.YtahiigcofgnncaaDiskRE
import Derived.OpenShut
import Derived.Deep.RegionHeld3
/-! The law DiskTells, walked. -/
namespace Go.Proofs.Ytahiigcofgnncaa.H
open Go.RowKit Moor Go.Proofs.YtahiigcofgnncaaW.PrintWords Go.Proofs.YtahiigcofgnncaaW.PrintLast Go.Proofs.YtahiigcofgnncaaW.PrintMore
set_option linter.unusedVariables false
set_option linter.unusedSimpArgs false

set_option maxRecDepth 100000 in
set_option maxHeartbeats 16000000 in
theorem diskTells_walk (a0 : Int) (A0 : Option Addr) (c0 : Nat) (l0 : List Fl) (a1 : Int) (A1 : Option Addr) (c1 : Nat) (l1 : List Fl) (k2 n2 m2 : Int) (A2 : Option Addr) (c2 : Nat) (l2 : List Int) (P2 : Option Addr) (q2 : Nat) (p2 : List Int) (room no : Int) (w : World)
    (hr0 : Kd.C kF w A0 l0.length l0) (hc0 : l0.length ≤ c0) (ho0 : ∀ f ∈ l0, okB f.data) (hr1 : Kd.C kF w A1 l1.length l1) (hc1 : l1.length ≤ c1) (ho1 : ∀ f ∈ l1, okB f.data) (hr2 : Kd.C kB w A2 l2.length l2) (hc2 : l2.length ≤ c2) (ho2 : okB l2) (hr2p : Kd.C (Kd.int .i64) w P2 p2.length p2) (hc2p : p2.length ≤ q2) (hw3 : (Lit.int .i64 room).wf = true) (hw4 : (Lit.int .i64 no).wf = true) :
    Calls Try.prog 9 #[.agg (cellsD a0 A0 l0.length c0), .agg (cellsD a1 A1 l1.length c1), .agg (cellsO k2 n2 m2 A2 l2.length c2 P2 p2.length q2), .int .i64 room, .int .i64 no] w fun e w' => e = .returned (.bool true) ∧ Below w.heap.size w w' := by
  obtain ⟨w0, hw0⟩ : ∃ w0, ((w.alloc (.cells (cellsD a0 A0 l0.length c0) 24)).alloc (.cells (cellsD a1 A1 l1.length c1) 24)).alloc (.cells (cellsO k2 n2 m2 A2 l2.length c2 P2 p2.length q2) 45) = w0 := ⟨_, rfl⟩
  have hB : Below w.heap.size w w0 := by rw [← hw0]; exact below_alloc (below_alloc (below_alloc (Below.refl _ _) _) _) _
  have bx : BoxC w0 w.heap.size (cellsD a0 A0 l0.length c0) 24 := by rw [← hw0]; exact ((BoxC.new w _ _).alloc _).alloc _
  have by_ : BoxC w0 (w.heap.size + 1) (cellsD a1 A1 l1.length c1) 24 := by
    rw [← hw0]
    have h9 := BoxC.new (w.alloc (.cells (cellsD a0 A0 l0.length c0) 24)) (cellsD a1 A1 l1.length c1) 24
    rw [World.size_alloc] at h9
    exact h9.alloc _
  have bo : BoxC w0 (w.heap.size + 1 + 1) (cellsO k2 n2 m2 A2 l2.length c2 P2 p2.length q2) 45 := by
    rw [← hw0]
    have h9 := BoxC.new ((w.alloc (.cells (cellsD a0 A0 l0.length c0) 24)).alloc (.cells (cellsD a1 A1 l1.length c1) 24)) (cellsO k2 n2 m2 A2 l2.length c2 P2 p2.length q2) 45
    simp only [World.size_alloc] at h9
    exact h9
  have HR0 := Lib.hid hr0
  have HR1 := Lib.hid hr1
  have HR2 := Lib.hid hr2
  have HR2P := Lib.hid hr2p
  have HO0 := Lib.hid ho0
  have HO1 := Lib.hid ho1
  have HW0 := Lib.hid hw0
  clear hr0 hr1 hr2 hr2p ho0 ho1 ho2
  have bxq0 := bx.c 0 rfl
  have bxq1 := bx.c 1 rfl
  have by_q0 := by_.c 0 rfl
  have by_q1 := by_.c 1 rfl
  have boq0 := bo.c 0 rfl
  have boq1 := bo.c 1 rfl
  have boq2 := bo.c 2 rfl
  have boq3 := bo.c 3 rfl
  have boq4 := bo.c 4 rfl
  go_enter Try.func9, Try.ntmps9
  go_wp2_with (fail)
  refine (awake_true _).mono ?_
  rintro e w1 ⟨rfl, hb1⟩
  clear bxq0 bxq1
  clear by_q0 by_q1
  clear boq0 boq1 boq2 boq3 boq4
  replace hB := hB.trans (hb1.mono hB.size)
  replace bx := bx.below hb1
  replace by_ := by_.below hb1
  replace bo := bo.below hb1
  clear hb1
  have bxq0 := bx.c 0 rfl
  have bxq1 := bx.c 1 rfl
  have by_q0 := by_.c 0 rfl
  have by_q1 := by_.c 1 rfl
  have boq0 := bo.c 0 rfl
  have boq1 := bo.c 1 rfl
  have boq2 := bo.c 2 rfl
  have boq3 := bo.c 3 rfl
  have boq4 := bo.c 4 rfl
  go_wp2_with (fail)
  refine (few_calls a0 A0 c0 l0 w1 (Kd.C_below HR0.out hB) hc0).mono ?_
  rintro e w2 ⟨rfl, hb2⟩
  clear bxq0 bxq1
  clear by_q0 by_q1
  clear boq0 boq1 boq2 boq3 boq4
  replace hB := hB.trans (hb2.mono hB.size)
  replace bx := bx.below hb2
  replace by_ := by_.below hb2
  replace bo := bo.below hb2
  clear hb2
  have bxq0 := bx.c 0 rfl
  have bxq1 := bx.c 1 rfl
  have by_q0 := by_.c 0 rfl
  have by_q1 := by_.c 1 rfl
  have boq0 := bo.c 0 rfl
  have boq1 := bo.c 1 rfl
  have boq2 := bo.c 2 rfl
  have boq3 := bo.c 3 rfl
  have boq4 := bo.c 4 rfl
  obtain ⟨fb0, hfb0⟩ : ∃ b, decide (fewF l0) = b := ⟨_, rfl⟩
  rw [hfb0]
  have HF0 := Lib.hid hfb0
  clear hfb0
  go_wp2_with (fail)
  refine (few_calls a1 A1 c1 l1 w2 (Kd.C_below HR1.out hB) hc1).mono ?_
  rintro e w3 ⟨rfl, hb3⟩
  clear bxq0 bxq1
  clear by_q0 by_q1
  clear boq0 boq1 boq2 boq3 boq4
  replace hB := hB.trans (hb3.mono hB.size)
  replace bx := bx.below hb3
  replace by_ := by_.below hb3
  replace bo := bo.below hb3
  clear hb3
  have bxq0 := bx.c 0 rfl
  have bxq1 := bx.c 1 rfl
  have by_q0 := by_.c 0 rfl
  have by_q1 := by_.c 1 rfl
  have boq0 := bo.c 0 rfl
  have boq1 := bo.c 1 rfl
  have boq2 := bo.c 2 rfl
  have boq3 := bo.c 3 rfl
  have boq4 := bo.c 4 rfl
  obtain ⟨fb1, hfb1⟩ : ∃ b, decide (fewF l1) = b := ⟨_, rfl⟩
  rw [hfb1]
  have HF1 := Lib.hid hfb1
  clear hfb1
  go_wp2_with (fail)
  refine (small_calls k2 n2 m2 A2 l2.length c2 P2 p2.length q2 w3).mono ?_
  rintro e w4 ⟨rfl, hb4⟩
  clear bxq0 bxq1
  clear by_q0 by_q1
  clear boq0 boq1 boq2 boq3 boq4
  replace hB := hB.trans (hb4.mono hB.size)
  replace bx := bx.below hb4
  replace by_ := by_.below hb4
  replace bo := bo.below hb4
  clear hb4
  have bxq0 := bx.c 0 rfl
  have bxq1 := bx.c 1 rfl
  have by_q0 := by_.c 0 rfl
  have by_q1 := by_.c 1 rfl
  have boq0 := bo.c 0 rfl
  have boq1 := bo.c 1 rfl
  have boq2 := bo.c 2 rfl
  have boq3 := bo.c 3 rfl
  have boq4 := bo.c 4 rfl
  obtain ⟨zb, hzb⟩ : ∃ b, decide (l2.length ≤ 3000 ∧ p2.length ≤ 60) = b := ⟨_, rfl⟩
  rw [hzb]
  have HZB := Lib.hid hzb
  clear hzb
  cases fb0
  · go_wp2_with (fail)
    go_ret
    exact ⟨rfl, hB⟩
  cases fb1
  · go_wp2_with (fail)
    go_ret
    exact ⟨rfl, hB⟩
  cases zb
  · go_wp2_with (fail)
    go_ret
    exact ⟨rfl, hB⟩
  have hf0 : fewF l0 := of_decide_eq_true HF0.out
  have hf1 : fewF l1 := of_decide_eq_true HF1.out
  have hz : l2.length ≤ 3000 ∧ p2.length ≤ 60 := of_decide_eq_true HZB.out
  have hsm : smallF l0 := fun f hf' => by have := hf0.1 f hf'; omega
  have hus := fewF_used hf0.1
  have hl14 : l0.length ≤ 14 := hf0.2
  have hl15 : l1.length ≤ 14 := hf1.2
  have HSM := Lib.hid hsm
  have hu : usedF l0 ≤ 42000 := by omega
  have HU := Lib.hid hu
  have HZ := Lib.hid hz
  clear hf0 hf1 hz hsm hus hu HF0 HF1 HZB
  have Q1 := Lib.hid (do_calls a0 A0 c0 l0 k2 n2 m2 A2 c2 l2 P2 q2 p2 w4 (Kd.C_below HR0.out hB) hc0 (by omega) HSM.out (by have := HU.out; omega) HO0.out (Kd.C_below HR2.out hB) hc2 (by have := HZ.out; omega) (Kd.C_below HR2P.out hB) hc2p)
  obtain ⟨xs, hxs, hcx⟩ := cx_of (ok := fun k => k < w.heap.size) HR0.out (Below.refl _ w) (fun k hk => hk)
  have hxl : xs.length = l0.length := by rw [← hxs, List.length_map]
  have Q2 := Lib.hid (fun W (h : Below w.heap.size w W) => by
    have q := refDo_calls a0 A0 c0 xs k2 n2 m2 A2 c2 l2 P2 q2 p2 (fun k => k < w.heap.size) W (hcx.moved h.size (Agree.below h (fun k hk => hk))) (by omega) (by omega) (fun k hk => Nat.lt_of_lt_of_le hk h.size) (by rw [hxs]; have := HU.out; omega) (fun x hx => HO0.out (flX x) (by rw [← hxs]; exact List.mem_map_of_mem hx)) (Kd.C_below HR2.out h) hc2 (by have := HZ.out; omega) (Kd.C_below HR2P.out h) (by have := HZ.out; omega) hc2p
    rw [hxs, hxl] at q
    exact q)
  clear hxs hcx hxl
  generalize doD ⟨a0, l0⟩ ⟨k2, n2, m2, l2, p2⟩ = r at *
  obtain ⟨⟨cp, m⟩, er⟩ := r
  go_wp2_with (fail)
  refine Q1.out.mono ?_
  rintro e w5 ⟨A5, c5, rfl, hc5, hF5, hb5⟩
  dsimp only at hc5 hF5 ⊢
  obtain ⟨w6, hw6⟩ : ∃ w6, w5.alloc (.cells (cellsD cp A5 m.length c5) 24) = w6 := ⟨_, rfl⟩
  have hba : Below w5.heap.size w5 w6 := by rw [← hw6]; exact below_alloc (Below.refl _ _) _
  have hbz : BoxC w6 w5.heap.size (cellsD cp A5 m.length c5) 24 := by rw [← hw6]; exact BoxC.new _ _ _
  have hb := hb5.trans (hba.mono hb5.size)
  have hca := (hF5.below hba).now
  clear hF5 Q1
  clear hb5 hba
  have hbb := hb
  clear bxq0 bxq1
  clear by_q0 by_q1
  clear boq0 boq1 boq2 boq3 boq4
  replace hB := hB.trans (hb.mono hB.size)
  replace bx := bx.below hb
  replace by_ := by_.below hb
  replace bo := bo.below hb
  clear hb
  have bxq0 := bx.c 0 rfl
  have bxq1 := bx.c 1 rfl
  have by_q0 := by_.c 0 rfl
  have by_q1 := by_.c 1 rfl
  have boq0 := bo.c 0 rfl
  have boq1 := bo.c 1 rfl
  have boq2 := bo.c 2 rfl
  have boq3 := bo.c 3 rfl
  have boq4 := bo.c 4 rfl
  clear hbb
  have ba := hbz
  clear hbz
  have baq0 := ba.c 0 rfl
  have baq1 := ba.c 1 rfl
  go_wp2_with (fail)
  refine (Q2.out _ hB).mono ?_
  rintro e w7 ⟨A7, c7, ys, rfl, hys, hc7, hF7, hb7⟩
  dsimp only at hys hF7 ⊢
  have hyl : ys.length = m.length := by rw [← hys, List.length_map]
  have hcb0 := hF7.now
  rw [hys] at hcb0
  rw [hyl]
  rw [hyl] at hc7
  obtain ⟨w8, hw8⟩ : ∃ w8, w7.alloc (.cells (cellsD cp A7 m.length c7) 24) = w8 := ⟨_, rfl⟩
  have hba : Below w7.heap.size w7 w8 := by rw [← hw8]; exact below_alloc (Below.refl _ _) _
  have hbz : BoxC w8 w7.heap.size (cellsD cp A7 m.length c7) 24 := by rw [← hw8]; exact BoxC.new _ _ _
  have hb := hb7.trans (hba.mono hb7.size)
  have hcb := Kd.C_below hcb0 hba
  clear hF7 hcb0 Q2 hys hyl
  clear hb7 hba
  have hbb := hb
  clear bxq0 bxq1
  clear by_q0 by_q1
  clear boq0 boq1 boq2 boq3 boq4
  clear baq0 baq1
  replace hB := hB.trans (hb.mono hB.size)
  replace bx := bx.below hb
  replace by_ := by_.below hb
  replace bo := bo.below hb
  replace ba := ba.below hb
  replace hca := Kd.C_below hca hb
  clear hb
  have bxq0 := bx.c 0 rfl
  have bxq1 := bx.c 1 rfl
  have by_q0 := by_.c 0 rfl
  have by_q1 := by_.c 1 rfl
  have boq0 := bo.c 0 rfl
  have boq1 := bo.c 1 rfl
  have boq2 := bo.c 2 rfl
  have boq3 := bo.c 3 rfl
  have boq4 := bo.c 4 rfl
  have baq0 := ba.c 0 rfl
  have baq1 := ba.c 1 rfl
  clear hbb
  have bb := hbz
  clear hbz
  have bbq0 := bb.c 0 rfl
  have bbq1 := bb.c 1 rfl
  clear bxq0 bxq1
  clear by_q0 by_q1
  clear boq0 boq1 boq2 boq3 boq4
  clear baq0 baq1
  clear bbq0 bbq1
  clear bo
  have bxq0 := bx.c 0 rfl
  have bxq1 := bx.c 1 rfl
  have by_q0 := by_.c 0 rfl
  have by_q1 := by_.c 1 rfl
  have baq0 := ba.c 0 rfl
  have baq1 := ba.c 1 rfl
  have bbq0 := bb.c 0 rfl
  have bbq1 := bb.c 1 rfl
  have QN := Lib.hid (fun W => new_calls room W)
  have QM := Lib.hid (fun W => refNew_calls room W)
  unfold NewEnd at QN QM
  generalize newD room = nd at *
  obtain ⟨⟨nc, nl⟩, nb⟩ := nd
  dsimp only at QN QM
  go_wp2_with (fail)
  refine (QN.out _).mono ?_
  rintro e w9 ⟨rfl, hb9⟩
  have hba := below_alloc (Below.refl w9.heap.size w9) (.cells (cellsD nc none 0 0) 24)
  have hbz := BoxC.new w9 (cellsD nc none 0 0) 24
  have hb := hb9.trans (hba.mono hb9.size)
  clear hb9 hba
  have hbb := hb
  clear bxq0 bxq1
  clear by_q0 by_q1
  clear baq0 baq1
  clear bbq0 bbq1
  replace hB := hB.trans (hb.mono hB.size)
  replace bx := bx.below hb
  replace by_ := by_.below hb
  replace ba := ba.below hb
  replace bb := bb.below hb
  replace hca := Kd.C_below hca hb
  replace hcb := Kd.C_below hcb hb
  clear hb
  have bxq0 := bx.c 0 rfl
  have bxq1 := bx.c 1 rfl
  have by_q0 := by_.c 0 rfl
  have by_q1 := by_.c 1 rfl
  have baq0 := ba.c 0 rfl
  have baq1 := ba.c 1 rfl
  have bbq0 := bb.c 0 rfl
  have bbq1 := bb.c 1 rfl
  clear hbb
  have bn := hbz
  clear hbz
  have bnq0 := bn.c 0 rfl
  have bnq1 := bn.c 1 rfl
  go_wp2_with (fail)
  refine (QM.out _).mono ?_
  rintro e w11 ⟨rfl, hb11⟩
  have hba := below_alloc (Below.refl w11.heap.size w11) (.cells (cellsD nc none 0 0) 24)
  have hbz := BoxC.new w11 (cellsD nc none 0 0) 24
  have hb := hb11.trans (hba.mono hb11.size)
  clear QN QM
  clear hb11 hba
  have hbb := hb
  clear bxq0 bxq1
  clear by_q0 by_q1
  clear baq0 baq1
  clear bbq0 bbq1
  clear bnq0 bnq1
  replace hB := hB.trans (hb.mono hB.size)
  replace bx := bx.below hb
  replace by_ := by_.below hb
  replace ba := ba.below hb
  replace bb := bb.below hb
  replace bn := bn.below hb
  replace hca := Kd.C_below hca hb
  replace hcb := Kd.C_below hcb hb
  clear hb
  have bxq0 := bx.c 0 rfl
  have bxq1 := bx.c 1 rfl
  have by_q0 := by_.c 0 rfl
  have by_q1 := by_.c 1 rfl
  have baq0 := ba.c 0 rfl
  have baq1 := ba.c 1 rfl
  have bbq0 := bb.c 0 rfl
  have bbq1 := bb.c 1 rfl
  have bnq0 := bn.c 0 rfl
  have bnq1 := bn.c 1 rfl
  clear hbb
  have bm := hbz
  clear hbz
  have bmq0 := bm.c 0 rfl
  have bmq1 := bm.c 1 rfl
  go_wp2_with (fail)
  refine (refSame_calls cp cp A5 c5 m A7 c7 m _ hca hc5 hcb hc7 (sameS_eq m)).mono ?_
  rintro e w13 ⟨rfl, hb13⟩
  rw [decide_eq_true (rfl : (⟨cp, m⟩ : Dk) = ⟨cp, m⟩)]
  clear hca hcb
  clear baq0 baq1 ba
  clear bbq0 bbq1 bb
  clear bxq0 bxq1
  clear by_q0 by_q1
  clear bnq0 bnq1
  clear bmq0 bmq1
  replace hB := hB.trans (hb13.mono hB.size)
  replace bx := bx.below hb13
  replace by_ := by_.below hb13
  replace bn := bn.below hb13
  replace bm := bm.below hb13
  clear hb13
  have bxq0 := bx.c 0 rfl
  have bxq1 := bx.c 1 rfl
  have by_q0 := by_.c 0 rfl
  have by_q1 := by_.c 1 rfl
  have bnq0 := bn.c 0 rfl
  have bnq1 := bn.c 1 rfl
  have bmq0 := bm.c 0 rfl
  have bmq1 := bm.c 1 rfl
  go_wp2_with (fail)
  refine ((show Calls Try.prog 28 #[.agg (cellsD nc none 0 0), .agg (cellsD nc none 0 0)] w13 _ from refSame_calls nc nc none 0 [] none 0 [] w13 (Kd.C_nil _ _) (Nat.le_refl _) (Kd.C_nil _ _) (Nat.le_refl _) (sameS_eq []))).mono ?_
  rintro e w14 ⟨rfl, hb14⟩
  rw [decide_eq_true (rfl : (⟨nc, []⟩ : Dk) = ⟨nc, []⟩)]
  clear bnq0 bnq1 bn
  clear bmq0 bmq1 bm
  clear bxq0 bxq1
  clear by_q0 by_q1
  replace hB := hB.trans (hb14.mono hB.size)
  replace bx := bx.below hb14
  replace by_ := by_.below hb14
  clear hb14
  have bxq0 := bx.c 0 rfl
  have bxq1 := bx.c 1 rfl
  have by_q0 := by_.c 0 rfl
  have by_q1 := by_.c 1 rfl
  go_wp2_with (fail)
  refine (refMay_calls a0 A0 c0 l0 w14 (Kd.C_below HR0.out hB) hc0 (by omega) (by have := HU.out; omega)).mono ?_
  rintro e w15 ⟨rfl, hb15⟩
  clear bxq0 bxq1
  clear by_q0 by_q1
  replace hB := hB.trans (hb15.mono hB.size)
  replace bx := bx.below hb15
  replace by_ := by_.below hb15
  clear hb15
  have bxq0 := bx.c 0 rfl
  have bxq1 := bx.c 1 rfl
  have by_q0 := by_.c 0 rfl
  have by_q1 := by_.c 1 rfl
  go_wp2_with (fail)
  refine (refSame_calls a0 a1 A0 c0 l0 A1 c1 l1 w15 (Kd.C_below HR0.out hB) hc0 (Kd.C_below HR1.out hB) hc1 (sameS_ok HO0.out HO1.out)).mono ?_
  rintro e w16 ⟨rfl, hb16⟩
  clear bxq0 bxq1
  clear by_q0 by_q1
  replace hB := hB.trans (hb16.mono hB.size)
  replace bx := bx.below hb16
  replace by_ := by_.below hb16
  clear hb16
  have bxq0 := bx.c 0 rfl
  have bxq1 := bx.c 1 rfl
  have by_q0 := by_.c 0 rfl
  have by_q1 := by_.c 1 rfl
  have HR0B := Lib.hid (Kd.C_below HR0.out hB)
  have HR1B := Lib.hid (Kd.C_below HR1.out hB)
  have QA := Lib.hid (fun W (h : Below w16.heap.size w16 W) => may_calls a0 A0 c0 l0 W (Kd.C_below HR0B.out h) hc0 (by have := HU.out; omega))
  have QB := Lib.hid (fun W (h : Below w16.heap.size w16 W) => same_calls a0 a1 A0 c0 l0 A1 c1 l1 W (Kd.C_below HR0B.out h) hc0 (Kd.C_below HR1B.out h) hc1 HSM.out)
  have QC := Lib.hid (fun W (h : Below w16.heap.size w16 W) => find_calls a0 no A0 c0 l0 W (Kd.C_below HR0B.out h) hc0 (by have := HU.out; omega))
  have QD := Lib.hid (fun W (h : Below w16.heap.size w16 W) => refFind_calls a0 no A0 c0 l0 W (Kd.C_below HR0B.out h) hc0 (by omega) (by have := HU.out; omega))
  have QE := Lib.hid (fun W (h : Below w16.heap.size w16 W) => usedD_calls a0 A0 c0 l0 W (Kd.C_below HR0B.out h) hc0 (by have := HU.out; omega))
  have QF := Lib.hid (fun W (h : Below w16.heap.size w16 W) => refUsedD_calls a0 A0 c0 l0 W (Kd.C_below HR0B.out h) hc0 (by omega) (by have := HU.out; omega))
  generalize decide (mayD ⟨a0, l0⟩) = mb at *
  generalize decide ((⟨a0, l0⟩ : Dk) = ⟨a1, l1⟩) = sb at *
  generalize findD ⟨a0, l0⟩ no = fd at *
  generalize usedD ⟨a0, l0⟩ = ud at *
  have hm1 : (mb == mb) = true := by simp
  have hm2 : (sb == sb) = true := by simp
  have hm3 : (nb == nb) = true := by simp
  have HSS := Lib.hid (show ∀ W, Below w16.heap.size w16 W → W.cell? ⟨w.heap.size, 0, none⟩ = some (.int .i64 a0) ∧ W.cell? ⟨w.heap.size, 1, none⟩ = some (.slice A0 l0.length c0) ∧ W.cell? ⟨w.heap.size + 1, 0, none⟩ = some (.int .i64 a1) ∧ W.cell? ⟨w.heap.size + 1, 1, none⟩ = some (.slice A1 l1.length c1) from fun W h => ⟨(bx.below h).c 0 rfl, (bx.below h).c 1 rfl, (by_.below h).c 0 rfl, (by_.below h).c 1 rfl⟩)
  have D0 := Lib.hid (show Below w16.heap.size w16 w16.drew from (Below.refl _ w16).drew)
  clear bx by_
  go_wp2_with (fail)
  go_region_held3 (fun W => W.cell? ⟨w.heap.size, 0, none⟩ = some (.int .i64 a0) ∧ W.cell? ⟨w.heap.size, 1, none⟩ = some (.slice A0 l0.length c0) ∧ W.cell? ⟨w.heap.size + 1, 0, none⟩ = some (.int .i64 a1) ∧ W.cell? ⟨w.heap.size + 1, 1, none⟩ = some (.slice A1 l1.length c1))
    (first | (with_reducible exact HSS.out _ D0.out) | (with_reducible exact HSS.out _ D1.out) | (with_reducible exact HSS.out _ D2.out) | (with_reducible exact HSS.out _ D3.out) | (with_reducible exact HSS.out _ D4.out) | (with_reducible exact HSS.out _ D5.out) | (with_reducible exact HSS.out _ D6.out))
    (first
    | (go_at_call 12; refine (QA.out _ D0.out).mono ?_; rintro e v1 ⟨rfl, hq1⟩; have D1 := Lib.hid (below_onR hq1 D0.out))
    | (go_at_call 14; refine (QB.out _ D1.out).mono ?_; rintro e v2 ⟨rfl, hq2⟩; have D2 := Lib.hid (below_onR hq2 D1.out))
    | (go_at_call 15; refine (QC.out _ D2.out).mono ?_; rintro e v3 ⟨rfl, hq3⟩; have D3 := Lib.hid (below_onR hq3 D2.out))
    | (go_at_call 29; refine (QD.out _ D3.out).mono ?_; rintro e v4 ⟨rfl, hq4⟩; have D4 := Lib.hid (below_onR hq4 D3.out))
    | (go_at_call 18; refine (QE.out _ D4.out).mono ?_; rintro e v5 ⟨rfl, hq5⟩; have D5 := Lib.hid (below_onR hq5 D4.out))
    | (go_at_call 30; refine (QF.out _ D5.out).mono ?_; rintro e v6 ⟨rfl, hq6⟩; have D6 := Lib.hid (below_onR hq6 D5.out)))
  all_goals
    go_wp2_with (fail)
    go_ret
    exact ⟨by simp, hB.trans (D6.out.mono hB.size)⟩
end Go.Proofs.Ytahiigcofgnncaa.H
