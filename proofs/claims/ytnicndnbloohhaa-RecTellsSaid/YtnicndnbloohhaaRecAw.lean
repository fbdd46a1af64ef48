import Derived.Test.YtnicndnbloohhaaRecH
/-! mooringslaw05.awake answers true. -/
namespace Go.Proofs.Ytnicndnbloohhaa.H
open Go.RowKit Moor Go.Proofs.YtnicndnbloohhaaW.PrintWords Go.Proofs.YtnicndnbloohhaaW.PrintLast Go.Proofs.YtnicndnbloohhaaW.PrintMore
set_option linter.unusedVariables false
set_option linter.unusedSimpArgs false

theorem add_oneR (ad : Addr) : ad.add 1 = ⟨ad.block, ad.off + 1, none⟩ := by
  cases ad
  simp [Addr.add]
def r7 : Rc := ⟨7, []⟩
theorem r7_may : recMay r7 := by decide
theorem r7_eq : ∃ t, recBytes r7 = 7 :: 0 :: t ∧ t.length = 4 := ⟨fourB (cSumV (r7.kind :: (put (r7.body.length : Int) ++ r7.body))), by rw [recBytes_eq]; rfl, rfl⟩
theorem r7_get : rGet (recBytes r7) 0 = (r7, 6, 0) := by
  have h := rGet_put r7_may [] []
  obtain ⟨t, e, ht⟩ := r7_eq
  have hl : (recBytes r7).length = 6 := by rw [e]; simp [ht]
  rw [List.append_nil, List.nil_append, hl] at h
  exact h
theorem r7_scan : rScan (recBytes r7) = ([r7], 6) := by
  have h := rScan_torn (l := [r7]) (fun r hr => by rw [List.mem_singleton.1 hr]; exact r7_may) r7_may (j := 0) (by obtain ⟨t, e, ht⟩ := r7_eq; rw [e]; simp)
  obtain ⟨t, e, ht⟩ := r7_eq
  have hj : joinR [r7] = recBytes r7 := by simp [joinR, List.flatMap]
  have hl : (recBytes r7).length = 6 := by rw [e]; simp [ht]
  rw [List.take_zero, List.append_nil, hj, hl] at h
  exact h

set_option maxRecDepth 100000 in
set_option maxHeartbeats 8000000 in
theorem awake_true (w : World) : Calls Try.prog 10 #[] w fun e w' => e = .returned (.bool true) ∧ Below w.heap.size w w' := by
  obtain ⟨t, hbe, hbl⟩ := r7_eq
  have hbo : okB (recBytes r7) := by
    have := rPut_ok (r := r7) (fun x hx => by cases hx)
    rw [rPut_pos r7_may] at this
    exact this
  have hgt := r7_get
  have hsc := r7_scan
  have hp := rPut_pos r7_may
  have hl6 : (recBytes r7).length = 6 := by rw [hbe]; simp [hbl]
  generalize recBytes r7 = b at *
  have hb0 : rd b 0 = 7 := by rw [hbe]; rfl
  have hb1 : rd b 1 = 0 := by rw [hbe]; rfl
  have HG := Lib.hid hgt
  have HSC := Lib.hid hsc
  have HP := Lib.hid hp
  have H6 := Lib.hid hl6
  have HB0 := Lib.hid hb0
  have HB1 := Lib.hid hb1
  clear hgt hsc hp hbe hl6 hb0 hb1
  go_enter Try.func10, Try.ntmps10
  go_wp2_with (fail)
  have q := rput_calls r7 none 0 w (Kd.C_nil _ _) (Nat.le_refl _) (fun x hx => by cases hx)
  rw [HP.out] at q
  refine q.mono ?_
  clear q
  rintro e w1 ⟨A1, c1, rfl, hc1, hC1, hB1⟩
  dsimp only at hc1 hC1 ⊢
  have HC1 := Lib.hid hC1
  clear hC1
  go_wp2_with (fail)
  have q := recGet_calls A1 c1 b 0 w1 HC1.out hc1 hbo (by have := H6.out; omega)
  rw [HG.out] at q
  refine q.mono ?_
  clear q
  rintro e w2 ⟨A2, c2, rfl, hc2, hC2, hb2, -⟩
  have hB2 : Below w.heap.size w w2 := hB1.trans (hb2.mono hB1.size)
  have HC2 := Lib.hid (Kd.C_below HC1.out hb2)
  go_wp2_with (fail)
  have hbx : BoxR (w2.alloc (.cells #[.int .i64 r7.kind, .slice A2 r7.body.length c2] 24)) w2.heap.size (.int .i64 r7.kind) (.slice A2 r7.body.length c2) := BoxR.new _ _ _
  have HBX := Lib.hid hbx
  have hB2a : Below w.heap.size w (w2.alloc (.cells #[.int .i64 r7.kind, .slice A2 r7.body.length c2] 24)) := below_alloc hB2 _
  have HCA := Lib.hid (Kd.C_alloc HC2.out (.cells #[.int .i64 r7.kind, .slice A2 r7.body.length c2] 24))
  have HC2A := Lib.hid (Kd.C_alloc hC2 (.cells #[.int .i64 r7.kind, .slice A2 r7.body.length c2] 24))
  clear hbx hC2 HC2 HC1
  have q := recScan_calls A1 c1 b _ HCA.out hc1 hbo (by have := H6.out; omega)
  unfold ScanEnd at q
  rw [HSC.out] at q
  refine q.mono ?_
  clear q
  rintro e w3 ⟨A3, c3, rfl, hc3, hC3, hb3⟩
  have hB3 : Below w.heap.size w w3 := hB2a.trans (hb3.mono hB2a.size)
  have bx3 := HBX.out.below hb3
  have x0 := bx3.c0
  have x1 := bx3.c1
  obtain ⟨ad, rfl, hc0⟩ := Kd.at_int (Kd.C_below HCA.out hb3) 0 (by omega) (by have := H6.out; omega)
  obtain ⟨ad', he', hc1'⟩ := Kd.at_int (Kd.C_below HCA.out hb3) 1 (by omega) (by have := H6.out; omega)
  cases he'
  rw [HB0.out] at hc0
  rw [HB1.out] at hc1'
  have hc0a : w3.cell? ad = some (.int .u8 7) := by
    have : (0 : Int).toNat = 0 := rfl
    rw [this, add_zeroR] at hc0
    exact hc0
  have hc1a : w3.cell? ⟨ad.block, ad.off + 1, none⟩ = some (.int .u8 0) := by
    rw [← add_oneR]
    exact hc1'
  have hl6 : ((b.length : Int) == 6) = true := by rw [H6.out]; rfl
  have hl0 : (0 : Int) < (b.length : Int) := by rw [H6.out]; decide
  have hl1 : (1 : Int) < (b.length : Int) := by rw [H6.out]; decide
  have hk7 : (r7.kind == 7) = true := rfl
  have HC2B := Lib.hid (Kd.C_below HC2A.out hb3)
  clear bx3 hC3 hb3
  go_wp2_with (fail)

  refine (rsame_calls r7 r7 true (decide_eq_true rfl) A2 c2 none 0 w3 HC2B.out hc2 (fun x hx => by cases hx) (Kd.C_nil _ _) (Nat.le_refl _) (fun x hx => by cases hx)).mono ?_
  rintro e w4 ⟨rfl, hb4⟩
  go_wp2_with (fail)
  go_ret
  exact ⟨rfl, hB3.trans (hb4.mono hB3.size)⟩

end Go.Proofs.Ytnicndnbloohhaa.H
