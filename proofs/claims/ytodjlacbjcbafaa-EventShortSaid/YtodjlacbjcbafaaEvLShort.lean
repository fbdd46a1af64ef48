import Derived.Test.YtodjlacbjcbafaaEvO
import Derived.Test.YtodjlacbjcbafaaRowS
import Derived.Deep.RegionHeld3
import Derived.Deep.RegionHeldLaw
import Derived.Deep.QuietTactic
import Derived.BigQuiet
import Derived.OpenShut
/-! The law EventShort, walked. -/
namespace Go.Proofs.Ytodjlacbjcbafaa.H
open Go.RowKit Moor Go.Proofs.YtodjlacbjcbafaaW.PrintWords Go.Proofs.YtodjlacbjcbafaaW.PrintLast Go.Proofs.YtodjlacbjcbafaaW.PrintMore
set_option linter.unusedVariables false
set_option linter.unusedSimpArgs false

set_option maxRecDepth 100000 in
set_option maxHeartbeats 8000000 in
theorem eventShort_walk (a0 : Int) (e1 : Ev) (w : World) (hw0 : (Lit.int .i64 a0).wf = true) :
    Calls Try.prog 5 #[.int .i64 a0, .agg (cellsE e1)] w fun e w' => e = .returned (.bool true) ∧ Below w.heap.size w w' := by
  go_enter Try.func5, Try.ntmps5
  go_wp2_with (fail)
  have hbx1 := EvB.new w e1
  have hBa : Below w.heap.size w (w.alloc (.cells (cellsE e1) 34)) := below_alloc (Below.refl _ _) _
  refine (awake_true _).mono ?_
  rintro e w10 ⟨rfl, hb1⟩
  have hB10 : Below w.heap.size w w10 := hBa.trans (hb1.mono hBa.size)
  replace hbx1 := hbx1.below hb1
  obtain ⟨x1_0, x1_1, x1_2, x1_3, x1_4, x1_5, x1_6, x1_7, x1_8⟩ := hbx1.nine
  clear hb1 hBa
  obtain ⟨P, hP⟩ : ∃ P, putE a0 [e1] = P := ⟨_, rfl⟩
  have SH := fun h => putE_short (f := a0) (e := e1) h
  rw [hP] at SH
  have HS := Lib.hid SH
  have HP := Lib.hid hP
  clear SH hP
  go_wp2_with (fail)
  have hLA : Below w10.heap.size w10 (w10.alloc (.cells (cellsE e1) 34)) := below_alloc (Below.refl _ _) _
  have q := eput_calls a0 [e1] (some ⟨w10.heap.size, 0, none⟩) 1 _ (one_evW w10 e1) (Nat.le_refl _) (by simp)
  rw [HP.out] at q
  refine q.mono ?_
  clear q
  rintro e w11 ⟨A11, c11, rfl, hc11, hC11, hb11⟩
  dsimp only at hc11 hC11 ⊢
  replace hb11 : Below w10.heap.size w10 w11 := hLA.trans (hb11.mono hLA.size)
  clear hLA
  replace hbx1 := hbx1.below hb11
  clear x1_0 x1_1 x1_2 x1_3 x1_4 x1_5 x1_6 x1_7 x1_8
  obtain ⟨x1_0, x1_1, x1_2, x1_3, x1_4, x1_5, x1_6, x1_7, x1_8⟩ := hbx1.nine
  have hB11 : Below w.heap.size w w11 := hB10.trans (hb11.mono hB10.size)
  clear hb11
  have HC11 := Lib.hid hC11
  clear hC11
  clear HP
  obtain ⟨P, is_⟩ := P
  dsimp only at *
  have SH := HS.out
  clear HS
  cases is_ with
  | true =>
      have SH := SH rfl
      by_cases k0 : e1.kind = 0
      · skip
        obtain ⟨s1, s2, s3⟩ := SH (.inl k0)
        have s1' : (P.length : Int) ≥ 2 := by omega
        have s2' : (P.length : Int) ≤ 7 := by omega
        have k0b : (e1.kind != 0) = false := by simpa using k0
        by_cases ha : e1.at_ = a0
        · skip
          have s3' : (P.length : Int) ≤ 3 := by have := s3 ha; omega
          have hab : (e1.at_ != a0) = false := by simpa using ha
          clear s1 s2 s3 SH k0 ha
          go_wp2_with (fail)
          go_ret
          exact ⟨by simp, hB11⟩
        · skip
          have hab : (e1.at_ != a0) = true := by simpa using ha
          clear s1 s2 s3 SH k0 ha
          go_wp2_with (fail)
          go_ret
          exact ⟨by simp, hB11⟩
      · skip
        have k0b : (e1.kind != 0) = true := by simpa using k0
        by_cases k1 : e1.kind = 1
        · skip
          obtain ⟨s1, s2, s3⟩ := SH (.inr k1)
          have s1' : (P.length : Int) ≥ 2 := by omega
          have s2' : (P.length : Int) ≤ 7 := by omega
          have k1b : (e1.kind != 1) = false := by simpa using k1
          by_cases ha : e1.at_ = a0
          · skip
            have s3' : (P.length : Int) ≤ 3 := by have := s3 ha; omega
            have hab : (e1.at_ != a0) = false := by simpa using ha
            clear s1 s2 s3 SH k0 k1 ha
            go_wp2_with (fail)
            go_ret
            exact ⟨by simp, hB11⟩
          · skip
            have hab : (e1.at_ != a0) = true := by simpa using ha
            clear s1 s2 s3 SH k0 k1 ha
            go_wp2_with (fail)
            go_ret
            exact ⟨by simp, hB11⟩
        · skip
          have k1b : (e1.kind != 1) = true := by simpa using k1
          clear SH k0 k1
          go_wp2_with (fail)
          go_ret
          exact ⟨rfl, hB11⟩
  | false =>
      clear SH
      go_wp2_with (fail)
      go_ret
      exact ⟨rfl, hB11⟩

end Go.Proofs.Ytodjlacbjcbafaa.H
