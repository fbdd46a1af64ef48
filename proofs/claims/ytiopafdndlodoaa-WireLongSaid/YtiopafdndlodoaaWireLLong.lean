import Derived.Test.YtiopafdndlodoaaWireAw
import Derived.Test.YtiopafdndlodoaaRowS
import Derived.Deep.RegionHeld3
import Derived.Deep.RegionHeldLaw
import Derived.Deep.QuietTactic
import Derived.BigQuiet
import Derived.OpenShut
/-! The law WireLong, walked. -/
namespace Go.Proofs.Ytiopafdndlodoaa.H
open Go.RowKit Moor Go.Proofs.YtiopafdndlodoaaW.PrintWords Go.Proofs.YtiopafdndlodoaaW.PrintLast Go.Proofs.YtiopafdndlodoaaW.PrintMore
set_option linter.unusedVariables false
set_option linter.unusedSimpArgs false

set_option maxRecDepth 100000 in
set_option maxHeartbeats 8000000 in
theorem wireLong_walk (e0 : Rq) (e1 : Aw) (w : World)  :
    Calls Try.prog 7 #[.agg (cellsQ e0), .agg (cellsA e1)] w fun e w' => e = .returned (.bool true) ∧ Below w.heap.size w w' := by
  go_enter Try.func7, Try.ntmps7
  go_wp2_with (fail)
  have hbx0 := QC.new w (cellsQ e0)
  have hBa0 : Below w.heap.size w (w.alloc (.cells (cellsQ e0) 25)) := below_alloc (Below.refl _ _) _
  have hbx1 := AC.new (w.alloc (.cells (cellsQ e0) 25)) e1
  simp only [World.size_alloc] at hbx1
  replace hbx0 := hbx0.below (below_alloc (Below.refl _ _) (.cells (cellsA e1) 28))
  have hBa1 : Below w.heap.size w ((w.alloc (.cells (cellsQ e0) 25)).alloc (.cells (cellsA e1) 28)) := below_alloc hBa0 _
  refine (awake_true _).mono ?_
  rintro e w10 ⟨rfl, hb10⟩
  have hB10 : Below w.heap.size w w10 := hBa1.trans (hb10.mono hBa1.size)
  replace hbx0 := hbx0.below hb10
  replace hbx1 := hbx1.below hb10
  clear hb10 hBa0 hBa1
  obtain ⟨x0_0, x0_1, x0_2, x0_3, x0_4, x0_5, x0_6, x0_7, x0_8⟩ := hbx0.nine
  obtain ⟨x1_0, x1_1, x1_2⟩ := hbx1.three
  obtain ⟨P, hP⟩ : ∃ P, wPut e0 = P := ⟨_, rfl⟩
  obtain ⟨T, hT⟩ : ∃ P, wTell e1 = P := ⟨_, rfl⟩
  have h1 := wPut_long e0
  have h2 := wTell_long e1
  rw [hP] at h1
  rw [hT] at h2
  have HP := Lib.hid hP
  have HT := Lib.hid hT
  have H1 := Lib.hid h1
  have H2 := Lib.hid h2
  clear hP hT h1 h2
  go_wp2_with (fail)
  have q := wPut_calls e0 w10
  rw [HP.out] at q
  refine q.mono ?_
  clear q
  rintro e w11 ⟨A11, c11, rfl, hc11, hC11, hb11⟩
  dsimp only at hc11 hC11 ⊢
  replace hbx0 := hbx0.below hb11
  clear x0_0 x0_1 x0_2 x0_3 x0_4 x0_5 x0_6 x0_7 x0_8
  obtain ⟨x0_0, x0_1, x0_2, x0_3, x0_4, x0_5, x0_6, x0_7, x0_8⟩ := hbx0.nine
  replace hbx1 := hbx1.below hb11
  clear x1_0 x1_1 x1_2
  obtain ⟨x1_0, x1_1, x1_2⟩ := hbx1.three
  have hB11 : Below w.heap.size w w11 := hB10.trans (hb11.mono hB10.size)
  clear hb11
  have HC11 := Lib.hid hC11
  clear hC11
  go_wp2_with (fail)
  have q := wtell_calls e1 w11
  rw [HT.out] at q
  refine q.mono ?_
  clear q
  rintro e w12 ⟨A12, c12, rfl, hc12, hC12, hb12⟩
  dsimp only at hc12 hC12 ⊢
  replace hbx0 := hbx0.below hb12
  clear x0_0 x0_1 x0_2 x0_3 x0_4 x0_5 x0_6 x0_7 x0_8
  obtain ⟨x0_0, x0_1, x0_2, x0_3, x0_4, x0_5, x0_6, x0_7, x0_8⟩ := hbx0.nine
  replace hbx1 := hbx1.below hb12
  clear x1_0 x1_1 x1_2
  obtain ⟨x1_0, x1_1, x1_2⟩ := hbx1.three
  replace HC11 := Lib.hid (Kd.C_below HC11.out hb12)
  have hB12 : Below w.heap.size w w12 := hB11.trans (hb12.mono hB11.size)
  clear hb12
  have HC12 := Lib.hid hC12
  clear hC12
  clear HP HT
  obtain ⟨P, is_⟩ := P
  obtain ⟨T, can⟩ := T
  dsimp only at *
  cases is_ with
  | true =>
      have k1 : (P.length : Int) ≥ 7 := by have := H1.out.2.1 rfl; omega
      have k2 : (P.length : Int) ≤ 40 := by have := H1.out.2.2; omega
      cases can with
      | true =>
          have k3 : (T.length : Int) ≥ 8 := by have := H2.out.2.1 rfl; omega
          have k4 : (T.length : Int) ≤ 19 := by have := H2.out.2.2; omega
          go_wp2_with (fail)
          go_ret
          exact ⟨by simp, hB12⟩
      | false =>
          go_wp2_with (fail)
          go_ret
          exact ⟨by simp, hB12⟩
  | false =>
      cases can with
      | true =>
          have k3 : (T.length : Int) ≥ 8 := by have := H2.out.2.1 rfl; omega
          have k4 : (T.length : Int) ≤ 19 := by have := H2.out.2.2; omega
          go_wp2_with (fail)
          go_ret
          exact ⟨by simp, hB12⟩
      | false =>
          go_wp2_with (fail)
          go_ret
          exact ⟨by simp, hB12⟩

end Go.Proofs.Ytiopafdndlodoaa.H
