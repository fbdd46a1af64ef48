import Derived.Test.YtiopafdndlodoaaWireAw
import Derived.Test.YtiopafdndlodoaaRowS
import Derived.Deep.RegionHeld3
import Derived.Deep.RegionHeldLaw
import Derived.Deep.QuietTactic
import Derived.BigQuiet
import Derived.OpenShut
/-! The law WireCut, walked. -/
namespace Go.Proofs.Ytiopafdndlodoaa.H
open Go.RowKit Moor Go.Proofs.YtiopafdndlodoaaW.PrintWords Go.Proofs.YtiopafdndlodoaaW.PrintLast Go.Proofs.YtiopafdndlodoaaW.PrintMore
set_option linter.unusedVariables false
set_option linter.unusedSimpArgs false

set_option maxRecDepth 100000 in
set_option maxHeartbeats 16000000 in
theorem wireCut_walk (e0 : Rq) (a1 : Int) (A2 : Option Addr) (c2 : Nat) (l2 : List Int) (w : World) (hw1 : (Lit.int .i64 a1).wf = true) (hr2 : Kd.C (Kd.int .u8) w A2 l2.length l2) (hc2 : l2.length ≤ c2) (ho2 : okB l2) (hs2 : l2.length ≤ 140737488351232) :
    Calls Try.prog 9 #[.agg (cellsQ e0), .int .i64 a1, .slice A2 l2.length c2] w fun e w' => e = .returned (.bool true) ∧ Below w.heap.size w w' := by
  go_enter Try.func9, Try.ntmps9
  go_wp2_with (fail)
  have hbx0 := QC.new w (cellsQ e0)
  have hBa0 : Below w.heap.size w (w.alloc (.cells (cellsQ e0) 25)) := below_alloc (Below.refl _ _) _
  refine (awake_true _).mono ?_
  rintro e w10 ⟨rfl, hb10⟩
  have hB10 : Below w.heap.size w w10 := hBa0.trans (hb10.mono hBa0.size)
  replace hbx0 := hbx0.below hb10
  clear hb10 hBa0
  obtain ⟨x0_0, x0_1, x0_2, x0_3, x0_4, x0_5, x0_6, x0_7, x0_8⟩ := hbx0.nine
  have HR2 := Lib.hid (Kd.C_below hr2 hB10)
  clear hr2
  obtain ⟨P, hP⟩ : ∃ P, wPut e0 = P := ⟨_, rfl⟩
  have h1 := wPut_long e0
  have h2 := fun h => wRead_more (r := e0) h l2
  have h3 := fun h k hk => wRead_cut (r := e0) h k hk
  rw [hP] at h1 h2 h3
  have HP := Lib.hid hP
  have HPO := Lib.hid h1
  have HMO := Lib.hid h2
  have HCU := Lib.hid h3
  clear hP h1 h2 h3
  go_wp2_with (fail)
  have q := wPut_calls e0 w10
  rw [HP.out] at q
  refine q.mono ?_
  clear q
  rintro e w11 ⟨A11, c11, rfl, hc11, hC11, hb11⟩
  dsimp only at hc11 hC11 ⊢
  replace hbx0 := hbx0.below hb11
  clear x0_0 x0_1 x0_2 x0_3 x0_4 x0_5 x0_6 x0_7 x0_8
  obtain ⟨x0_0, x0_1, x0_2, x0_3, x0_4, x0_5, x0_6, x0_7, x0_8⟩ := hbx0.nine
  replace HR2 := Lib.hid (Kd.C_below HR2.out hb11)
  have hB11 : Below w.heap.size w w11 := hB10.trans (hb11.mono hB10.size)
  clear hb11
  have HC11 := Lib.hid hC11
  clear hC11
  clear HP
  obtain ⟨P, is_⟩ := P
  dsimp only at *
  cases is_ with
  | true =>
      by_cases g2 : l2.length ≤ 100
      · skip
        have gi2 : ¬ (100 : Int) < (l2.length : Int) := by omega
        have HMO1 := Lib.hid (HMO.out rfl)
        have HCU1 := Lib.hid (fun k hk => HCU.out rfl k hk)
        clear HMO HCU
        obtain ⟨X, hX⟩ : ∃ X, P ++ l2 = X := ⟨_, rfl⟩
        have hXl : X.length ≤ 1000 := by rw [← hX, List.length_append]; have := HPO.out.2.2; omega
        have hXo : okB X := by rw [← hX]; exact okB_append HPO.out.1 ho2
        rw [hX] at HMO1
        have hpl : P.length ≤ 30 := HPO.out.2.2
        go_wp2_with (at_builtin; first | (have zz := hr1100'; refine Kd.R_append_rows (Kd.int .u8) (Rr := fun x cs => cs = [.int .u8 x]) (w0 := w11) w11.heap.size rfl _ _ 29 5 (.int .u8 0) 1 rfl Try.underlying29 infoU8 rfl (by decide) (by decide) v1100 P l2 A2 l2.length c2 (fun _ => True) (fun _ => False) rfl rfl hr1100' (Kd.C_below HR2.out hb1100') (fun _ _ h => h) (fun _ h => h.elim) (fun _ _ => trivial) hb1100' hb1100'.size (by first | omega | (simp; done) | (simp; omega)) ?_; intro v1101 u1101 hr1101' hb1101' hG _; replace hr1101' : Kd.R (Kd.int .u8) 5 u1101 w11.heap.size (fun _ => True) v1101 (P ++ l2) := (by simpa using hr1101'); rw [hX] at hr1101'; obtain ⟨A12, c12, rfl, hc12, hC12⟩ := Kd.R_reads hr1101') | (refine Kd.R_append_rows (Kd.int .u8) (Rr := fun x cs => cs = [.int .u8 x]) (w0 := w11) w11.heap.size rfl _ _ 29 5 (.int .u8 0) 1 rfl Try.underlying29 infoU8 rfl (by decide) (by decide) (.slice none 0 0) ([] : List Int) P A11 P.length c11 (fun _ => True) (fun _ => False) rfl rfl (Kd.R_nil _ _ _ _ _) HC11.out (fun _ _ h => h) (fun _ h => h.elim) (fun _ _ => trivial) (Below.refl _ _) (Nat.le_refl _) (by first | omega | (simp; done) | (simp; omega)) ?_; intro v1100 u1100 hr1100' hb1100' hG _; replace hr1100' : Kd.R (Kd.int .u8) 5 u1100 w11.heap.size (fun _ => True) v1100 P := (by simpa using hr1100')))
        have hb12 := hb1101'
        generalize u1101 = w12 at *
        replace hbx0 := hbx0.below hb12
        clear x0_0 x0_1 x0_2 x0_3 x0_4 x0_5 x0_6 x0_7 x0_8
        obtain ⟨x0_0, x0_1, x0_2, x0_3, x0_4, x0_5, x0_6, x0_7, x0_8⟩ := hbx0.nine
        replace HR2 := Lib.hid (Kd.C_below HR2.out hb12)
        replace HC11 := Lib.hid (Kd.C_below HC11.out hb12)
        have hB12 : Below w.heap.size w w12 := hB11.trans (hb12.mono hB11.size)
        clear hb12
        have HC12 := Lib.hid hC12
        clear hC12
        clear hX
        obtain ⟨R, hR⟩ : ∃ R_, wRead X = R_ := ⟨_, rfl⟩
        rw [hR] at HMO1
        have HRD := Lib.hid hR
        clear hR
        have q := wread_calls A12 c12 X w12 HC12.out hc12 hXo (by omega)
        rw [HRD.out] at q
        refine q.mono ?_
        clear q
        rintro e w13 ⟨rfl, hb13⟩
        (try dsimp only)
        replace hbx0 := hbx0.below hb13
        clear x0_0 x0_1 x0_2 x0_3 x0_4 x0_5 x0_6 x0_7 x0_8
        obtain ⟨x0_0, x0_1, x0_2, x0_3, x0_4, x0_5, x0_6, x0_7, x0_8⟩ := hbx0.nine
        replace HR2 := Lib.hid (Kd.C_below HR2.out hb13)
        replace HC11 := Lib.hid (Kd.C_below HC11.out hb13)
        replace HC12 := Lib.hid (Kd.C_below HC12.out hb13)
        have hB13 : Below w.heap.size w w13 := hB12.trans (hb13.mono hB12.size)
        clear hb13
        clear HRD
        obtain ⟨R, er⟩ := R
        dsimp only at *
        by_cases hm : l2.length = 0
        · skip
          obtain rfl : er = 0 := by rw [HMO1.out, if_pos hm]
          have hm0 : ((l2.length : Int) == 0) = true := by simpa using hm
          have hmh := Lib.hid hm
          clear hm
          by_cases hk0 : 0 ≤ a1
          · skip
            by_cases hk1 : (P.length : Int) ≤ a1
            · skip
              have hk1' : a1 ≥ (P.length : Int) := by omega
              have hk0' : ¬ a1 < 0 := by omega
              go_wp2_with (fail)
              go_ret
              exact ⟨by simp, below_alloc hB13 _⟩
            · skip
              obtain ⟨K, rfl⟩ := Int.eq_ofNat_of_zero_le hk0
              have hk1' : ¬ (K : Int) ≥ (P.length : Int) := by omega
              have hk0' : ¬ (K : Int) < 0 := by omega
              have hKP : K < P.length := by omega
              obtain ⟨t1, t2, t3⟩ := takeB A11 c11 P (K : Int) (by omega) (by omega) hc11
              rw [Int.toNat_natCast] at t1 t2 t3
              have HCK := Lib.hid (HCU1.out K hKP)
              have hyo : okB (P.take K) := okB_take HPO.out.1 K
              generalize hy : P.take K = y at *
              have hyl : y.length ≤ 30 := by rw [← hy, List.length_take]; omega
              have HT2 := Lib.hid t2
              obtain ⟨R2, hR2⟩ : ∃ R_, wRead y = R_ := ⟨_, rfl⟩
              rw [hR2] at HCK
              have HRD2 := Lib.hid hR2
              clear hy t2 hR2 hk0 hk1
              go_wp2_with (fail)
              have hbxz := QC.new w13 (cellsQ R)
              have hb14 : Below w13.heap.size w13 (w13.alloc (.cells #[.int .i64 R.kind, .int .i64 R.sub, .int .i64 R.addr, .int .i64 R.blk, .int .i64 R.n, .int .i64 R.q, .int .i64 R.i, .int .i64 R.h, .bool R.pair] 25)) := below_alloc (Below.refl _ _) _
              generalize hwz : w13.alloc (.cells #[.int .i64 R.kind, .int .i64 R.sub, .int .i64 R.addr, .int .i64 R.blk, .int .i64 R.n, .int .i64 R.q, .int .i64 R.i, .int .i64 R.h, .bool R.pair] 25) = w14 at *
              clear hwz hbxz
              replace hbx0 := hbx0.below hb14
              clear x0_0 x0_1 x0_2 x0_3 x0_4 x0_5 x0_6 x0_7 x0_8
              obtain ⟨x0_0, x0_1, x0_2, x0_3, x0_4, x0_5, x0_6, x0_7, x0_8⟩ := hbx0.nine
              replace HR2 := Lib.hid (Kd.C_below HR2.out hb14)
              replace HC11 := Lib.hid (Kd.C_below HC11.out hb14)
              replace HC12 := Lib.hid (Kd.C_below HC12.out hb14)
              have hB14 : Below w.heap.size w w14 := hB13.trans (hb14.mono hB13.size)
              clear hb14
              have q := wread_calls A11 c11 y w14 (HT2.out _ HC11.out) t3 hyo (by omega)
              rw [HRD2.out] at q
              refine q.mono ?_
              clear q
              rintro e w15 ⟨rfl, hb15⟩
              (try dsimp only)
              replace hbx0 := hbx0.below hb15
              clear x0_0 x0_1 x0_2 x0_3 x0_4 x0_5 x0_6 x0_7 x0_8
              obtain ⟨x0_0, x0_1, x0_2, x0_3, x0_4, x0_5, x0_6, x0_7, x0_8⟩ := hbx0.nine
              replace HR2 := Lib.hid (Kd.C_below HR2.out hb15)
              replace HC11 := Lib.hid (Kd.C_below HC11.out hb15)
              replace HC12 := Lib.hid (Kd.C_below HC12.out hb15)
              have hB15 : Below w.heap.size w w15 := hB14.trans (hb15.mono hB14.size)
              clear hb15
              clear HRD2
              obtain ⟨R2, er2⟩ := R2
              dsimp only at *
              obtain rfl : er2 = 4 := HCK.out
              go_wp2_with (fail)
              go_ret
              exact ⟨by simp, below_alloc hB15 _⟩
          · skip
            have hk0 : a1 < 0 := by omega
            go_wp2_with (fail)
            go_ret
            exact ⟨by simp, below_alloc hB13 _⟩
        · skip
          obtain rfl : er = 2 := by rw [HMO1.out, if_neg hm]
          have hm0 : ((l2.length : Int) == 0) = false := by simpa using (show ¬ (l2.length : Int) = 0 by omega)
          have hmh := Lib.hid hm
          clear hm
          by_cases hk0 : 0 ≤ a1
          · skip
            by_cases hk1 : (P.length : Int) ≤ a1
            · skip
              have hk1' : a1 ≥ (P.length : Int) := by omega
              have hk0' : ¬ a1 < 0 := by omega
              go_wp2_with (fail)
              go_ret
              exact ⟨by simp, below_alloc hB13 _⟩
            · skip
              obtain ⟨K, rfl⟩ := Int.eq_ofNat_of_zero_le hk0
              have hk1' : ¬ (K : Int) ≥ (P.length : Int) := by omega
              have hk0' : ¬ (K : Int) < 0 := by omega
              have hKP : K < P.length := by omega
              obtain ⟨t1, t2, t3⟩ := takeB A11 c11 P (K : Int) (by omega) (by omega) hc11
              rw [Int.toNat_natCast] at t1 t2 t3
              have HCK := Lib.hid (HCU1.out K hKP)
              have hyo : okB (P.take K) := okB_take HPO.out.1 K
              generalize hy : P.take K = y at *
              have hyl : y.length ≤ 30 := by rw [← hy, List.length_take]; omega
              have HT2 := Lib.hid t2
              obtain ⟨R2, hR2⟩ : ∃ R_, wRead y = R_ := ⟨_, rfl⟩
              rw [hR2] at HCK
              have HRD2 := Lib.hid hR2
              clear hy t2 hR2 hk0 hk1
              go_wp2_with (fail)
              have hbxz := QC.new w13 (cellsQ R)
              have hb14 : Below w13.heap.size w13 (w13.alloc (.cells #[.int .i64 R.kind, .int .i64 R.sub, .int .i64 R.addr, .int .i64 R.blk, .int .i64 R.n, .int .i64 R.q, .int .i64 R.i, .int .i64 R.h, .bool R.pair] 25)) := below_alloc (Below.refl _ _) _
              generalize hwz : w13.alloc (.cells #[.int .i64 R.kind, .int .i64 R.sub, .int .i64 R.addr, .int .i64 R.blk, .int .i64 R.n, .int .i64 R.q, .int .i64 R.i, .int .i64 R.h, .bool R.pair] 25) = w14 at *
              clear hwz hbxz
              replace hbx0 := hbx0.below hb14
              clear x0_0 x0_1 x0_2 x0_3 x0_4 x0_5 x0_6 x0_7 x0_8
              obtain ⟨x0_0, x0_1, x0_2, x0_3, x0_4, x0_5, x0_6, x0_7, x0_8⟩ := hbx0.nine
              replace HR2 := Lib.hid (Kd.C_below HR2.out hb14)
              replace HC11 := Lib.hid (Kd.C_below HC11.out hb14)
              replace HC12 := Lib.hid (Kd.C_below HC12.out hb14)
              have hB14 : Below w.heap.size w w14 := hB13.trans (hb14.mono hB13.size)
              clear hb14
              have q := wread_calls A11 c11 y w14 (HT2.out _ HC11.out) t3 hyo (by omega)
              rw [HRD2.out] at q
              refine q.mono ?_
              clear q
              rintro e w15 ⟨rfl, hb15⟩
              (try dsimp only)
              replace hbx0 := hbx0.below hb15
              clear x0_0 x0_1 x0_2 x0_3 x0_4 x0_5 x0_6 x0_7 x0_8
              obtain ⟨x0_0, x0_1, x0_2, x0_3, x0_4, x0_5, x0_6, x0_7, x0_8⟩ := hbx0.nine
              replace HR2 := Lib.hid (Kd.C_below HR2.out hb15)
              replace HC11 := Lib.hid (Kd.C_below HC11.out hb15)
              replace HC12 := Lib.hid (Kd.C_below HC12.out hb15)
              have hB15 : Below w.heap.size w w15 := hB14.trans (hb15.mono hB14.size)
              clear hb15
              clear HRD2
              obtain ⟨R2, er2⟩ := R2
              dsimp only at *
              obtain rfl : er2 = 4 := HCK.out
              go_wp2_with (fail)
              go_ret
              exact ⟨by simp, below_alloc hB15 _⟩
          · skip
            have hk0 : a1 < 0 := by omega
            go_wp2_with (fail)
            go_ret
            exact ⟨by simp, below_alloc hB13 _⟩
      · skip
        have gi2 : (100 : Int) < (l2.length : Int) := by omega
        go_wp2_with (fail)
        go_ret
        exact ⟨rfl, hB11⟩
  | false =>
      clear HMO HCU
      go_wp2_with (fail)
      go_ret
      exact ⟨rfl, hB11⟩

end Go.Proofs.Ytiopafdndlodoaa.H
