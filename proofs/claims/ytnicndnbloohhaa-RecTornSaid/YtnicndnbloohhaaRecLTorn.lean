import Derived.Test.YtnicndnbloohhaaRecAw
import Derived.Test.YtnicndnbloohhaaRecO
import Derived.Deep.RegionHeld3
import Derived.Deep.QuietTactic
import Derived.BigQuiet
import Derived.OpenShut
/-! The law RecTorn, walked. -/
namespace Go.Proofs.Ytnicndnbloohhaa.H
open Go.RowKit Moor Go.Proofs.YtnicndnbloohhaaW.PrintWords Go.Proofs.YtnicndnbloohhaaW.PrintLast Go.Proofs.YtnicndnbloohhaaW.PrintMore
set_option linter.unusedVariables false
set_option linter.unusedSimpArgs false

set_option maxRecDepth 100000 in
set_option maxHeartbeats 16000000 in
theorem recTorn_walk (A0 : Option Addr) (c0 : Nat) (l0 : List Rc) (a1 : Int) (A1 : Option Addr) (c1 : Nat) (l1 : List Int) (a2 : Int) (w : World) (hr0 : Kd.C kR w A0 (l0.map toS).length (l0.map toS)) (hc0 : l0.length ≤ c0) (ho0 : ∀ r ∈ l0, okB r.body) (hr1 : Kd.C (Kd.int .u8) w A1 l1.length l1) (hc1 : l1.length ≤ c1) (ho1 : okB l1) (hw2 : (Lit.int .i64 a2).wf = true) :
    Calls Try.prog 5 #[.slice A0 l0.length c0, .agg #[.int .i64 a1, .slice A1 l1.length c1], .int .i64 a2] w fun e w' => e = .returned (.bool true) ∧ Below w.heap.size w w' := by
  go_enter Try.func5, Try.ntmps5
  go_wp2_with (fail)
  have hbx1 := BoxR.new w (.int .i64 a1) (.slice A1 l1.length c1)
  have hBa0 : Below w.heap.size w (w.alloc (.cells #[.int .i64 a1, .slice A1 l1.length c1] 24)) := below_alloc (Below.refl _ _) _
  refine (awake_true _).mono ?_
  rintro e w1 ⟨rfl, hb1⟩
  have hB1 : Below w.heap.size w w1 := hBa0.trans (hb1.mono hBa0.size)
  replace hbx1 := BoxR.below hbx1 hb1
  have x10 := hbx1.c0
  have x11 := hbx1.c1
  clear hb1
  have HR0 := Lib.hid (Kd.C_below hr0 hB1)
  have HR1 := Lib.hid (Kd.C_below hr1 hB1)
  have hmx : l0.length ≤ 9223372036854775807 := by have := Kd.C_max hr0; simpa using this
  clear hr0 hr1
  obtain ⟨b5, hb5⟩ : ∃ b, fewR l0 5 = b := ⟨_, rfl⟩
  have HB5 := Lib.hid hb5
  clear hb5
  go_wp2_with (fail)
  have q := few_calls l0 5 b5 HB5.out A0 c0 w1 HR0.out hc0 hmx
  refine q.mono ?_
  clear q
  rintro e w2 ⟨rfl, hb2⟩
  replace hbx1 := BoxR.below hbx1 hb2
  clear x10 x11
  have x10 := hbx1.c0
  have x11 := hbx1.c1
  replace HR0 := Lib.hid (Kd.C_below HR0.out hb2)
  replace HR1 := Lib.hid (Kd.C_below HR1.out hb2)
  have hB2 : Below w.heap.size w w2 := hB1.trans (hb2.mono hB1.size)
  clear hb2
  have hLA : Below w2.heap.size w2 (w2.alloc (.cells #[.int .i64 a1, .slice A1 l1.length c1] 24)) := below_alloc (Below.refl _ _) _
  obtain ⟨bs1, hbs1⟩ : ∃ b, decide (l1.length ≤ 1100) = b := ⟨_, rfl⟩
  have HBS1 := Lib.hid hbs1
  clear hbs1
  go_wp2_with (fail)
  have q := few_calls [⟨a1, l1⟩] 1 bs1 ((fewR_one _).trans HBS1.out) (some ⟨w2.heap.size, 0, none⟩) 1 _ (lit_rec (t := 24) HR1.out hc1) (Nat.le_refl _) (by simp)
  refine q.mono ?_
  clear q
  rintro e w3 ⟨rfl, hb3⟩
  replace hb3 := below_onR hb3 hLA
  clear hLA
  replace hbx1 := BoxR.below hbx1 hb3
  clear x10 x11
  have x10 := hbx1.c0
  have x11 := hbx1.c1
  replace HR0 := Lib.hid (Kd.C_below HR0.out hb3)
  replace HR1 := Lib.hid (Kd.C_below HR1.out hb3)
  have hB3 : Below w.heap.size w w3 := hB2.trans (hb3.mono hB2.size)
  clear hb3
  by_cases q5 : fewR l0 5 = true
  · skip
    obtain rfl : b5 = true := by rw [← HB5.out]; exact q5
    have hl5 : l0.length ≤ 5 := by
      unfold fewR at q5
      simp only [Bool.and_eq_true, decide_eq_true_eq] at q5
      have := q5.2
      omega
    clear q5
    by_cases q1 : l1.length ≤ 1100
    · skip
      obtain rfl : bs1 = true := by rw [← HBS1.out]; exact decide_eq_true q1
      by_cases hj : ∀ r ∈ l0, recMay r
      · skip
        have hjo : okB (joinR l0) := joinR_ok hj ho0
        have hjl := joinR_le l0 hj
        go_wp2_with (fail)
        have q := joined_calls A0 c0 l0 w3 HR0.out hc0 ho0 (by omega)
        rw [joinedR_pos hj] at q
        refine q.mono ?_
        clear q
        rintro e w4 ⟨A4, c4, rfl, hc4, hC4, hb4⟩
        dsimp only at hc4 hC4 ⊢
        replace hbx1 := BoxR.below hbx1 hb4
        clear x10 x11
        have x10 := hbx1.c0
        have x11 := hbx1.c1
        replace HR0 := Lib.hid (Kd.C_below HR0.out hb4)
        replace HR1 := Lib.hid (Kd.C_below HR1.out hb4)
        have hB4 : Below w.heap.size w w4 := hB3.trans (hb4.mono hB3.size)
        clear hb4
        have HC4 := Lib.hid hC4
        clear hC4
        by_cases hm : recMay ⟨a1, l1⟩
        · skip
          go_wp2_with (fail)
          have q := rput_calls ⟨a1, l1⟩ A1 c1 w4 HR1.out hc1 ho1
          rw [rPut_pos hm] at q
          refine q.mono ?_
          clear q
          rintro e w5 ⟨A5, c5, rfl, hc5, hC5, hb5⟩
          dsimp only at hc5 hC5 ⊢
          replace hbx1 := BoxR.below hbx1 hb5
          clear x10 x11
          have x10 := hbx1.c0
          have x11 := hbx1.c1
          replace HR0 := Lib.hid (Kd.C_below HR0.out hb5)
          replace HR1 := Lib.hid (Kd.C_below HR1.out hb5)
          replace HC4 := Lib.hid (Kd.C_below HC4.out hb5)
          have hB5 : Below w.heap.size w w5 := hB4.trans (hb5.mono hB4.size)
          clear hb5
          have HC5 := Lib.hid hC5
          clear hC5
          have hpo := rPut_ok (r := ⟨a1, l1⟩) ho1
          have hpl := rPut_len ⟨a1, l1⟩
          rw [rPut_pos hm] at hpo hpl
          dsimp only at hpo hpl
          by_cases hk0 : 0 ≤ a2
          · skip
            by_cases hk1 : a2 < ((recBytes ⟨a1, l1⟩).length : Int)
            · skip
              obtain ⟨kk, rfl⟩ := Int.eq_ofNat_of_zero_le hk0
              have hkk : kk < (recBytes ⟨a1, l1⟩).length := by omega
              have hsc := rScan_torn hj hm hkk
              have hgt := rGet_torn hm (joinR l0) hkk
              have hto : okB ((recBytes ⟨a1, l1⟩).take kk) := okB_take hpo _
              have htl : ((recBytes ⟨a1, l1⟩).take kk).length ≤ 1011 := by rw [List.length_take]; omega
              obtain ⟨t1, t2, t3⟩ := takeB A5 c5 (recBytes ⟨a1, l1⟩) (kk : Int) (by omega) (by omega) hc5
              rw [Int.toNat_natCast] at t1 t2 t3
              generalize joinR l0 = jl at *
              generalize (recBytes ⟨a1, l1⟩).take kk = yt at *
              generalize recBytes ⟨a1, l1⟩ = y at *
              obtain ⟨X, hX⟩ : ∃ X, jl ++ yt = X := ⟨_, rfl⟩
              have hXl : X.length ≤ 10000 := by rw [← hX, List.length_append]; omega
              have hXo : okB X := by rw [← hX]; exact okB_append hjo hto
              rw [hX] at hsc hgt
              have HSC := Lib.hid hsc
              have HGT := Lib.hid hgt
              have HT2 := Lib.hid t2
              have HX := Lib.hid hX
              clear hsc hgt hm hj t2 hX
              have hk1' : ¬ (y.length : Int) ≤ (kk : Int) := by omega
              go_wp2_with (fail)
              have D0 := Lib.hid (show Below w5.heap.size w5 w5.drew from (Below.refl _ w5).drew)
              go_region_held3 (fun W => Below w5.heap.size w5 W) (first | exact D0.out | exact D1 | exact D2)
                ((first | (have zz := D1; refine Kd.R_append_rows_step (Kd.int .u8) (Rr := fun x cs => cs = [.int .u8 x]) (w0 := w5) w5.heap.size (by rfl) _ _ 22 5 (.int .u8 0) 1 (by rfl) Try.underlying22 infoU8 rfl (by decide) (by decide) v1 jl yt A5 yt.length c5 (fun _ => True) (fun _ => False) (by rfl) (by rfl) hr1' (HT2.out _ (Kd.C_below HC5.out D1)) (fun _ _ h => h) (fun _ h => h.elim) (fun _ _ => trivial) D1 D1.size (by first | omega | (simp; done) | (simp; omega)) ?_; intro v2 u2 hr2' D2 hG2 _; rw [HX.out] at hr2'; obtain ⟨A6, c6, rfl, hc6, hC6⟩ := Kd.R_reads hr2') | (refine Kd.R_append_rows_step (Kd.int .u8) (Rr := fun x cs => cs = [.int .u8 x]) (w0 := w5) w5.heap.size (by rfl) _ _ 22 5 (.int .u8 0) 1 (by rfl) Try.underlying22 infoU8 rfl (by decide) (by decide) (.slice none 0 0) ([] : List Int) jl A4 jl.length c4 (fun _ => True) (fun _ => False) (by rfl) (by rfl) (Kd.R_nil _ _ _ _ _) (Kd.C_drew HC4.out) (fun _ _ h => h) (fun _ h => h.elim) (fun _ _ => trivial) D0.out D0.out.size (by first | omega | (simp; done) | (simp; omega)) ?_; intro v1 u1 hr1' D1 hG1 _; replace hr1' : Kd.R (Kd.int .u8) 5 u1 w5.heap.size (fun _ => True) v1 jl := (by simpa using hr1'))))
              all_goals
                have hb6 := D2
                clear D2
                generalize u2 = w6 at *
                replace hbx1 := BoxR.below hbx1 hb6
                clear x10 x11
                have x10 := hbx1.c0
                have x11 := hbx1.c1
                replace HR0 := Lib.hid (Kd.C_below HR0.out hb6)
                replace HR1 := Lib.hid (Kd.C_below HR1.out hb6)
                replace HC4 := Lib.hid (Kd.C_below HC4.out hb6)
                replace HC5 := Lib.hid (Kd.C_below HC5.out hb6)
                have hB6 : Below w.heap.size w w6 := hB5.trans (hb6.mono hB5.size)
                clear hb6
                have HC6 := Lib.hid hC6
                clear hC6
                go_wp2_with (fail)
                have q := recScan_calls A6 c6 X w6 HC6.out hc6 hXo (by omega)
                unfold ScanEnd at q
                rw [HSC.out] at q
                refine q.mono ?_
                clear q
                rintro e w7 ⟨A7, c7, rfl, hc7, hC7, hb7⟩
                dsimp only at hc7 hC7 ⊢
                replace hbx1 := BoxR.below hbx1 hb7
                clear x10 x11
                have x10 := hbx1.c0
                have x11 := hbx1.c1
                replace HR0 := Lib.hid (Kd.C_below HR0.out hb7)
                replace HR1 := Lib.hid (Kd.C_below HR1.out hb7)
                replace HC4 := Lib.hid (Kd.C_below HC4.out hb7)
                replace HC5 := Lib.hid (Kd.C_below HC5.out hb7)
                replace HC6 := Lib.hid (Kd.C_below HC6.out hb7)
                have hB7 : Below w.heap.size w w7 := hB6.trans (hb7.mono hB6.size)
                clear hb7
                have HC7 := Lib.hid hC7
                clear hC7
                go_wp2_with (fail)
                have q := recGet_calls A6 c6 X (jl.length : Int) w7 HC6.out hc6 hXo (by omega)
                rw [HGT.out] at q
                refine q.mono ?_
                clear q
                rintro e w8 ⟨A8, c8, rfl, hc8, hC8, hb8, -⟩
                dsimp only at hc8 hC8 ⊢
                replace hbx1 := BoxR.below hbx1 hb8
                clear x10 x11
                have x10 := hbx1.c0
                have x11 := hbx1.c1
                replace HR0 := Lib.hid (Kd.C_below HR0.out hb8)
                replace HR1 := Lib.hid (Kd.C_below HR1.out hb8)
                replace HC4 := Lib.hid (Kd.C_below HC4.out hb8)
                replace HC5 := Lib.hid (Kd.C_below HC5.out hb8)
                replace HC6 := Lib.hid (Kd.C_below HC6.out hb8)
                replace HC7 := Lib.hid (Kd.C_below HC7.out hb8)
                have hB8 : Below w.heap.size w w8 := hB7.trans (hb8.mono hB7.size)
                clear hb8
                have HC8 := Lib.hid hC8
                clear hC8
                go_wp2_with (fail)
                have hb9 : Below w8.heap.size w8 (w8.alloc (.cells #[.int .i64 0, .slice A8 0 c8] 24)) := below_alloc (Below.refl _ _) _
                generalize hwz : w8.alloc (.cells #[.int .i64 0, .slice A8 0 c8] 24) = w9 at *
                clear hwz
                replace hbx1 := BoxR.below hbx1 hb9
                clear x10 x11
                have x10 := hbx1.c0
                have x11 := hbx1.c1
                replace HR0 := Lib.hid (Kd.C_below HR0.out hb9)
                replace HR1 := Lib.hid (Kd.C_below HR1.out hb9)
                replace HC4 := Lib.hid (Kd.C_below HC4.out hb9)
                replace HC5 := Lib.hid (Kd.C_below HC5.out hb9)
                replace HC6 := Lib.hid (Kd.C_below HC6.out hb9)
                replace HC7 := Lib.hid (Kd.C_below HC7.out hb9)
                replace HC8 := Lib.hid (Kd.C_below HC8.out hb9)
                have hB9 : Below w.heap.size w w9 := hB8.trans (hb9.mono hB8.size)
                clear hb9
                have q := lists_calls l0 l0 true (decide_eq_true rfl) A7 c7 A0 c0 w9 HC7.out hc7 HR0.out hc0 ho0 ho0 (by omega)
                refine q.mono ?_
                clear q
                rintro e w10 ⟨rfl, hb10⟩
                replace hbx1 := BoxR.below hbx1 hb10
                clear x10 x11
                have x10 := hbx1.c0
                have x11 := hbx1.c1
                replace HR0 := Lib.hid (Kd.C_below HR0.out hb10)
                replace HR1 := Lib.hid (Kd.C_below HR1.out hb10)
                replace HC4 := Lib.hid (Kd.C_below HC4.out hb10)
                replace HC5 := Lib.hid (Kd.C_below HC5.out hb10)
                replace HC6 := Lib.hid (Kd.C_below HC6.out hb10)
                replace HC7 := Lib.hid (Kd.C_below HC7.out hb10)
                replace HC8 := Lib.hid (Kd.C_below HC8.out hb10)
                have hB10 : Below w.heap.size w w10 := hB9.trans (hb10.mono hB9.size)
                clear hb10
                go_wp2_with (fail)
                go_ret
                exact ⟨rfl, hB10⟩
            · skip
              have hk1' : ((recBytes ⟨a1, l1⟩).length : Int) ≤ a2 := by omega
              generalize recBytes ⟨a1, l1⟩ = y at *
              clear hm hj
              go_wp2_with (fail)
              go_ret
              exact ⟨rfl, hB5⟩
          · skip
            have hk0' : a2 < 0 := by omega
            clear hm hj
            go_wp2_with (fail)
            go_ret
            exact ⟨rfl, hB5⟩
        · skip
          go_wp2_with (fail)
          have q := rput_calls ⟨a1, l1⟩ A1 c1 w4 HR1.out hc1 ho1
          rw [rPut_neg hm] at q
          refine q.mono ?_
          clear q
          rintro e w5 ⟨A5, c5, rfl, hc5, hC5, hb5⟩
          dsimp only at hc5 hC5 ⊢
          replace hbx1 := BoxR.below hbx1 hb5
          clear x10 x11
          have x10 := hbx1.c0
          have x11 := hbx1.c1
          replace HR0 := Lib.hid (Kd.C_below HR0.out hb5)
          replace HR1 := Lib.hid (Kd.C_below HR1.out hb5)
          replace HC4 := Lib.hid (Kd.C_below HC4.out hb5)
          have hB5 : Below w.heap.size w w5 := hB4.trans (hb5.mono hB4.size)
          clear hb5
          have HC5 := Lib.hid hC5
          clear hC5
          clear hm hj
          go_wp2_with (fail)
          go_ret
          exact ⟨rfl, hB5⟩
      · skip
        go_wp2_with (fail)
        have q := joined_calls A0 c0 l0 w3 HR0.out hc0 ho0 (by omega)
        rw [joinedR_neg hj] at q
        refine q.mono ?_
        clear q
        rintro e w4 ⟨A4, c4, rfl, hc4, hC4, hb4⟩
        dsimp only at hc4 hC4 ⊢
        replace hbx1 := BoxR.below hbx1 hb4
        clear x10 x11
        have x10 := hbx1.c0
        have x11 := hbx1.c1
        replace HR0 := Lib.hid (Kd.C_below HR0.out hb4)
        replace HR1 := Lib.hid (Kd.C_below HR1.out hb4)
        have hB4 : Below w.heap.size w w4 := hB3.trans (hb4.mono hB3.size)
        clear hb4
        have HC4 := Lib.hid hC4
        clear hC4
        go_wp2_with (fail)
        have q := rput_calls ⟨a1, l1⟩ A1 c1 w4 HR1.out hc1 ho1
        refine q.mono ?_
        clear q
        rintro e w5 ⟨A5, c5, rfl, hc5, hC5, hb5⟩
        dsimp only at hc5 hC5 ⊢
        replace hbx1 := BoxR.below hbx1 hb5
        clear x10 x11
        have x10 := hbx1.c0
        have x11 := hbx1.c1
        replace HR0 := Lib.hid (Kd.C_below HR0.out hb5)
        replace HR1 := Lib.hid (Kd.C_below HR1.out hb5)
        replace HC4 := Lib.hid (Kd.C_below HC4.out hb5)
        have hB5 : Below w.heap.size w w5 := hB4.trans (hb5.mono hB4.size)
        clear hb5
        have HC5 := Lib.hid hC5
        clear hC5
        generalize rPut ⟨a1, l1⟩ = p1 at *
        clear hj
        go_wp2_with (fail)
        go_ret
        exact ⟨rfl, hB5⟩
    · skip
      obtain rfl : bs1 = false := by rw [← HBS1.out]; exact decide_eq_false q1
      go_wp2_with (fail)
      go_ret
      exact ⟨rfl, hB3⟩
  · skip
    obtain rfl : b5 = false := by rw [← HB5.out]; simpa using q5
    clear q5
    go_wp2_with (fail)
    go_ret
    exact ⟨rfl, hB3⟩

end Go.Proofs.Ytnicndnbloohhaa.H
