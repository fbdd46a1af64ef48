import Derived.Test.YtodjlacbjcbafaaEvO
import Derived.Test.YtodjlacbjcbafaaRowS
import Derived.Deep.RegionHeld3
import Derived.Deep.RegionHeldLaw
import Derived.Deep.QuietTactic
import Derived.BigQuiet
import Derived.OpenShut
import Derived.Test.YtodjlacbjcbafaaEvLStays
/-! The law EventBack, walked. -/
namespace Go.Proofs.Ytodjlacbjcbafaa.H
open Go.RowKit Moor Go.Proofs.YtodjlacbjcbafaaW.PrintWords Go.Proofs.YtodjlacbjcbafaaW.PrintLast Go.Proofs.YtodjlacbjcbafaaW.PrintMore
set_option linter.unusedVariables false
set_option linter.unusedSimpArgs false

theorem esame_quiet (l k : List Ev) (b : Bool) (hb : decide (l = k) = b) (A : Option Addr) (c : Nat) (A' : Option Addr) (c' : Nat) (w : World) (n : Nat) (hR : Kd.C kE w A (l.map toE).length (l.map toE)) (hc : l.length ≤ c) (hR' : Kd.C kE w A' (k.map toE).length (k.map toE)) (hc' : k.length ≤ c') (hl : l.length ≤ 2199023255552) :
    Calls Try.prog 18 #[.slice A l.length c, .slice A' k.length c'] (w.drewN n) fun e w'' => e = .returned (.bool b) ∧ ∃ m, w'' = w.drewN m := by
  have q := B.event_Same.calls (l.length + 1) A c (l.map toE) A' c' (k.map toE) b (w.drewN n) (Kd.C_drewN hR n) (by simpa using hc) (Kd.C_drewN hR' n) (by simpa using hc') (by rw [eSame_tells l k hl _ (Nat.le_refl _), hb])
  rw [List.length_map, List.length_map] at q
  exact Calls.quiet_of (q.mono fun e w' h => ⟨h.1, h.2.out⟩)
theorem readE_len (f : Int) (b : List Int) (ho : okB b) : (readE f b).1.length ≤ 400 := by
  rcases readE_cases f b ho with ⟨g1, g2⟩ | g
  · rcases putE_cases f (readE f b).1 with ⟨ns, h1, h2, h3, h4⟩ | h
    · have := stepsE_len _ _ _ h2
      omega
    · rw [h] at g2
      cases congrArg Prod.snd g2
  · rw [g]; simp

set_option maxRecDepth 100000 in
set_option maxHeartbeats 16000000 in
theorem eventBack_walk (a0 : Int) (A1 : Option Addr) (c1 : Nat) (l1 : List Ev) (A2 : Option Addr) (c2 : Nat) (l2 : List Ev) (A3 : Option Addr) (c3 : Nat) (l3 : List Int) (w : World) (hw0 : (Lit.int .i64 a0).wf = true) (hr1 : Kd.C kE w A1 (l1.map toE).length (l1.map toE)) (hc1 : l1.length ≤ c1) (hs1 : l1.length * 72 ≤ 140737488351232) (hr2 : Kd.C kE w A2 (l2.map toE).length (l2.map toE)) (hc2 : l2.length ≤ c2) (hs2 : l2.length * 72 ≤ 140737488351232) (hr3 : Kd.C (Kd.int .u8) w A3 l3.length l3) (hc3 : l3.length ≤ c3) (ho3 : okB l3) (hs3 : l3.length ≤ 140737488351232) :
    Calls Try.prog 4 #[.int .i64 a0, .slice A1 l1.length c1, .slice A2 l2.length c2, .slice A3 l3.length c3] w fun e w' => e = .returned (.bool true) ∧ Below w.heap.size w w' := by
  go_enter Try.func4, Try.ntmps4
  go_wp2_with (fail)
  refine (awake_true _).mono ?_
  rintro e w10 ⟨rfl, hb1⟩
  have hB10 : Below w.heap.size w w10 := hb1
  clear hb1
  have HR1 := Lib.hid (Kd.C_below hr1 hB10)
  clear hr1
  have HR2 := Lib.hid (Kd.C_below hr2 hB10)
  clear hr2
  have HR3 := Lib.hid (Kd.C_below hr3 hB10)
  clear hr3
  by_cases g1 : l1.length ≤ 100
  · skip
    have gi1 : ¬ (100 : Int) < (l1.length : Int) := by omega
    by_cases g2 : l2.length ≤ 100
    · skip
      have gi2 : ¬ (100 : Int) < (l2.length : Int) := by omega
      by_cases g3 : l3.length ≤ 600
      · skip
        have gi3 : ¬ (600 : Int) < (l3.length : Int) := by omega
        obtain ⟨P, hP⟩ : ∃ P, putE a0 l1 = P := ⟨_, rfl⟩
        have hPo := putE_ok a0 l1
        have HRD := Lib.hid (fun h => readE_put (f := a0) (l := l1) h)
        have HNO := Lib.hid (fun h => putE_no (f := a0) (l := l1) h)
        have HIN := Lib.hid (fun h1 h2 => putE_inj (f := a0) (l := l1) (k := l2) h1 h2)
        rw [hP] at hPo HRD HNO HIN
        have HP := Lib.hid hP
        clear hP
        obtain ⟨Q, hQ⟩ : ∃ P, putE a0 l2 = P := ⟨_, rfl⟩
        have hQo := putE_ok a0 l2
        rw [hQ] at hQo HIN
        have HQ := Lib.hid hQ
        clear hQ
        obtain ⟨X, hX⟩ : ∃ X, readE a0 P.1 = X := ⟨_, rfl⟩
        rw [hX] at HRD
        have HX := Lib.hid hX
        clear hX
        obtain ⟨Y, hY⟩ : ∃ X, readE a0 l3 = X := ⟨_, rfl⟩
        have HCS := Lib.hid (readE_cases a0 l3 ho3)
        have hYl := readE_len a0 l3 ho3
        rw [hY] at HCS hYl
        have HY := Lib.hid hY
        clear hY
        obtain ⟨R, hR⟩ : ∃ P, putE a0 Y.1 = P := ⟨_, rfl⟩
        have hRo := putE_ok a0 Y.1
        rw [hR] at HCS hRo
        have HR := Lib.hid hR
        clear hR
        obtain ⟨bb, hbb⟩ : ∃ b, decide (l1 = l2) = b := ⟨_, rfl⟩
        have HBB := Lib.hid hbb
        clear hbb
        go_wp2_with (fail)
        have q := eput_calls a0 l1 A1 c1 w10 HR1.out hc1 (by omega)
        rw [HP.out] at q
        refine q.mono ?_
        clear q
        rintro e w11 ⟨A11, c11, rfl, hc11, hC11, hb11⟩
        dsimp only at hc11 hC11 ⊢
        replace HR1 := Lib.hid (Kd.C_below HR1.out hb11)
        replace HR2 := Lib.hid (Kd.C_below HR2.out hb11)
        replace HR3 := Lib.hid (Kd.C_below HR3.out hb11)
        have hB11 : Below w.heap.size w w11 := hB10.trans (hb11.mono hB10.size)
        clear hb11
        have HC11 := Lib.hid hC11
        clear hC11
        go_wp2_with (fail)
        have q := eput_calls a0 l2 A2 c2 w11 HR2.out hc2 (by omega)
        rw [HQ.out] at q
        refine q.mono ?_
        clear q
        rintro e w12 ⟨A12, c12, rfl, hc12, hC12, hb12⟩
        dsimp only at hc12 hC12 ⊢
        replace HR1 := Lib.hid (Kd.C_below HR1.out hb12)
        replace HR2 := Lib.hid (Kd.C_below HR2.out hb12)
        replace HR3 := Lib.hid (Kd.C_below HR3.out hb12)
        replace HC11 := Lib.hid (Kd.C_below HC11.out hb12)
        have hB12 : Below w.heap.size w w12 := hB11.trans (hb12.mono hB11.size)
        clear hb12
        have HC12 := Lib.hid hC12
        clear hC12
        go_wp2_with (fail)
        have q := egot_calls a0 A11 c11 P.1 w12 HC11.out hc11 hPo.1 (by have := hPo.2; omega)
        rw [HX.out] at q
        refine q.mono ?_
        clear q
        rintro e w13 ⟨A13, c13, rfl, hc13, hC13, hb13⟩
        dsimp only at hc13 hC13 ⊢
        replace HR1 := Lib.hid (Kd.C_below HR1.out hb13)
        replace HR2 := Lib.hid (Kd.C_below HR2.out hb13)
        replace HR3 := Lib.hid (Kd.C_below HR3.out hb13)
        replace HC11 := Lib.hid (Kd.C_below HC11.out hb13)
        replace HC12 := Lib.hid (Kd.C_below HC12.out hb13)
        have hB13 : Below w.heap.size w w13 := hB12.trans (hb13.mono hB12.size)
        clear hb13
        have HC13 := Lib.hid hC13
        clear hC13
        go_wp2_with (fail)
        have q := egot_calls a0 A3 c3 l3 w13 HR3.out hc3 ho3 (by omega)
        rw [HY.out] at q
        refine q.mono ?_
        clear q
        rintro e w14 ⟨A14, c14, rfl, hc14, hC14, hb14⟩
        dsimp only at hc14 hC14 ⊢
        replace HR1 := Lib.hid (Kd.C_below HR1.out hb14)
        replace HR2 := Lib.hid (Kd.C_below HR2.out hb14)
        replace HR3 := Lib.hid (Kd.C_below HR3.out hb14)
        replace HC11 := Lib.hid (Kd.C_below HC11.out hb14)
        replace HC12 := Lib.hid (Kd.C_below HC12.out hb14)
        replace HC13 := Lib.hid (Kd.C_below HC13.out hb14)
        have hB14 : Below w.heap.size w w14 := hB13.trans (hb14.mono hB13.size)
        clear hb14
        have HC14 := Lib.hid hC14
        clear hC14
        go_wp2_with (fail)
        have q := eput_calls a0 Y.1 A14 c14 w14 HC14.out hc14 (by omega)
        rw [HR.out] at q
        refine q.mono ?_
        clear q
        rintro e w15 ⟨A15, c15, rfl, hc15, hC15, hb15⟩
        dsimp only at hc15 hC15 ⊢
        replace HR1 := Lib.hid (Kd.C_below HR1.out hb15)
        replace HR2 := Lib.hid (Kd.C_below HR2.out hb15)
        replace HR3 := Lib.hid (Kd.C_below HR3.out hb15)
        replace HC11 := Lib.hid (Kd.C_below HC11.out hb15)
        replace HC12 := Lib.hid (Kd.C_below HC12.out hb15)
        replace HC13 := Lib.hid (Kd.C_below HC13.out hb15)
        replace HC14 := Lib.hid (Kd.C_below HC14.out hb15)
        have hB15 : Below w.heap.size w w15 := hB14.trans (hb15.mono hB14.size)
        clear hb15
        have HC15 := Lib.hid hC15
        clear hC15
        clear HP HQ HX HY HR
        obtain ⟨P, is_⟩ := P
        obtain ⟨Q, also⟩ := Q
        obtain ⟨Y, has⟩ := Y
        obtain ⟨R, fits⟩ := R
        dsimp only at *
        obtain ⟨hPo, -⟩ := hPo
        obtain ⟨hQo, -⟩ := hQo
        obtain ⟨hRo, -⟩ := hRo
        cases is_ with
        | true =>
            obtain rfl : X = (l1, true) := HRD.out rfl
            clear HRD HNO
            dsimp only at *
            cases also with
            | true =>
                have hse : ((strOfNums P).toList == (strOfNums Q).toList) = bb := by
                  rw [str_eq hPo hQo, ← HBB.out]
                  exact decide_eq_decide.2 (HIN.out rfl rfl)
                have HSE := Lib.hid hse
                clear hse HIN
                have HCSo := HCS.out
                clear HCS
                rcases HCSo with ⟨g1, g2⟩ | g
                · skip
                  have g3 : R = l3 := congrArg Prod.fst g2
                  have g4 : fits = true := congrArg Prod.snd g2
                  subst g1
                  subst g4
                  subst g3
                  have hse := HSE.out
                  clear HSE
                  have hcp := fun m => Kd.C_string (P := Try.prog) (c := c11) Try.underlying23 Try.underlying5 Try.underlying9 (Kd.C_drewN HC11.out m)
                  have hcq := fun m => Kd.C_string (P := Try.prog) (c := c12) Try.underlying23 Try.underlying5 Try.underlying9 (Kd.C_drewN HC12.out m)
                  have hcr := fun m => Kd.C_string (P := Try.prog) (c := c15) Try.underlying23 Try.underlying5 Try.underlying9 (Kd.C_drewN HC15.out m)
                  have hc3' := fun m => Kd.C_string (P := Try.prog) (c := c3) Try.underlying23 Try.underlying5 Try.underlying9 (Kd.C_drewN HR3.out m)
                  go_wp2_with (fail)
                  go_quiet ((first | (go_at_call 18; with_reducible exact esame_quiet l1 l1 true (decide_eq_true rfl) A13 c13 A1 c1 _ _ HC13.out hc13 HR1.out hc1 (by omega)) | (go_at_call 18; with_reducible exact esame_quiet l1 l2 bb HBB.out A1 c1 A2 c2 _ _ HR1.out hc1 HR2.out hc2 (by omega))))
                  all_goals
                    go_wp2_with (fail)
                    go_ret
                    exact ⟨by simp, pw_below_drewN hB15 _⟩
                · skip
                  obtain ⟨g1, g2⟩ : Y = [] ∧ has = false := ⟨congrArg Prod.fst g, congrArg Prod.snd g⟩
                  subst g1
                  subst g2
                  clear g
                  have hse := HSE.out
                  clear HSE
                  have hcp := fun m => Kd.C_string (P := Try.prog) (c := c11) Try.underlying23 Try.underlying5 Try.underlying9 (Kd.C_drewN HC11.out m)
                  have hcq := fun m => Kd.C_string (P := Try.prog) (c := c12) Try.underlying23 Try.underlying5 Try.underlying9 (Kd.C_drewN HC12.out m)
                  go_wp2_with (fail)
                  go_quiet ((first | (go_at_call 18; with_reducible exact esame_quiet l1 l1 true (decide_eq_true rfl) A13 c13 A1 c1 _ _ HC13.out hc13 HR1.out hc1 (by omega)) | (go_at_call 18; with_reducible exact esame_quiet l1 l2 bb HBB.out A1 c1 A2 c2 _ _ HR1.out hc1 HR2.out hc2 (by omega))))
                  all_goals
                    go_wp2_with (fail)
                    go_ret
                    exact ⟨by simp, pw_below_drewN hB15 _⟩
            | false =>
                clear HIN
                have HCSo := HCS.out
                clear HCS
                rcases HCSo with ⟨g1, g2⟩ | g
                · skip
                  have g3 : R = l3 := congrArg Prod.fst g2
                  have g4 : fits = true := congrArg Prod.snd g2
                  subst g1
                  subst g4
                  subst g3
                  have hcr := fun m => Kd.C_string (P := Try.prog) (c := c15) Try.underlying23 Try.underlying5 Try.underlying9 (Kd.C_drewN HC15.out m)
                  have hc3' := fun m => Kd.C_string (P := Try.prog) (c := c3) Try.underlying23 Try.underlying5 Try.underlying9 (Kd.C_drewN HR3.out m)
                  go_wp2_with (fail)
                  go_quiet ((first | (go_at_call 18; with_reducible exact esame_quiet l1 l1 true (decide_eq_true rfl) A13 c13 A1 c1 _ _ HC13.out hc13 HR1.out hc1 (by omega))))
                  all_goals
                    go_wp2_with (fail)
                    go_ret
                    exact ⟨by simp, pw_below_drewN hB15 _⟩
                · skip
                  obtain ⟨g1, g2⟩ : Y = [] ∧ has = false := ⟨congrArg Prod.fst g, congrArg Prod.snd g⟩
                  subst g1
                  subst g2
                  clear g
                  go_wp2_with (fail)
                  go_quiet ((first | (go_at_call 18; with_reducible exact esame_quiet l1 l1 true (decide_eq_true rfl) A13 c13 A1 c1 _ _ HC13.out hc13 HR1.out hc1 (by omega))))
                  all_goals
                    go_wp2_with (fail)
                    go_ret
                    exact ⟨by simp, pw_below_drewN hB15 _⟩
        | false =>
            clear HRD HNO HIN
            have HCSo := HCS.out
            clear HCS
            rcases HCSo with ⟨g1, g2⟩ | g
            · skip
              have g3 : R = l3 := congrArg Prod.fst g2
              have g4 : fits = true := congrArg Prod.snd g2
              subst g1
              subst g4
              subst g3
              have hcr := fun m => Kd.C_string (P := Try.prog) (c := c15) Try.underlying23 Try.underlying5 Try.underlying9 (Kd.C_drewN HC15.out m)
              have hc3' := fun m => Kd.C_string (P := Try.prog) (c := c3) Try.underlying23 Try.underlying5 Try.underlying9 (Kd.C_drewN HR3.out m)
              go_wp2_with (fail)
              go_quiet (fail)
              all_goals
                go_wp2_with (fail)
                go_ret
                exact ⟨by simp, pw_below_drewN hB15 _⟩
            · skip
              obtain ⟨g1, g2⟩ : Y = [] ∧ has = false := ⟨congrArg Prod.fst g, congrArg Prod.snd g⟩
              subst g1
              subst g2
              clear g
              go_wp2_with (fail)
              go_quiet (fail)
              all_goals
                go_wp2_with (fail)
                go_ret
                exact ⟨by simp, pw_below_drewN hB15 _⟩
      · skip
        have gi3 : (600 : Int) < (l3.length : Int) := by omega
        go_wp2_with (fail)
        go_ret
        exact ⟨rfl, hB10⟩
    · skip
      have gi2 : (100 : Int) < (l2.length : Int) := by omega
      go_wp2_with (fail)
      go_ret
      exact ⟨rfl, hB10⟩
  · skip
    have gi1 : (100 : Int) < (l1.length : Int) := by omega
    go_wp2_with (fail)
    go_ret
    exact ⟨rfl, hB10⟩

end Go.Proofs.Ytodjlacbjcbafaa.H
