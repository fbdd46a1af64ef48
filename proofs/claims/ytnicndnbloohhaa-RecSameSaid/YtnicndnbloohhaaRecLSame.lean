import Derived.Test.YtnicndnbloohhaaRecAw
import Derived.Test.YtnicndnbloohhaaRecO
import Derived.Deep.RegionHeld3
import Derived.Deep.QuietTactic
import Derived.BigQuiet
import Derived.OpenShut
/-! The law RecSame, walked. -/
namespace Go.Proofs.Ytnicndnbloohhaa.H
open Go.RowKit Moor Go.Proofs.YtnicndnbloohhaaW.PrintWords Go.Proofs.YtnicndnbloohhaaW.PrintLast Go.Proofs.YtnicndnbloohhaaW.PrintMore
set_option linter.unusedVariables false
set_option linter.unusedSimpArgs false

set_option maxRecDepth 100000 in
set_option maxHeartbeats 8000000 in
theorem recSame_walk (a0 : Int) (A0 : Option Addr) (c0 : Nat) (l0 : List Int) (a1 : Int) (A1 : Option Addr) (c1 : Nat) (l1 : List Int) (w : World) (hr0 : Kd.C (Kd.int .u8) w A0 l0.length l0) (hc0 : l0.length ≤ c0) (ho0 : okB l0) (hr1 : Kd.C (Kd.int .u8) w A1 l1.length l1) (hc1 : l1.length ≤ c1) (ho1 : okB l1) :
    Calls Try.prog 9 #[.agg #[.int .i64 a0, .slice A0 l0.length c0], .agg #[.int .i64 a1, .slice A1 l1.length c1]] w fun e w' => e = .returned (.bool true) ∧ Below w.heap.size w w' := by
  go_enter Try.func9, Try.ntmps9
  go_wp2_with (fail)
  have hbx0 := BoxR.new w (.int .i64 a0) (.slice A0 l0.length c0)
  have hBa0 : Below w.heap.size w (w.alloc (.cells #[.int .i64 a0, .slice A0 l0.length c0] 24)) := below_alloc (Below.refl _ _) _
  have hbx1 := BoxR.new (w.alloc (.cells #[.int .i64 a0, .slice A0 l0.length c0] 24)) (.int .i64 a1) (.slice A1 l1.length c1)
  rw [World.size_alloc] at hbx1
  replace hbx0 := BoxR.below hbx0 (below_alloc (Below.refl _ _) (.cells #[.int .i64 a1, .slice A1 l1.length c1] 24))
  have hBa1 : Below w.heap.size w ((w.alloc (.cells #[.int .i64 a0, .slice A0 l0.length c0] 24)).alloc (.cells #[.int .i64 a1, .slice A1 l1.length c1] 24)) := below_alloc hBa0 _
  refine (awake_true _).mono ?_
  rintro e w1 ⟨rfl, hb1⟩
  have hB1 : Below w.heap.size w w1 := hBa1.trans (hb1.mono hBa1.size)
  replace hbx0 := BoxR.below hbx0 hb1
  have x00 := hbx0.c0
  have x01 := hbx0.c1
  replace hbx1 := BoxR.below hbx1 hb1
  have x10 := hbx1.c0
  have x11 := hbx1.c1
  clear hb1
  by_cases g0 : l0.length ≤ 1000
  · skip
    have gi0 : ¬ (1000 : Int) < (l0.length : Int) := by omega
    by_cases g1 : l1.length ≤ 1000
    · skip
      have gi1 : ¬ (1000 : Int) < (l1.length : Int) := by omega
      have HR0 := Lib.hid (Kd.C_below hr0 hB1)
      have HR1 := Lib.hid (Kd.C_below hr1 hB1)
      clear hr0 hr1
      obtain ⟨bb, hbb⟩ : ∃ b, decide ((⟨a0, l0⟩ : Rc) = ⟨a1, l1⟩) = b := ⟨_, rfl⟩
      have HBB := Lib.hid hbb
      clear hbb
      by_cases hm0 : recMay ⟨a0, l0⟩
      · skip
        go_wp2_with (fail)
        have q := rput_calls ⟨a0, l0⟩ A0 c0 w1 HR0.out hc0 ho0
        rw [rPut_pos hm0] at q
        refine q.mono ?_
        clear q
        rintro e w2 ⟨A2, c2, rfl, hc2, hC2, hb2⟩
        dsimp only at hc2 hC2 ⊢
        replace hbx0 := BoxR.below hbx0 hb2
        clear x00 x01
        have x00 := hbx0.c0
        have x01 := hbx0.c1
        replace hbx1 := BoxR.below hbx1 hb2
        clear x10 x11
        have x10 := hbx1.c0
        have x11 := hbx1.c1
        replace HR0 := Lib.hid (Kd.C_below HR0.out hb2)
        replace HR1 := Lib.hid (Kd.C_below HR1.out hb2)
        have hB2 : Below w.heap.size w w2 := hB1.trans (hb2.mono hB1.size)
        clear hb2
        have HC2 := Lib.hid hC2
        clear hC2
        by_cases hm1 : recMay ⟨a1, l1⟩
        · skip
          go_wp2_with (fail)
          have q := rput_calls ⟨a1, l1⟩ A1 c1 w2 HR1.out hc1 ho1
          rw [rPut_pos hm1] at q
          refine q.mono ?_
          clear q
          rintro e w3 ⟨A3, c3, rfl, hc3, hC3, hb3⟩
          dsimp only at hc3 hC3 ⊢
          replace hbx0 := BoxR.below hbx0 hb3
          clear x00 x01
          have x00 := hbx0.c0
          have x01 := hbx0.c1
          replace hbx1 := BoxR.below hbx1 hb3
          clear x10 x11
          have x10 := hbx1.c0
          have x11 := hbx1.c1
          replace HR0 := Lib.hid (Kd.C_below HR0.out hb3)
          replace HR1 := Lib.hid (Kd.C_below HR1.out hb3)
          replace HC2 := Lib.hid (Kd.C_below HC2.out hb3)
          have hB3 : Below w.heap.size w w3 := hB2.trans (hb3.mono hB2.size)
          clear hb3
          have HC3 := Lib.hid hC3
          clear hC3
          go_wp2_with (fail)
          have q := refSame_calls ⟨a0, l0⟩ ⟨a1, l1⟩ bb HBB.out A0 c0 A1 c1 w3 HR0.out hc0 ho0 HR1.out hc1 ho1
          refine q.mono ?_
          clear q
          rintro e w4 ⟨rfl, hb4⟩
          replace hbx0 := BoxR.below hbx0 hb4
          clear x00 x01
          have x00 := hbx0.c0
          have x01 := hbx0.c1
          replace hbx1 := BoxR.below hbx1 hb4
          clear x10 x11
          have x10 := hbx1.c0
          have x11 := hbx1.c1
          replace HR0 := Lib.hid (Kd.C_below HR0.out hb4)
          replace HR1 := Lib.hid (Kd.C_below HR1.out hb4)
          replace HC2 := Lib.hid (Kd.C_below HC2.out hb4)
          replace HC3 := Lib.hid (Kd.C_below HC3.out hb4)
          have hB4 : Below w.heap.size w w4 := hB3.trans (hb4.mono hB3.size)
          clear hb4
          have hp0 := rPut_ok (r := ⟨a0, l0⟩) ho0
          have hp1 := rPut_ok (r := ⟨a1, l1⟩) ho1
          rw [rPut_pos hm0] at hp0
          rw [rPut_pos hm1] at hp1
          have hse : ((strOfNums (recBytes ⟨a0, l0⟩)).toList == (strOfNums (recBytes ⟨a1, l1⟩)).toList) = bb := by
            rw [str_eq hp0 hp1, ← HBB.out]
            exact decide_eq_decide.2 ⟨fun h => recBytes_inj hm0 hm1 h, fun h => by rw [h]⟩
          generalize recBytes ⟨a0, l0⟩ = y0 at *
          generalize recBytes ⟨a1, l1⟩ = y1 at *
          clear hp0 hp1 hm0 hm1
          have HSS := Lib.hid (show ∀ W, Below w4.heap.size w4 W → Below w4.heap.size w4 W ∧ Sem.run Try.prog (convert 22 9 (Value.slice A2 y0.length c2)) W = Result.ok (Value.string (strOfNums y0)) W ∧ Sem.run Try.prog (convert 22 9 (Value.slice A3 y1.length c3)) W = Result.ok (Value.string (strOfNums y1)) W ∧ W.cell? ⟨w.heap.size, 0, none⟩ = some (.int .i64 a0) ∧ W.cell? ⟨w.heap.size, 1, none⟩ = some (.slice A0 l0.length c0) ∧ W.cell? ⟨w.heap.size + 1, 0, none⟩ = some (.int .i64 a1) ∧ W.cell? ⟨w.heap.size + 1, 1, none⟩ = some (.slice A1 l1.length c1) from fun W h => ⟨h, Kd.C_string (P := Try.prog) (c := c2) Try.underlying22 Try.underlying5 Try.underlying9 (Kd.C_below HC2.out h), Kd.C_string (P := Try.prog) (c := c3) Try.underlying22 Try.underlying5 Try.underlying9 (Kd.C_below HC3.out h), (BoxR.below hbx0 h).c0, (BoxR.below hbx0 h).c1, (BoxR.below hbx1 h).c0, (BoxR.below hbx1 h).c1⟩)
          have D0 := Lib.hid (show Below w4.heap.size w4 w4.drew from (Below.refl _ w4).drew)
          go_wp2_with (fail)
          go_region_held3 (fun W => Below w4.heap.size w4 W ∧ Sem.run Try.prog (convert 22 9 (Value.slice A2 y0.length c2)) W = Result.ok (Value.string (strOfNums y0)) W ∧ Sem.run Try.prog (convert 22 9 (Value.slice A3 y1.length c3)) W = Result.ok (Value.string (strOfNums y1)) W ∧ W.cell? ⟨w.heap.size, 0, none⟩ = some (.int .i64 a0) ∧ W.cell? ⟨w.heap.size, 1, none⟩ = some (.slice A0 l0.length c0) ∧ W.cell? ⟨w.heap.size + 1, 0, none⟩ = some (.int .i64 a1) ∧ W.cell? ⟨w.heap.size + 1, 1, none⟩ = some (.slice A1 l1.length c1))
            (first | (with_reducible exact HSS.out _ D0.out) | (with_reducible exact HSS.out _ D1.out) | (with_reducible exact HSS.out _ D2.out))
            (first
            | (go_at_call 20; have Z1 := D1; refine (rsame_calls ⟨a0, l0⟩ ⟨a1, l1⟩ bb HBB.out A0 c0 A1 c1 _ (Kd.C_below HR0.out D1.out) hc0 ho0 (Kd.C_below HR1.out D1.out) hc1 ho1).mono ?_; rintro e v2 ⟨rfl, hq2⟩; have D2 := Lib.hid (below_onR hq2 D1.out))
            | (go_at_call 20; refine (rsame_calls ⟨a0, l0⟩ ⟨a1, l1⟩ bb HBB.out A0 c0 A1 c1 _ (Kd.C_below HR0.out D0.out) hc0 ho0 (Kd.C_below HR1.out D0.out) hc1 ho1).mono ?_; rintro e v1 ⟨rfl, hq1⟩; have D1 := Lib.hid (below_onR hq1 D0.out)))
          all_goals
            go_wp2_with (fail)
            go_ret
            exact ⟨by simp [hse], hB4.trans (D2.out.mono hB4.size)⟩
        · skip
          go_wp2_with (fail)
          have q := rput_calls ⟨a1, l1⟩ A1 c1 w2 HR1.out hc1 ho1
          rw [rPut_neg hm1] at q
          refine q.mono ?_
          clear q
          rintro e w3 ⟨A3, c3, rfl, hc3, hC3, hb3⟩
          dsimp only at hc3 hC3 ⊢
          replace hbx0 := BoxR.below hbx0 hb3
          clear x00 x01
          have x00 := hbx0.c0
          have x01 := hbx0.c1
          replace hbx1 := BoxR.below hbx1 hb3
          clear x10 x11
          have x10 := hbx1.c0
          have x11 := hbx1.c1
          replace HR0 := Lib.hid (Kd.C_below HR0.out hb3)
          replace HR1 := Lib.hid (Kd.C_below HR1.out hb3)
          replace HC2 := Lib.hid (Kd.C_below HC2.out hb3)
          have hB3 : Below w.heap.size w w3 := hB2.trans (hb3.mono hB2.size)
          clear hb3
          have HC3 := Lib.hid hC3
          clear hC3
          go_wp2_with (fail)
          have q := refSame_calls ⟨a0, l0⟩ ⟨a1, l1⟩ bb HBB.out A0 c0 A1 c1 w3 HR0.out hc0 ho0 HR1.out hc1 ho1
          refine q.mono ?_
          clear q
          rintro e w4 ⟨rfl, hb4⟩
          replace hbx0 := BoxR.below hbx0 hb4
          clear x00 x01
          have x00 := hbx0.c0
          have x01 := hbx0.c1
          replace hbx1 := BoxR.below hbx1 hb4
          clear x10 x11
          have x10 := hbx1.c0
          have x11 := hbx1.c1
          replace HR0 := Lib.hid (Kd.C_below HR0.out hb4)
          replace HR1 := Lib.hid (Kd.C_below HR1.out hb4)
          replace HC2 := Lib.hid (Kd.C_below HC2.out hb4)
          replace HC3 := Lib.hid (Kd.C_below HC3.out hb4)
          have hB4 : Below w.heap.size w w4 := hB3.trans (hb4.mono hB3.size)
          clear hb4
          clear hm0 hm1
          go_wp2_with (fail)
          go_quiet (fail)
          all_goals
            go_wp2_with (fail)
            go_ret
            exact ⟨rfl, pw_below_drewN hB4 _⟩
      · skip
        go_wp2_with (fail)
        have q := rput_calls ⟨a0, l0⟩ A0 c0 w1 HR0.out hc0 ho0
        rw [rPut_neg hm0] at q
        refine q.mono ?_
        clear q
        rintro e w2 ⟨A2, c2, rfl, hc2, hC2, hb2⟩
        dsimp only at hc2 hC2 ⊢
        replace hbx0 := BoxR.below hbx0 hb2
        clear x00 x01
        have x00 := hbx0.c0
        have x01 := hbx0.c1
        replace hbx1 := BoxR.below hbx1 hb2
        clear x10 x11
        have x10 := hbx1.c0
        have x11 := hbx1.c1
        replace HR0 := Lib.hid (Kd.C_below HR0.out hb2)
        replace HR1 := Lib.hid (Kd.C_below HR1.out hb2)
        have hB2 : Below w.heap.size w w2 := hB1.trans (hb2.mono hB1.size)
        clear hb2
        have HC2 := Lib.hid hC2
        clear hC2
        go_wp2_with (fail)
        have q := rput_calls ⟨a1, l1⟩ A1 c1 w2 HR1.out hc1 ho1
        refine q.mono ?_
        clear q
        rintro e w3 ⟨A3, c3, rfl, hc3, hC3, hb3⟩
        dsimp only at hc3 hC3 ⊢
        replace hbx0 := BoxR.below hbx0 hb3
        clear x00 x01
        have x00 := hbx0.c0
        have x01 := hbx0.c1
        replace hbx1 := BoxR.below hbx1 hb3
        clear x10 x11
        have x10 := hbx1.c0
        have x11 := hbx1.c1
        replace HR0 := Lib.hid (Kd.C_below HR0.out hb3)
        replace HR1 := Lib.hid (Kd.C_below HR1.out hb3)
        replace HC2 := Lib.hid (Kd.C_below HC2.out hb3)
        have hB3 : Below w.heap.size w w3 := hB2.trans (hb3.mono hB2.size)
        clear hb3
        have HC3 := Lib.hid hC3
        clear hC3
        have hl1' := rPut_len ⟨a1, l1⟩
        generalize rPut ⟨a1, l1⟩ = p1 at *
        clear hl1'
        go_wp2_with (fail)
        have q := refSame_calls ⟨a0, l0⟩ ⟨a1, l1⟩ bb HBB.out A0 c0 A1 c1 w3 HR0.out hc0 ho0 HR1.out hc1 ho1
        refine q.mono ?_
        clear q
        rintro e w4 ⟨rfl, hb4⟩
        replace hbx0 := BoxR.below hbx0 hb4
        clear x00 x01
        have x00 := hbx0.c0
        have x01 := hbx0.c1
        replace hbx1 := BoxR.below hbx1 hb4
        clear x10 x11
        have x10 := hbx1.c0
        have x11 := hbx1.c1
        replace HR0 := Lib.hid (Kd.C_below HR0.out hb4)
        replace HR1 := Lib.hid (Kd.C_below HR1.out hb4)
        replace HC2 := Lib.hid (Kd.C_below HC2.out hb4)
        replace HC3 := Lib.hid (Kd.C_below HC3.out hb4)
        have hB4 : Below w.heap.size w w4 := hB3.trans (hb4.mono hB3.size)
        clear hb4
        clear hm0
        go_wp2_with (fail)
        go_quiet (fail)
        all_goals
          go_wp2_with (fail)
          go_ret
          exact ⟨rfl, pw_below_drewN hB4 _⟩
    · skip
      have gi1 : (1000 : Int) < (l1.length : Int) := by omega
      go_wp2_with (fail)
      go_ret
      exact ⟨rfl, hB1⟩
  · skip
    have gi0 : (1000 : Int) < (l0.length : Int) := by omega
    go_wp2_with (fail)
    go_ret
    exact ⟨rfl, hB1⟩

end Go.Proofs.Ytnicndnbloohhaa.H
