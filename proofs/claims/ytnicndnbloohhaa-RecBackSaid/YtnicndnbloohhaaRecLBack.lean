import Derived.Test.YtnicndnbloohhaaRecAw
import Derived.Test.YtnicndnbloohhaaRecO
import Derived.Deep.RegionHeld3
import Derived.Deep.QuietTactic
import Derived.BigQuiet
import Derived.OpenShut
/-! The law RecBack, walked. -/
namespace Go.Proofs.Ytnicndnbloohhaa.H
open Go.RowKit Moor Go.Proofs.YtnicndnbloohhaaW.PrintWords Go.Proofs.YtnicndnbloohhaaW.PrintLast Go.Proofs.YtnicndnbloohhaaW.PrintMore
set_option linter.unusedVariables false
set_option linter.unusedSimpArgs false

set_option maxRecDepth 100000 in
set_option maxHeartbeats 16000000 in
theorem recBack_walk (a0 : Int) (A0 : Option Addr) (c0 : Nat) (l0 : List Int) (A1 : Option Addr) (c1 : Nat) (l1 : List Int) (A2 : Option Addr) (c2 : Nat) (l2 : List Int) (a3 : Int) (w : World) (hr0 : Kd.C (Kd.int .u8) w A0 l0.length l0) (hc0 : l0.length ≤ c0) (ho0 : okB l0) (hr1 : Kd.C (Kd.int .u8) w A1 l1.length l1) (hc1 : l1.length ≤ c1) (ho1 : okB l1) (hs1 : l1.length ≤ 140737488351232) (hr2 : Kd.C (Kd.int .u8) w A2 l2.length l2) (hc2 : l2.length ≤ c2) (ho2 : okB l2) (hs2 : l2.length ≤ 140737488351232) (hw3 : (Lit.int .i64 a3).wf = true) :
    Calls Try.prog 4 #[.agg #[.int .i64 a0, .slice A0 l0.length c0], .slice A1 l1.length c1, .slice A2 l2.length c2, .int .i64 a3] w fun e w' => e = .returned (.bool true) ∧ Below w.heap.size w w' := by
  go_enter Try.func4, Try.ntmps4
  go_wp2_with (fail)
  have hbx0 := BoxR.new w (.int .i64 a0) (.slice A0 l0.length c0)
  have hBa0 : Below w.heap.size w (w.alloc (.cells #[.int .i64 a0, .slice A0 l0.length c0] 24)) := below_alloc (Below.refl _ _) _
  refine (awake_true _).mono ?_
  rintro e w1 ⟨rfl, hb1⟩
  have hB1 : Below w.heap.size w w1 := hBa0.trans (hb1.mono hBa0.size)
  replace hbx0 := BoxR.below hbx0 hb1
  have x00 := hbx0.c0
  have x01 := hbx0.c1
  clear hb1
  have HR0 := Lib.hid (Kd.C_below hr0 hB1)
  have HR1 := Lib.hid (Kd.C_below hr1 hB1)
  have HR2 := Lib.hid (Kd.C_below hr2 hB1)
  clear hr0 hr1 hr2
  have hLA : Below w1.heap.size w1 (w1.alloc (.cells #[.int .i64 a0, .slice A0 l0.length c0] 24)) := below_alloc (Below.refl _ _) _
  obtain ⟨bs0, hbs0⟩ : ∃ b, decide (l0.length ≤ 1100) = b := ⟨_, rfl⟩
  have HBS0 := Lib.hid hbs0
  clear hbs0
  go_wp2_with (fail)
  have q := few_calls [⟨a0, l0⟩] 1 bs0 ((fewR_one _).trans HBS0.out) (some ⟨w1.heap.size, 0, none⟩) 1 _ (lit_rec (t := 24) HR0.out hc0) (Nat.le_refl _) (by simp)
  refine q.mono ?_
  clear q
  rintro e w2 ⟨rfl, hb2⟩
  replace hb2 := below_onR hb2 hLA
  clear hLA
  replace hbx0 := BoxR.below hbx0 hb2
  clear x00 x01
  have x00 := hbx0.c0
  have x01 := hbx0.c1
  replace HR0 := Lib.hid (Kd.C_below HR0.out hb2)
  replace HR1 := Lib.hid (Kd.C_below HR1.out hb2)
  replace HR2 := Lib.hid (Kd.C_below HR2.out hb2)
  have hB2 : Below w.heap.size w w2 := hB1.trans (hb2.mono hB1.size)
  clear hb2
  by_cases g0 : l0.length ≤ 1100
  · skip
    obtain rfl : bs0 = true := by rw [← HBS0.out]; exact decide_eq_true g0
    by_cases g1 : l1.length ≤ 1100
    · skip
      have gi1 : ¬ (1100 : Int) < (l1.length : Int) := by omega
      by_cases g2 : l2.length ≤ 3000
      · skip
        have gi2 : ¬ (3000 : Int) < (l2.length : Int) := by omega
        by_cases hm : recMay ⟨a0, l0⟩
        · skip
          go_wp2_with (fail)
          have q := rput_calls ⟨a0, l0⟩ A0 c0 w2 HR0.out hc0 ho0
          rw [rPut_pos hm] at q
          refine q.mono ?_
          clear q
          rintro e w3 ⟨A3, c3, rfl, hc3, hC3, hb3⟩
          dsimp only at hc3 hC3 ⊢
          replace hbx0 := BoxR.below hbx0 hb3
          clear x00 x01
          have x00 := hbx0.c0
          have x01 := hbx0.c1
          replace HR0 := Lib.hid (Kd.C_below HR0.out hb3)
          replace HR1 := Lib.hid (Kd.C_below HR1.out hb3)
          replace HR2 := Lib.hid (Kd.C_below HR2.out hb3)
          have hB3 : Below w.heap.size w w3 := hB2.trans (hb3.mono hB2.size)
          clear hb3
          have HC3 := Lib.hid hC3
          clear hC3
          have hpo := rPut_ok (r := ⟨a0, l0⟩) ho0
          rw [rPut_pos hm] at hpo
          have hgt := rGet_put hm l1 l2
          have hyl := rPut_len ⟨a0, l0⟩
          rw [rPut_pos hm] at hyl
          dsimp only at hpo hyl
          generalize recBytes ⟨a0, l0⟩ = y at *
          clear hm
          obtain ⟨X, hX⟩ : ∃ X, l1 ++ y ++ l2 = X := ⟨_, rfl⟩
          have hXl : X.length ≤ 10000 := by rw [← hX]; simp; omega
          have hXo : okB X := by
            rw [← hX]
            exact okB_append (okB_append ho1 hpo) ho2
          rw [hX] at hgt
          have HGT := Lib.hid hgt
          clear hgt
          go_wp2_with (at_builtin; first | (have zz := hr301'; refine Kd.R_append_rows (Kd.int .u8) (Rr := fun x cs => cs = [.int .u8 x]) (w0 := w3) w3.heap.size rfl _ _ 22 5 (.int .u8 0) 1 rfl Try.underlying22 infoU8 rfl (by decide) (by decide) v301 (l1 ++ y) l2 A2 l2.length c2 (fun _ => True) (fun _ => False) rfl rfl hr301' (Kd.C_below HR2.out hb301') (fun _ _ h => h) (fun _ h => h.elim) (fun _ _ => trivial) hb301' hb301'.size (by first | omega | (simp; done) | (simp; omega)) ?_; intro v302 u302 hr302' hb302' hG _; replace hr302' : Kd.R (Kd.int .u8) 5 u302 w3.heap.size (fun _ => True) v302 ((l1 ++ y) ++ l2) := (by simpa using hr302'); rw [hX] at hr302'; obtain ⟨A4, c4, rfl, hc4, hC4⟩ := Kd.R_reads hr302') | (have zz := hr300'; refine Kd.R_append_rows (Kd.int .u8) (Rr := fun x cs => cs = [.int .u8 x]) (w0 := w3) w3.heap.size rfl _ _ 22 5 (.int .u8 0) 1 rfl Try.underlying22 infoU8 rfl (by decide) (by decide) v300 l1 y A3 y.length c3 (fun _ => True) (fun _ => False) rfl rfl hr300' (Kd.C_below HC3.out hb300') (fun _ _ h => h) (fun _ h => h.elim) (fun _ _ => trivial) hb300' hb300'.size (by first | omega | (simp; done) | (simp; omega)) ?_; intro v301 u301 hr301' hb301' hG _; replace hr301' : Kd.R (Kd.int .u8) 5 u301 w3.heap.size (fun _ => True) v301 (l1 ++ y) := (by simpa using hr301')) | (refine Kd.R_append_rows (Kd.int .u8) (Rr := fun x cs => cs = [.int .u8 x]) (w0 := w3) w3.heap.size rfl _ _ 22 5 (.int .u8 0) 1 rfl Try.underlying22 infoU8 rfl (by decide) (by decide) (.slice none 0 0) ([] : List Int) l1 A1 l1.length c1 (fun _ => True) (fun _ => False) rfl rfl (Kd.R_nil _ _ _ _ _) HR1.out (fun _ _ h => h) (fun _ h => h.elim) (fun _ _ => trivial) (Below.refl _ _) (Nat.le_refl _) (by first | omega | (simp; done) | (simp; omega)) ?_; intro v300 u300 hr300' hb300' hG _; replace hr300' : Kd.R (Kd.int .u8) 5 u300 w3.heap.size (fun _ => True) v300 l1 := (by simpa using hr300')))
          have hb4 := hb302'
          generalize u302 = w4 at *
          replace hbx0 := BoxR.below hbx0 hb4
          clear x00 x01
          have x00 := hbx0.c0
          have x01 := hbx0.c1
          replace HR0 := Lib.hid (Kd.C_below HR0.out hb4)
          replace HR1 := Lib.hid (Kd.C_below HR1.out hb4)
          replace HR2 := Lib.hid (Kd.C_below HR2.out hb4)
          replace HC3 := Lib.hid (Kd.C_below HC3.out hb4)
          have hB4 : Below w.heap.size w w4 := hB3.trans (hb4.mono hB3.size)
          clear hb4
          have HC4 := Lib.hid hC4
          clear hC4
          clear hX
          go_wp2_with (fail)
          have q := recGet_calls A4 c4 X (l1.length : Int) w4 HC4.out hc4 hXo (by omega)
          rw [HGT.out] at q
          refine q.mono ?_
          clear q
          rintro e w5 ⟨A5, c5, rfl, hc5, hC5, hb5, -⟩
          dsimp only at hc5 hC5 ⊢
          replace hbx0 := BoxR.below hbx0 hb5
          clear x00 x01
          have x00 := hbx0.c0
          have x01 := hbx0.c1
          replace HR0 := Lib.hid (Kd.C_below HR0.out hb5)
          replace HR1 := Lib.hid (Kd.C_below HR1.out hb5)
          replace HR2 := Lib.hid (Kd.C_below HR2.out hb5)
          replace HC3 := Lib.hid (Kd.C_below HC3.out hb5)
          replace HC4 := Lib.hid (Kd.C_below HC4.out hb5)
          have hB5 : Below w.heap.size w w5 := hB4.trans (hb5.mono hB4.size)
          clear hb5
          have HC5 := Lib.hid hC5
          clear hC5
          have za0 := (BoxR.below hbx0 (below_alloc (Below.refl _ w5) (.cells #[.int .i64 a0, .slice A5 l0.length c5] 24))).c0
          have za1 := (BoxR.below hbx0 (below_alloc (Below.refl _ w5) (.cells #[.int .i64 a0, .slice A5 l0.length c5] 24))).c1
          go_wp2_with (fail)
          clear za0 za1
          have hby0 := BoxR.new w5 (.int .i64 a0) (.slice A5 l0.length c5)
          have hb6 : Below w5.heap.size w5 (w5.alloc (.cells #[.int .i64 a0, .slice A5 l0.length c5] 24)) := below_alloc (Below.refl _ _) _
          generalize hwz : w5.alloc (.cells #[.int .i64 a0, .slice A5 l0.length c5] 24) = w6 at *
          clear hwz
          replace hbx0 := BoxR.below hbx0 hb6
          clear x00 x01
          have x00 := hbx0.c0
          have x01 := hbx0.c1
          replace HR0 := Lib.hid (Kd.C_below HR0.out hb6)
          replace HR1 := Lib.hid (Kd.C_below HR1.out hb6)
          replace HR2 := Lib.hid (Kd.C_below HR2.out hb6)
          replace HC3 := Lib.hid (Kd.C_below HC3.out hb6)
          replace HC4 := Lib.hid (Kd.C_below HC4.out hb6)
          replace HC5 := Lib.hid (Kd.C_below HC5.out hb6)
          have hB6 : Below w.heap.size w w6 := hB5.trans (hb6.mono hB5.size)
          clear hb6
          have y00 := hby0.c0
          have y01 := hby0.c1
          have q := rsame_calls ⟨a0, l0⟩ ⟨a0, l0⟩ true (decide_eq_true rfl) A5 c5 A0 c0 w6 HC5.out hc5 ho0 HR0.out hc0 ho0
          refine q.mono ?_
          clear q
          rintro e w7 ⟨rfl, hb7⟩
          replace hbx0 := BoxR.below hbx0 hb7
          clear x00 x01
          have x00 := hbx0.c0
          have x01 := hbx0.c1
          replace HR0 := Lib.hid (Kd.C_below HR0.out hb7)
          replace HR1 := Lib.hid (Kd.C_below HR1.out hb7)
          replace HR2 := Lib.hid (Kd.C_below HR2.out hb7)
          replace HC3 := Lib.hid (Kd.C_below HC3.out hb7)
          replace HC4 := Lib.hid (Kd.C_below HC4.out hb7)
          replace HC5 := Lib.hid (Kd.C_below HC5.out hb7)
          replace hby0 := BoxR.below hby0 hb7
          clear y00 y01
          have y00 := hby0.c0
          have y01 := hby0.c1
          have hB7 : Below w.heap.size w w7 := hB6.trans (hb7.mono hB6.size)
          clear hb7
          obtain ⟨g, hg⟩ : ∃ g, rGet l2 a3 = g := ⟨_, rfl⟩
          have hcs := rGet_cases l2 ho2 a3
          rw [hg] at hcs
          go_wp2_with (fail)
          have q := recGet_calls A2 c2 l2 a3 w7 HR2.out hc2 ho2 (by omega)
          rw [hg] at q
          refine q.mono ?_
          clear q
          rintro e w8 ⟨A8, c8, rfl, hc8, hC8, hb8, -⟩
          dsimp only at hc8 hC8 ⊢
          replace hbx0 := BoxR.below hbx0 hb8
          clear x00 x01
          have x00 := hbx0.c0
          have x01 := hbx0.c1
          replace HR0 := Lib.hid (Kd.C_below HR0.out hb8)
          replace HR1 := Lib.hid (Kd.C_below HR1.out hb8)
          replace HR2 := Lib.hid (Kd.C_below HR2.out hb8)
          replace HC3 := Lib.hid (Kd.C_below HC3.out hb8)
          replace HC4 := Lib.hid (Kd.C_below HC4.out hb8)
          replace HC5 := Lib.hid (Kd.C_below HC5.out hb8)
          replace hby0 := BoxR.below hby0 hb8
          clear y00 y01
          have y00 := hby0.c0
          have y01 := hby0.c1
          have hB8 : Below w.heap.size w w8 := hB7.trans (hb8.mono hB7.size)
          clear hb8
          have HC8 := Lib.hid hC8
          clear hC8
          by_cases hge : g.2.2 = 0
          · skip
            obtain ⟨-, e1, e2, k, e3, e4, e5, e6⟩ : g.2.2 = 0 ∧ 0 ≤ a3 ∧ recMay g.1 ∧ ∃ k : Nat, g.2.1 = a3 + k ∧ 6 ≤ k ∧ a3 + k ≤ l2.length ∧ recBytes g.1 = (l2.drop a3.toNat).take k := by
              rcases hcs with h | h
              · exact h
              · exact absurd hge h.1
            have hgb : (g.2.2 != 0) = false := by rw [hge]; rfl
            clear hcs hge
            have hgo : okB g.1.body := by
              have h1 : okB (joinR [g.1]) := by
                have : joinR [g.1] = recBytes g.1 := by simp [joinR]
                rw [this, e6]
                exact okB_take (okB_drop ho2 _) _
              exact okB_joined h1 g.1 (by simp)
            obtain ⟨tt, hto⟩ : ∃ t, g.2.1 = t := ⟨_, rfl⟩
            rw [hto] at e3
            obtain ⟨AM, t1, t2, t3⟩ := midB A2 c2 l2 a3 tt e1 (by omega) (by omega) hc2
            have hmd : (l2.take tt.toNat).drop a3.toNat = recBytes g.1 := by rw [e6, List.drop_take, e3]; congr 1; omega
            rw [hmd] at t1 t2 t3
            have HT2 := Lib.hid t2
            clear t2 e6 hmd
            have HTO := Lib.hid hto
            have hto1 : a3 < tt := by omega
            have hto2 : tt ≤ (l2.length : Int) := by omega
            clear e3 e4 e5
            go_wp2_with (fail)
            have hby1 := BoxR.new w8 (.int .i64 g.1.kind) (.slice A8 g.1.body.length c8)
            have hb9 : Below w8.heap.size w8 (w8.alloc (.cells #[.int .i64 g.1.kind, .slice A8 g.1.body.length c8] 24)) := below_alloc (Below.refl _ _) _
            generalize hwz : w8.alloc (.cells #[.int .i64 g.1.kind, .slice A8 g.1.body.length c8] 24) = w9 at *
            clear hwz
            replace hbx0 := BoxR.below hbx0 hb9
            clear x00 x01
            have x00 := hbx0.c0
            have x01 := hbx0.c1
            replace HR0 := Lib.hid (Kd.C_below HR0.out hb9)
            replace HR1 := Lib.hid (Kd.C_below HR1.out hb9)
            replace HR2 := Lib.hid (Kd.C_below HR2.out hb9)
            replace HC3 := Lib.hid (Kd.C_below HC3.out hb9)
            replace HC4 := Lib.hid (Kd.C_below HC4.out hb9)
            replace HC5 := Lib.hid (Kd.C_below HC5.out hb9)
            replace hby0 := BoxR.below hby0 hb9
            clear y00 y01
            have y00 := hby0.c0
            have y01 := hby0.c1
            replace HC8 := Lib.hid (Kd.C_below HC8.out hb9)
            have hB9 : Below w.heap.size w w9 := hB8.trans (hb9.mono hB8.size)
            clear hb9
            have y10 := hby1.c0
            have y11 := hby1.c1
            skip
            go_wp2_with (fail)
            have q := rput_calls g.1 A8 c8 w9 HC8.out hc8 hgo
            rw [rPut_pos e2] at q
            refine q.mono ?_
            clear q
            rintro e w10 ⟨A10, c10, rfl, hc10, hC10, hb10⟩
            dsimp only at hc10 hC10 ⊢
            replace hbx0 := BoxR.below hbx0 hb10
            clear x00 x01
            have x00 := hbx0.c0
            have x01 := hbx0.c1
            replace HR0 := Lib.hid (Kd.C_below HR0.out hb10)
            replace HR1 := Lib.hid (Kd.C_below HR1.out hb10)
            replace HR2 := Lib.hid (Kd.C_below HR2.out hb10)
            replace HC3 := Lib.hid (Kd.C_below HC3.out hb10)
            replace HC4 := Lib.hid (Kd.C_below HC4.out hb10)
            replace HC5 := Lib.hid (Kd.C_below HC5.out hb10)
            replace hby0 := BoxR.below hby0 hb10
            clear y00 y01
            have y00 := hby0.c0
            have y01 := hby0.c1
            replace HC8 := Lib.hid (Kd.C_below HC8.out hb10)
            replace hby1 := BoxR.below hby1 hb10
            clear y10 y11
            have y10 := hby1.c0
            have y11 := hby1.c1
            have hB10 : Below w.heap.size w w10 := hB9.trans (hb10.mono hB9.size)
            clear hb10
            have HC10 := Lib.hid hC10
            clear hC10
            generalize recBytes g.1 = y9 at *
            have HT3 := Lib.hid (HT2.out _ HR2.out)
            skip
            have HSS := Lib.hid (show ∀ W, Below w10.heap.size w10 W → Below w10.heap.size w10 W ∧ Sem.run Try.prog (convert 22 9 (Value.slice A10 y9.length c10)) W = Result.ok (Value.string (strOfNums y9)) W ∧ Sem.run Try.prog (convert 22 9 (Value.slice AM y9.length (c2 - a3.toNat))) W = Result.ok (Value.string (strOfNums y9)) W from fun W h => ⟨h, Kd.C_string (P := Try.prog) (c := c10) Try.underlying22 Try.underlying5 Try.underlying9 (Kd.C_below HC10.out h), Kd.C_string (P := Try.prog) (c := (c2 - a3.toNat)) Try.underlying22 Try.underlying5 Try.underlying9 (Kd.C_below HT3.out h)⟩)
            have D0 := Lib.hid (show Below w10.heap.size w10 w10.drew from (Below.refl _ w10).drew)
            go_wp2_with (fail)
            go_region_held3 (fun W => Below w10.heap.size w10 W ∧ Sem.run Try.prog (convert 22 9 (Value.slice A10 y9.length c10)) W = Result.ok (Value.string (strOfNums y9)) W ∧ Sem.run Try.prog (convert 22 9 (Value.slice AM y9.length (c2 - a3.toNat))) W = Result.ok (Value.string (strOfNums y9)) W) (first | (with_reducible exact HSS.out _ D0.out)) (fail)
            all_goals
              go_wp2_with (fail)
              go_ret
              exact ⟨by simp, hB10.trans (D0.out.mono hB10.size)⟩
          · skip
            obtain ⟨e1, e2, e3⟩ : g.2.2 ≠ 0 ∧ g.1 = ⟨0, []⟩ ∧ g.2.1 = 0 := by
              rcases hcs with h | h
              · exact absurd h.1 hge
              · exact h
            have hgb : (g.2.2 != 0) = true := by simpa using hge
            skip
            have f1 : (g.2.1 == 0) = true := by rw [e3]; rfl
            have f2 : (g.1.kind == 0) = true := by rw [e2]; rfl
            have f3 : ((g.1.body.length : Int) == 0) = true := by rw [e2]; rfl
            clear e1 e2 e3 hcs hge
            go_wp2_with (fail)
            go_ret
            exact ⟨rfl, below_alloc hB8 _⟩
        · skip
          go_wp2_with (fail)
          have q := rput_calls ⟨a0, l0⟩ A0 c0 w2 HR0.out hc0 ho0
          rw [rPut_neg hm] at q
          refine q.mono ?_
          clear q
          rintro e w3 ⟨A3, c3, rfl, hc3, hC3, hb3⟩
          dsimp only at hc3 hC3 ⊢
          replace hbx0 := BoxR.below hbx0 hb3
          clear x00 x01
          have x00 := hbx0.c0
          have x01 := hbx0.c1
          replace HR0 := Lib.hid (Kd.C_below HR0.out hb3)
          replace HR1 := Lib.hid (Kd.C_below HR1.out hb3)
          replace HR2 := Lib.hid (Kd.C_below HR2.out hb3)
          have hB3 : Below w.heap.size w w3 := hB2.trans (hb3.mono hB2.size)
          clear hb3
          have HC3 := Lib.hid hC3
          clear hC3
          clear hm
          have hpo : okB ([] : List Int) := fun x hx => by cases hx
          obtain ⟨X, hX⟩ : ∃ X, l1 ++ [] ++ l2 = X := ⟨_, rfl⟩
          have hXl : X.length ≤ 10000 := by rw [← hX]; simp; omega
          have hXo : okB X := by
            rw [← hX]
            exact okB_append (okB_append ho1 hpo) ho2
          go_wp2_with (at_builtin; first | (have zz := hr301'; refine Kd.R_append_rows (Kd.int .u8) (Rr := fun x cs => cs = [.int .u8 x]) (w0 := w3) w3.heap.size rfl _ _ 22 5 (.int .u8 0) 1 rfl Try.underlying22 infoU8 rfl (by decide) (by decide) v301 (l1 ++ []) l2 A2 l2.length c2 (fun _ => True) (fun _ => False) rfl rfl hr301' (Kd.C_below HR2.out hb301') (fun _ _ h => h) (fun _ h => h.elim) (fun _ _ => trivial) hb301' hb301'.size (by first | omega | (simp; done) | (simp; omega)) ?_; intro v302 u302 hr302' hb302' hG _; replace hr302' : Kd.R (Kd.int .u8) 5 u302 w3.heap.size (fun _ => True) v302 ((l1 ++ []) ++ l2) := (by simpa using hr302'); rw [hX] at hr302'; obtain ⟨A4, c4, rfl, hc4, hC4⟩ := Kd.R_reads hr302') | (have zz := hr300'; refine Kd.R_append_rows (Kd.int .u8) (Rr := fun x cs => cs = [.int .u8 x]) (w0 := w3) w3.heap.size rfl _ _ 22 5 (.int .u8 0) 1 rfl Try.underlying22 infoU8 rfl (by decide) (by decide) v300 l1 [] A3 [].length c3 (fun _ => True) (fun _ => False) rfl rfl hr300' (Kd.C_below HC3.out hb300') (fun _ _ h => h) (fun _ h => h.elim) (fun _ _ => trivial) hb300' hb300'.size (by first | omega | (simp; done) | (simp; omega)) ?_; intro v301 u301 hr301' hb301' hG _; replace hr301' : Kd.R (Kd.int .u8) 5 u301 w3.heap.size (fun _ => True) v301 (l1 ++ []) := (by simpa using hr301')) | (refine Kd.R_append_rows (Kd.int .u8) (Rr := fun x cs => cs = [.int .u8 x]) (w0 := w3) w3.heap.size rfl _ _ 22 5 (.int .u8 0) 1 rfl Try.underlying22 infoU8 rfl (by decide) (by decide) (.slice none 0 0) ([] : List Int) l1 A1 l1.length c1 (fun _ => True) (fun _ => False) rfl rfl (Kd.R_nil _ _ _ _ _) HR1.out (fun _ _ h => h) (fun _ h => h.elim) (fun _ _ => trivial) (Below.refl _ _) (Nat.le_refl _) (by first | omega | (simp; done) | (simp; omega)) ?_; intro v300 u300 hr300' hb300' hG _; replace hr300' : Kd.R (Kd.int .u8) 5 u300 w3.heap.size (fun _ => True) v300 l1 := (by simpa using hr300')))
          have hb4 := hb302'
          generalize u302 = w4 at *
          replace hbx0 := BoxR.below hbx0 hb4
          clear x00 x01
          have x00 := hbx0.c0
          have x01 := hbx0.c1
          replace HR0 := Lib.hid (Kd.C_below HR0.out hb4)
          replace HR1 := Lib.hid (Kd.C_below HR1.out hb4)
          replace HR2 := Lib.hid (Kd.C_below HR2.out hb4)
          replace HC3 := Lib.hid (Kd.C_below HC3.out hb4)
          have hB4 : Below w.heap.size w w4 := hB3.trans (hb4.mono hB3.size)
          clear hb4
          have HC4 := Lib.hid hC4
          clear hC4
          clear hX
          obtain ⟨g0', hg0⟩ : ∃ g, rGet X (l1.length : Int) = g := ⟨_, rfl⟩
          go_wp2_with (fail)
          have q := recGet_calls A4 c4 X (l1.length : Int) w4 HC4.out hc4 hXo (by omega)
          rw [hg0] at q
          refine q.mono ?_
          clear q
          rintro e w5 ⟨A5, c5, rfl, hc5, hC5, hb5, -⟩
          dsimp only at hc5 hC5 ⊢
          replace hbx0 := BoxR.below hbx0 hb5
          clear x00 x01
          have x00 := hbx0.c0
          have x01 := hbx0.c1
          replace HR0 := Lib.hid (Kd.C_below HR0.out hb5)
          replace HR1 := Lib.hid (Kd.C_below HR1.out hb5)
          replace HR2 := Lib.hid (Kd.C_below HR2.out hb5)
          replace HC3 := Lib.hid (Kd.C_below HC3.out hb5)
          replace HC4 := Lib.hid (Kd.C_below HC4.out hb5)
          have hB5 : Below w.heap.size w w5 := hB4.trans (hb5.mono hB4.size)
          clear hb5
          have HC5 := Lib.hid hC5
          clear hC5
          clear hg0
          go_wp2_with (fail)
          have hby0 := BoxR.new w5 (.int .i64 g0'.1.kind) (.slice A5 g0'.1.body.length c5)
          have hb6 : Below w5.heap.size w5 (w5.alloc (.cells #[.int .i64 g0'.1.kind, .slice A5 g0'.1.body.length c5] 24)) := below_alloc (Below.refl _ _) _
          generalize hwz : w5.alloc (.cells #[.int .i64 g0'.1.kind, .slice A5 g0'.1.body.length c5] 24) = w6 at *
          clear hwz
          replace hbx0 := BoxR.below hbx0 hb6
          clear x00 x01
          have x00 := hbx0.c0
          have x01 := hbx0.c1
          replace HR0 := Lib.hid (Kd.C_below HR0.out hb6)
          replace HR1 := Lib.hid (Kd.C_below HR1.out hb6)
          replace HR2 := Lib.hid (Kd.C_below HR2.out hb6)
          replace HC3 := Lib.hid (Kd.C_below HC3.out hb6)
          replace HC4 := Lib.hid (Kd.C_below HC4.out hb6)
          replace HC5 := Lib.hid (Kd.C_below HC5.out hb6)
          have hB6 : Below w.heap.size w w6 := hB5.trans (hb6.mono hB5.size)
          clear hb6
          have y00 := hby0.c0
          have y01 := hby0.c1
          skip
          obtain ⟨g, hg⟩ : ∃ g, rGet l2 a3 = g := ⟨_, rfl⟩
          have hcs := rGet_cases l2 ho2 a3
          rw [hg] at hcs
          go_wp2_with (fail)
          have q := recGet_calls A2 c2 l2 a3 w6 HR2.out hc2 ho2 (by omega)
          rw [hg] at q
          refine q.mono ?_
          clear q
          rintro e w7 ⟨A7, c7, rfl, hc7, hC7, hb7, -⟩
          dsimp only at hc7 hC7 ⊢
          replace hbx0 := BoxR.below hbx0 hb7
          clear x00 x01
          have x00 := hbx0.c0
          have x01 := hbx0.c1
          replace HR0 := Lib.hid (Kd.C_below HR0.out hb7)
          replace HR1 := Lib.hid (Kd.C_below HR1.out hb7)
          replace HR2 := Lib.hid (Kd.C_below HR2.out hb7)
          replace HC3 := Lib.hid (Kd.C_below HC3.out hb7)
          replace HC4 := Lib.hid (Kd.C_below HC4.out hb7)
          replace HC5 := Lib.hid (Kd.C_below HC5.out hb7)
          replace hby0 := BoxR.below hby0 hb7
          clear y00 y01
          have y00 := hby0.c0
          have y01 := hby0.c1
          have hB7 : Below w.heap.size w w7 := hB6.trans (hb7.mono hB6.size)
          clear hb7
          have HC7 := Lib.hid hC7
          clear hC7
          by_cases hge : g.2.2 = 0
          · skip
            obtain ⟨-, e1, e2, k, e3, e4, e5, e6⟩ : g.2.2 = 0 ∧ 0 ≤ a3 ∧ recMay g.1 ∧ ∃ k : Nat, g.2.1 = a3 + k ∧ 6 ≤ k ∧ a3 + k ≤ l2.length ∧ recBytes g.1 = (l2.drop a3.toNat).take k := by
              rcases hcs with h | h
              · exact h
              · exact absurd hge h.1
            have hgb : (g.2.2 != 0) = false := by rw [hge]; rfl
            clear hcs hge
            have hgo : okB g.1.body := by
              have h1 : okB (joinR [g.1]) := by
                have : joinR [g.1] = recBytes g.1 := by simp [joinR]
                rw [this, e6]
                exact okB_take (okB_drop ho2 _) _
              exact okB_joined h1 g.1 (by simp)
            obtain ⟨tt, hto⟩ : ∃ t, g.2.1 = t := ⟨_, rfl⟩
            rw [hto] at e3
            obtain ⟨AM, t1, t2, t3⟩ := midB A2 c2 l2 a3 tt e1 (by omega) (by omega) hc2
            have hmd : (l2.take tt.toNat).drop a3.toNat = recBytes g.1 := by rw [e6, List.drop_take, e3]; congr 1; omega
            rw [hmd] at t1 t2 t3
            have HT2 := Lib.hid t2
            clear t2 e6 hmd
            have HTO := Lib.hid hto
            have hto1 : a3 < tt := by omega
            have hto2 : tt ≤ (l2.length : Int) := by omega
            clear e3 e4 e5
            go_wp2_with (fail)
            have hby1 := BoxR.new w7 (.int .i64 g.1.kind) (.slice A7 g.1.body.length c7)
            have hb8 : Below w7.heap.size w7 (w7.alloc (.cells #[.int .i64 g.1.kind, .slice A7 g.1.body.length c7] 24)) := below_alloc (Below.refl _ _) _
            generalize hwz : w7.alloc (.cells #[.int .i64 g.1.kind, .slice A7 g.1.body.length c7] 24) = w8 at *
            clear hwz
            replace hbx0 := BoxR.below hbx0 hb8
            clear x00 x01
            have x00 := hbx0.c0
            have x01 := hbx0.c1
            replace HR0 := Lib.hid (Kd.C_below HR0.out hb8)
            replace HR1 := Lib.hid (Kd.C_below HR1.out hb8)
            replace HR2 := Lib.hid (Kd.C_below HR2.out hb8)
            replace HC3 := Lib.hid (Kd.C_below HC3.out hb8)
            replace HC4 := Lib.hid (Kd.C_below HC4.out hb8)
            replace HC5 := Lib.hid (Kd.C_below HC5.out hb8)
            replace hby0 := BoxR.below hby0 hb8
            clear y00 y01
            have y00 := hby0.c0
            have y01 := hby0.c1
            replace HC7 := Lib.hid (Kd.C_below HC7.out hb8)
            have hB8 : Below w.heap.size w w8 := hB7.trans (hb8.mono hB7.size)
            clear hb8
            have y10 := hby1.c0
            have y11 := hby1.c1
            skip
            go_wp2_with (fail)
            have q := rput_calls g.1 A7 c7 w8 HC7.out hc7 hgo
            rw [rPut_pos e2] at q
            refine q.mono ?_
            clear q
            rintro e w9 ⟨A9, c9, rfl, hc9, hC9, hb9⟩
            dsimp only at hc9 hC9 ⊢
            replace hbx0 := BoxR.below hbx0 hb9
            clear x00 x01
            have x00 := hbx0.c0
            have x01 := hbx0.c1
            replace HR0 := Lib.hid (Kd.C_below HR0.out hb9)
            replace HR1 := Lib.hid (Kd.C_below HR1.out hb9)
            replace HR2 := Lib.hid (Kd.C_below HR2.out hb9)
            replace HC3 := Lib.hid (Kd.C_below HC3.out hb9)
            replace HC4 := Lib.hid (Kd.C_below HC4.out hb9)
            replace HC5 := Lib.hid (Kd.C_below HC5.out hb9)
            replace hby0 := BoxR.below hby0 hb9
            clear y00 y01
            have y00 := hby0.c0
            have y01 := hby0.c1
            replace HC7 := Lib.hid (Kd.C_below HC7.out hb9)
            replace hby1 := BoxR.below hby1 hb9
            clear y10 y11
            have y10 := hby1.c0
            have y11 := hby1.c1
            have hB9 : Below w.heap.size w w9 := hB8.trans (hb9.mono hB8.size)
            clear hb9
            have HC9 := Lib.hid hC9
            clear hC9
            generalize recBytes g.1 = y9 at *
            have HT3 := Lib.hid (HT2.out _ HR2.out)
            skip
            have HSS := Lib.hid (show ∀ W, Below w9.heap.size w9 W → Below w9.heap.size w9 W ∧ Sem.run Try.prog (convert 22 9 (Value.slice A9 y9.length c9)) W = Result.ok (Value.string (strOfNums y9)) W ∧ Sem.run Try.prog (convert 22 9 (Value.slice AM y9.length (c2 - a3.toNat))) W = Result.ok (Value.string (strOfNums y9)) W from fun W h => ⟨h, Kd.C_string (P := Try.prog) (c := c9) Try.underlying22 Try.underlying5 Try.underlying9 (Kd.C_below HC9.out h), Kd.C_string (P := Try.prog) (c := (c2 - a3.toNat)) Try.underlying22 Try.underlying5 Try.underlying9 (Kd.C_below HT3.out h)⟩)
            have D0 := Lib.hid (show Below w9.heap.size w9 w9.drew from (Below.refl _ w9).drew)
            go_wp2_with (fail)
            go_region_held3 (fun W => Below w9.heap.size w9 W ∧ Sem.run Try.prog (convert 22 9 (Value.slice A9 y9.length c9)) W = Result.ok (Value.string (strOfNums y9)) W ∧ Sem.run Try.prog (convert 22 9 (Value.slice AM y9.length (c2 - a3.toNat))) W = Result.ok (Value.string (strOfNums y9)) W) (first | (with_reducible exact HSS.out _ D0.out)) (fail)
            all_goals
              go_wp2_with (fail)
              go_ret
              exact ⟨by simp, hB9.trans (D0.out.mono hB9.size)⟩
          · skip
            obtain ⟨e1, e2, e3⟩ : g.2.2 ≠ 0 ∧ g.1 = ⟨0, []⟩ ∧ g.2.1 = 0 := by
              rcases hcs with h | h
              · exact absurd h.1 hge
              · exact h
            have hgb : (g.2.2 != 0) = true := by simpa using hge
            skip
            have f1 : (g.2.1 == 0) = true := by rw [e3]; rfl
            have f2 : (g.1.kind == 0) = true := by rw [e2]; rfl
            have f3 : ((g.1.body.length : Int) == 0) = true := by rw [e2]; rfl
            clear e1 e2 e3 hcs hge
            go_wp2_with (fail)
            go_ret
            exact ⟨rfl, below_alloc hB7 _⟩
      · skip
        have gi2 : (3000 : Int) < (l2.length : Int) := by omega
        go_wp2_with (fail)
        go_ret
        exact ⟨rfl, hB2⟩
    · skip
      have gi1 : (1100 : Int) < (l1.length : Int) := by omega
      go_wp2_with (fail)
      go_ret
      exact ⟨rfl, hB2⟩
  · skip
    obtain rfl : bs0 = false := by rw [← HBS0.out]; exact decide_eq_false g0
    go_wp2_with (fail)
    go_ret
    exact ⟨rfl, hB2⟩

end Go.Proofs.Ytnicndnbloohhaa.H
