import Derived.Test.YtnicndnbloohhaaRecAw
import Derived.Test.YtnicndnbloohhaaRecO
import Derived.Deep.RegionHeld3
import Derived.Deep.QuietTactic
import Derived.BigQuiet
import Derived.OpenShut
/-! The law RecSpoiled, walked. -/
namespace Go.Proofs.Ytnicndnbloohhaa.H
open Go.RowKit Moor Go.Proofs.YtnicndnbloohhaaW.PrintWords Go.Proofs.YtnicndnbloohhaaW.PrintLast Go.Proofs.YtnicndnbloohhaaW.PrintMore
set_option linter.unusedVariables false
set_option linter.unusedSimpArgs false

theorem bounds_u32r {n : Int} (h : (Lit.int .u32 n).wf = true) : 0 ≤ n ∧ n ≤ 4294967295 := by
  simp [Lit.wf, IntKind.min, IntKind.max, IntKind.signed, IntKind.bits] at h
  omega
attribute [local irreducible] Go.bits
theorem xor_ok8 {a b : Int} (ha : 0 ≤ a ∧ a ≤ 255) (hb : 0 ≤ b ∧ b ≤ 255) : 0 ≤ Go.bits .xor .u8 a b ∧ Go.bits .xor .u8 a b ≤ 255 := by
  obtain ⟨n, rfl⟩ := Int.eq_ofNat_of_zero_le ha.1
  obtain ⟨m, rfl⟩ := Int.eq_ofNat_of_zero_le hb.1
  rw [u8_xor_nat n m (by omega) (by omega)]
  have : n ^^^ m < 2 ^ 8 := Nat.xor_lt_two_pow (by omega) (by omega)
  omega
theorem okB_set {l : List Int} {j : Nat} {v : Int} (h : okB l) (hv : 0 ≤ v ∧ v ≤ 255) : okB (l.set j v) := fun x hx => by
  rcases List.mem_or_eq_of_mem_set hx with h1 | h1
  · exact h x h1
  · rw [h1]; exact hv
theorem getD_set_other {l : List Int} {j i : Nat} (v : Int) (h : i ≠ j) : (l.set j v).getD i 0 = l.getD i 0 := by
  rw [List.getD_eq_getElem?_getD, List.getD_eq_getElem?_getD, List.getElem?_set_ne (by omega)]
theorem R_form {w : World} {base : Nat} {ok : Nat → Prop} {v : Value} {l : List Int} (h : Kd.R (Kd.int .u8) 5 w base ok v l) (hl : 0 < l.length) : ∃ g cap, v = .slice (some ⟨g, 0, none⟩) l.length cap ∧ base ≤ g := by
  have hb := Kd.R_base h
  obtain ⟨A, c, rfl, _, hC⟩ := Kd.R_reads h
  obtain ⟨_, inner, hown, _⟩ := h
  rcases hown.2 with ⟨hv, _⟩ | ⟨g', cap', cur, hv, hb2, hh, _⟩
  · injection hv with h1 h2 h3; omega
  · cases hv
    exact ⟨g', c, rfl, hb2⟩

set_option maxRecDepth 100000 in
set_option maxHeartbeats 16000000 in
theorem recSpoiled_walk (a0 : Int) (A0 : Option Addr) (c0 : Nat) (l0 : List Int) (a1 : Int) (a2 : Int) (w : World) (hr0 : Kd.C (Kd.int .u8) w A0 l0.length l0) (hc0 : l0.length ≤ c0) (ho0 : okB l0) (hw1 : (Lit.int .i64 a1).wf = true) (hw2 : (Lit.int .u32 a2).wf = true) :
    Calls Try.prog 6 #[.agg #[.int .i64 a0, .slice A0 l0.length c0], .int .i64 a1, .int .u32 a2] w fun e w' => e = .returned (.bool true) ∧ Below w.heap.size w w' := by
  go_enter Try.func6, Try.ntmps6
  go_wp2_with (fail)
  have hbx0 := BoxR.new w (.int .i64 a0) (.slice A0 l0.length c0)
  have hBa0 : Below w.heap.size w (w.alloc (.cells #[.int .i64 a0, .slice A0 l0.length c0] 24)) := below_alloc (Below.refl _ _) _
  refine (awake_true _).mono ?_
  rintro e w1 ⟨rfl, hb1⟩
  have hB1 : Below w.heap.size w w1 := hBa0.trans (hb1.mono hBa0.size)
  replace hbx0 := BoxR.below hbx0 hb1
  have x00 := hbx0.c0
  have x01 := hbx0.c1
  clear hb1
  have HR0 := Lib.hid (Kd.C_below hr0 hB1)
  clear hr0
  have hs0 : 0 ≤ a2 := (bounds_u32r hw2).1
  have hs1 : a2 ≤ 4294967295 := (bounds_u32r hw2).2
  by_cases hm : recMay ⟨a0, l0⟩
  · skip
    go_wp2_with (fail)
    have q := rput_calls ⟨a0, l0⟩ A0 c0 w1 HR0.out hc0 ho0
    rw [rPut_pos hm] at q
    refine q.mono ?_
    clear q
    rintro e w2 ⟨A2, c2, rfl, hc2, hC2, hb2⟩
    dsimp only at hc2 hC2 ⊢
    replace hbx0 := BoxR.below hbx0 hb2
    clear x00 x01
    have x00 := hbx0.c0
    have x01 := hbx0.c1
    replace HR0 := Lib.hid (Kd.C_below HR0.out hb2)
    have hB2 : Below w.heap.size w w2 := hB1.trans (hb2.mono hB1.size)
    clear hb2
    have HC2 := Lib.hid hC2
    clear hC2
    have hpo := rPut_ok (r := ⟨a0, l0⟩) ho0
    rw [rPut_pos hm] at hpo
    dsimp only at hpo
    have hyl := recBytes_length ⟨a0, l0⟩
    have hp0 := put_pos (l0.length : Int)
    have hp1 := put_le (l0.length : Int)
    dsimp only at hyl
    have hbad := fun x hx hl q hq hs => rGet_spoiled (x := x) hm hx hpo hl q hq hs
    dsimp only at hbad
    generalize (put (l0.length : Int)).length = pl at *
    generalize recBytes ⟨a0, l0⟩ = y at *
    clear hm
    have HBAD := Lib.hid hbad
    have hyl1 : 5 + pl + l0.length ≤ y.length := by omega
    have hyl2 : y.length ≤ 5 + pl + l0.length := by omega
    clear hbad hyl
    by_cases q0 : l0.length ≤ 400
    · skip
      by_cases q1 : 0 ≤ a1
      · skip
        by_cases q2 : a1 < (l0.length : Int) + 4
        · skip
          by_cases q3 : a2 ≠ 0
          · skip
            have n0 : ¬ (400 : Int) < (l0.length : Int) := by omega
            have n1 : ¬ a1 < 0 := by omega
            have n2 : ¬ (l0.length : Int) + 4 ≤ a1 := by omega
            have n3 : (a2 == 0) = false := by simpa using q3
            obtain ⟨at_, rfl⟩ := Int.eq_ofNat_of_zero_le (show 0 ≤ a1 by omega)
            have HF := Lib.hid (show (y.length : Int) - 4 - (l0.length : Int) = ((1 + pl : Nat) : Int) by omega)
            go_wp2_with (at_builtin; refine Kd.R_append_rows (Kd.int .u8) (Rr := fun x cs => cs = [.int .u8 x]) (w0 := w2) w2.heap.size rfl _ _ 22 5 (.int .u8 0) 1 rfl Try.underlying22 infoU8 rfl (by decide) (by decide) (.slice none 0 0) ([] : List Int) y A2 y.length c2 (fun _ => True) (fun _ => False) rfl rfl (Kd.R_nil _ _ _ _ _) HC2.out (fun _ _ h => h) (fun _ h => h.elim) (fun _ _ => trivial) (Below.refl _ _) (Nat.le_refl _) (by first | omega | (simp; done) | (simp; omega)) ?_; intro v1 u1 hr1' hb1' hG _; replace hr1' : Kd.R (Kd.int .u8) 5 u1 w2.heap.size (fun _ => True) v1 y := (by simpa using hr1'); obtain ⟨g, cap, rfl, hg1⟩ := R_form hr1' (by omega))
            have hbn := hb1'
            generalize u1 = u9 at *
            rw [HF.out]
            obtain ⟨fr, hfr⟩ : ∃ f : Nat, 1 + pl = f := ⟨_, rfl⟩
            rw [hfr]
            have hfr1 : fr ≤ 7 := by omega
            have hfr2 : fr + at_ < y.length := by omega
            have hyl3 : y.length ≤ 411 := by omega
            have HFR := Lib.hid hfr
            clear hfr HF
            go_loopw [2, 12] (fun m i wr => ∃ (k : Nat) (x : List Int) (mm : Int), k ≤ 4 ∧ i = .int .i64 (k : Int) ∧ m = .int .u32 mm ∧ 0 ≤ mm ∧ mm ≤ 4294967295 ∧ Kd.R (Kd.int .u8) 5 wr w2.heap.size (fun _ => True) (.slice (some ⟨g, 0, none⟩) x.length cap) x ∧ x.length = y.length ∧ okB x ∧ Hid (∀ j, (j < fr + at_ ∨ fr + at_ + 4 ≤ j) → x.getD j 0 = y.getD j 0) ∧ Below w2.heap.size w2 wr) (fun _ i _ => 4 - (intOf i).toNat)
            case atStart => exact ⟨0, y, a2, by omega, rfl, rfl, hs0, hs1, hr1', rfl, hpo, Lib.hid (fun _ _ => rfl), hbn⟩
            case round =>
              obtain ⟨k, x, mm, hk, rfl, rfl, hm0, hm1, hRx, hxl, hxo, hdx, hBx⟩ := hrel
              by_cases hlt : k < 4
              · skip
                have hlti : (k : Int) < 4 := by omega
                have hfn : (0 : Int) ≤ (fr : Int) := by omega
                by_cases hin0 : fr + at_ + k < y.length
                · skip
                  have hin : fr + at_ + k < x.length := by omega
                  have hini : (fr : Int) + (at_ : Int) + (k : Int) < (x.length : Int) := by omega
                  have hiny : (fr : Int) + (at_ : Int) + (k : Int) < (y.length : Int) := by omega
                  obtain ⟨hce, hfz⟩ := Kd.R_cell (0 : Int) hRx ((fr : Int) + (at_ : Int) + (k : Int)) (by omega) hini
                  have hii : ((fr : Int) + (at_ : Int) + (k : Int)).toNat = fr + at_ + k := by omega
                  rw [hii] at hce hfz
                  have hgv : 0 ≤ x.getD (fr + at_ + k) 0 ∧ x.getD (fr + at_ + k) 0 ≤ 255 := by
                    rw [List.getD_eq_getElem?_getD, List.getElem?_eq_getElem hin]
                    exact hxo _ (List.getElem_mem hin)
                  have hrd : rdOf (0 : Int) x ((fr : Int) + (at_ : Int) + (k : Int)) = x.getD (fr + at_ + k) 0 := by unfold rdOf; rw [hii]
                  rw [hrd] at hce
                  clear hrd hii
                  generalize hv0 : x.getD (fr + at_ + k) 0 = v0 at *
                  clear hv0
                  have hxb := xor_ok8 hgv (show 0 ≤ mm % 256 ∧ mm % 256 ≤ 255 by omega)
                  have HX := Lib.hid hxb
                  have HXL := Lib.hid hxl
                  clear hxb hxl
                  go_wp2_with (fail)
                  have hst := Kd.R_put (W := wr) hRx ((fr : Int) + (at_ : Int) + (k : Int)) (Go.bits .xor .u8 v0 (mm % 256))
                  have hii : ((fr : Int) + (at_ : Int) + (k : Int)).toNat = fr + at_ + k := by omega
                  rw [hii] at hst
                  obtain ⟨hR2, hG2⟩ := hst
                  have hB2 := hBx.grown hG2 hBx.size (fun j e => by cases e; exact hg1)
                  have hdx2 := hdx.out
                  go_roundw
                  case rel =>
                    exact ⟨k + 1, x.set (fr + at_ + k) (Go.bits .xor .u8 v0 (mm % 256)), mm / 256, by omega, by go_num, rfl, by omega, by omega, by rw [List.length_set]; exact hR2, by rw [List.length_set]; exact HXL.out, okB_set hxo HX.out, Lib.hid (fun j hj => by
                      rw [← hdx2 j hj]
                      exact getD_set_other _ (by omega)), hB2⟩
                  case measure => simp [intOf]; omega
                · skip
                  have hini : ¬ (fr : Int) + (at_ : Int) + (k : Int) < (y.length : Int) := by omega
                  go_wp2_with (fail)
                  go_roundw
                  case rel => exact ⟨k + 1, x, mm / 256, by omega, by go_num, rfl, by omega, by omega, hRx, hxl, hxo, hdx, hBx⟩
                  case measure => simp [intOf]; omega
              · skip
                have hlti : ¬ (k : Int) < 4 := by omega
                have hbd := HBAD.out x hxo hxl (fr + at_) (by have := HFR.out; omega) hdx.out
                have HBD := Lib.hid hbd
                have hb3 := hBx
                have HRX := Lib.hid hRx
                clear hbd hdx hBx hRx HBAD hbn hr1'
                generalize wr = w3 at *
                replace hbx0 := BoxR.below hbx0 hb3
                clear x00 x01
                have x00 := hbx0.c0
                have x01 := hbx0.c1
                replace HR0 := Lib.hid (Kd.C_below HR0.out hb3)
                replace HC2 := Lib.hid (Kd.C_below HC2.out hb3)
                have hB3 : Below w.heap.size w w3 := hB2.trans (hb3.mono hB2.size)
                clear hb3
                have HC3 : Hid (Kd.C (Kd.int .u8) w3 (some ⟨g, 0, none⟩) x.length x ∧ x.length ≤ cap) := Lib.hid (by
                  obtain ⟨A5, c5, e5, q5, C5⟩ := Kd.R_reads HRX.out
                  cases e5
                  exact ⟨C5, q5⟩)
                have HCX := Lib.hid HC3.out.1
                go_wp2_with (fail)
                have q := recGet_calls (some ⟨g, 0, none⟩) cap x 0 w3 HC3.out.1 HC3.out.2 hxo (by omega)
                rw [hxl] at q
                refine q.mono ?_
                clear q
                rintro e w4 ⟨A4, c4, rfl, hc4, hC4, hb4, -⟩
                dsimp only at hc4 hC4 ⊢
                replace hbx0 := BoxR.below hbx0 hb4
                clear x00 x01
                have x00 := hbx0.c0
                have x01 := hbx0.c1
                replace HR0 := Lib.hid (Kd.C_below HR0.out hb4)
                replace HC2 := Lib.hid (Kd.C_below HC2.out hb4)
                replace HCX := Lib.hid (Kd.C_below HCX.out hb4)
                have hB4 : Below w.heap.size w w4 := hB3.trans (hb4.mono hB3.size)
                clear hb4
                have HC4 := Lib.hid hC4
                clear hC4
                generalize rGet x 0 = g4 at *
                have hcx := Kd.C_string (P := Try.prog) (c := cap) Try.underlying22 Try.underlying5 Try.underlying9 (Kd.C_alloc HCX.out (.cells #[.int .i64 g4.1.kind, .slice A4 g4.1.body.length c4] 24))
                have hcy := Kd.C_string (P := Try.prog) (c := c2) Try.underlying22 Try.underlying5 Try.underlying9 (Kd.C_alloc HC2.out (.cells #[.int .i64 g4.1.kind, .slice A4 g4.1.body.length c4] 24))
                rw [hxl] at hcx
                have hse := str_eq hxo hpo
                by_cases hxy : x = y
                · have hse1 : ((strOfNums x).toList == (strOfNums y).toList) = true := by rw [hse]; exact decide_eq_true hxy
                  clear hse hxy
                  go_wp2_with (fail)
                  go_ret
                  exact ⟨rfl, below_alloc hB4 _⟩
                · have hse1 : ((strOfNums x).toList == (strOfNums y).toList) = false := by rw [hse]; exact decide_eq_false hxy
                  have h3 : g4.2.2 = 3 := HBD.out.resolve_left hxy
                  have h3b : (g4.2.2 == 3) = true := by rw [h3]; rfl
                  clear hse hxy h3
                  go_wp2_with (fail)
                  go_ret
                  exact ⟨rfl, below_alloc hB4 _⟩
          · skip
            have n0 : ¬ (400 : Int) < (l0.length : Int) := by omega
            have n1 : ¬ a1 < 0 := by omega
            have n2 : ¬ (l0.length : Int) + 4 ≤ a1 := by omega
            have n3 : (a2 == 0) = true := by simpa using q3
            go_wp2_with (fail)
            go_ret
            exact ⟨rfl, hB2⟩
        · skip
          have n0 : ¬ (400 : Int) < (l0.length : Int) := by omega
          have n1 : ¬ a1 < 0 := by omega
          have n2 : (l0.length : Int) + 4 ≤ a1 := by omega
          go_wp2_with (fail)
          go_ret
          exact ⟨rfl, hB2⟩
      · skip
        have n0 : ¬ (400 : Int) < (l0.length : Int) := by omega
        have n1 : a1 < 0 := by omega
        go_wp2_with (fail)
        go_ret
        exact ⟨rfl, hB2⟩
    · skip
      have n0 : (400 : Int) < (l0.length : Int) := by omega
      go_wp2_with (fail)
      go_ret
      exact ⟨rfl, hB2⟩
  · skip
    go_wp2_with (fail)
    have q := rput_calls ⟨a0, l0⟩ A0 c0 w1 HR0.out hc0 ho0
    rw [rPut_neg hm] at q
    refine q.mono ?_
    clear q
    rintro e w2 ⟨A2, c2, rfl, hc2, hC2, hb2⟩
    dsimp only at hc2 hC2 ⊢
    replace hbx0 := BoxR.below hbx0 hb2
    clear x00 x01
    have x00 := hbx0.c0
    have x01 := hbx0.c1
    replace HR0 := Lib.hid (Kd.C_below HR0.out hb2)
    have hB2 : Below w.heap.size w w2 := hB1.trans (hb2.mono hB1.size)
    clear hb2
    have HC2 := Lib.hid hC2
    clear hC2
    clear hm
    go_wp2_with (fail)
    go_ret
    exact ⟨rfl, hB2⟩

end Go.Proofs.Ytnicndnbloohhaa.H
