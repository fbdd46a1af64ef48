import Derived.Test.YtiopafdndlodoaaWireAw
import Derived.Test.YtiopafdndlodoaaRowS
import Derived.Deep.RegionHeld3
import Derived.Deep.RegionHeldLaw
import Derived.Deep.QuietTactic
import Derived.BigQuiet
import Derived.OpenShut
/-! The law WireSpoiled, walked. -/
namespace Go.Proofs.Ytiopafdndlodoaa.H
open Go.RowKit Moor Go.Proofs.YtiopafdndlodoaaW.PrintWords Go.Proofs.YtiopafdndlodoaaW.PrintLast Go.Proofs.YtiopafdndlodoaaW.PrintMore
set_option linter.unusedVariables false
set_option linter.unusedSimpArgs false

theorem bounds_u32r {n : Int} (h : (Lit.int .u32 n).wf = true) : 0 ≤ n ∧ n ≤ 4294967295 := by
  simp [Lit.wf, IntKind.min, IntKind.max, IntKind.signed, IntKind.bits] at h
  omega
attribute [local irreducible] Go.bits
theorem xor_ok8 {a b : Int} (ha : 0 ≤ a ∧ a ≤ 255) (hb : 0 ≤ b ∧ b ≤ 255) : 0 ≤ Go.bits .xor .u8 a b ∧ Go.bits .xor .u8 a b ≤ 255 := by
  obtain ⟨n, rfl⟩ := Int.eq_ofNat_of_zero_le ha.1
  obtain ⟨m, rfl⟩ := Int.eq_ofNat_of_zero_le hb.1
  rw [u8_xor_nat n m (by omega) (by omega)]
  have : n ^^^ m < 2 ^ 8 := Nat.xor_lt_two_pow (by omega) (by omega)
  omega
theorem okB_set {l : List Int} {j : Nat} {v : Int} (h : okB l) (hv : 0 ≤ v ∧ v ≤ 255) : okB (l.set j v) := fun x hx => by
  rcases List.mem_or_eq_of_mem_set hx with h1 | h1
  · exact h x h1
  · rw [h1]; exact hv
theorem getD_set_other {l : List Int} {j i : Nat} (v : Int) (h : i ≠ j) : (l.set j v).getD i 0 = l.getD i 0 := by
  rw [List.getD_eq_getElem?_getD, List.getD_eq_getElem?_getD, List.getElem?_set_ne (by omega)]
theorem R_form {w : World} {base : Nat} {ok : Nat → Prop} {v : Value} {l : List Int} (h : Kd.R (Kd.int .u8) 5 w base ok v l) (hl : 0 < l.length) : ∃ g cap, v = .slice (some ⟨g, 0, none⟩) l.length cap ∧ base ≤ g := by
  obtain ⟨A, c, rfl, _, hC⟩ := Kd.R_reads h
  obtain ⟨_, inner, hown, _⟩ := h
  rcases hown.2 with ⟨hv, _⟩ | ⟨g', cap', cur, hv, hb2, hh, _⟩
  · injection hv with h1 h2 h3; omega
  · cases hv
    exact ⟨g', c, rfl, hb2⟩

set_option maxRecDepth 100000 in
set_option maxHeartbeats 16000000 in
theorem wireSpoiled_walk (e0 : Rq) (a1 : Int) (a2 : Int) (w : World) (hw1 : (Lit.int .i64 a1).wf = true) (hw2 : (Lit.int .u32 a2).wf = true) :
    Calls Try.prog 8 #[.agg (cellsQ e0), .int .i64 a1, .int .u32 a2] w fun e w' => e = .returned (.bool true) ∧ Below w.heap.size w w' := by
  go_enter Try.func8, Try.ntmps8
  go_wp2_with (fail)
  have hbx0 := QC.new w (cellsQ e0)
  have hBa0 : Below w.heap.size w (w.alloc (.cells (cellsQ e0) 25)) := below_alloc (Below.refl _ _) _
  refine (awake_true _).mono ?_
  rintro e w10 ⟨rfl, hb10⟩
  have hB10 : Below w.heap.size w w10 := hBa0.trans (hb10.mono hBa0.size)
  replace hbx0 := hbx0.below hb10
  clear hb10 hBa0
  obtain ⟨x0_0, x0_1, x0_2, x0_3, x0_4, x0_5, x0_6, x0_7, x0_8⟩ := hbx0.nine
  have hs0 : 0 ≤ a2 := (bounds_u32r hw2).1
  have hs1 : a2 ≤ 4294967295 := (bounds_u32r hw2).2
  obtain ⟨P, hP⟩ : ∃ P, wPut e0 = P := ⟨_, rfl⟩
  have h1 := wPut_long e0
  have h2 := fun h x hx hl q hq hs => wRead_spoiled (r := e0) h (x := x) hx hl q hq hs
  rw [hP] at h1 h2
  have HP := Lib.hid hP
  have HPO := Lib.hid h1
  have HSP := Lib.hid h2
  clear hP h1 h2
  go_wp2_with (fail)
  have q := wPut_calls e0 w10
  rw [HP.out] at q
  refine q.mono ?_
  clear q
  rintro e w11 ⟨A11, c11, rfl, hc11, hC11, hb11⟩
  dsimp only at hc11 hC11 ⊢
  replace hbx0 := hbx0.below hb11
  clear x0_0 x0_1 x0_2 x0_3 x0_4 x0_5 x0_6 x0_7 x0_8
  obtain ⟨x0_0, x0_1, x0_2, x0_3, x0_4, x0_5, x0_6, x0_7, x0_8⟩ := hbx0.nine
  have hB11 : Below w.heap.size w w11 := hB10.trans (hb11.mono hB10.size)
  clear hb11
  have HC11 := Lib.hid hC11
  clear hC11
  clear HP
  obtain ⟨y, is_⟩ := P
  dsimp only at *
  cases is_ with
  | true =>
      have hpo := HPO.out.1
      have hyl2 : y.length ≤ 30 := HPO.out.2.2
      have HBAD := Lib.hid (fun x hx hl q hq hs => HSP.out rfl x hx hl q hq hs)
      clear HSP
      by_cases q1 : 2 ≤ a1
      · skip
        have n1 : ¬ a1 < 2 := by omega
        by_cases q2 : a1 < (y.length : Int)
        · skip
          have n2 : ¬ a1 ≥ (y.length : Int) := by omega
          by_cases q3 : a2 ≠ 0
          · skip
            have n3 : (a2 == 0) = false := by simpa using q3
            obtain ⟨at_, rfl⟩ := Int.eq_ofNat_of_zero_le (show 0 ≤ a1 by omega)
            have hat2 : 2 ≤ at_ := by omega
            have hatl : at_ < y.length := by omega
            have HA2 := Lib.hid hat2
            clear hat2 q1 q2
            go_wp2_with (at_builtin; refine Kd.R_append_rows (Kd.int .u8) (Rr := fun x cs => cs = [.int .u8 x]) (w0 := w11) w11.heap.size rfl _ _ 29 5 (.int .u8 0) 1 rfl Try.underlying29 infoU8 rfl (by decide) (by decide) (.slice none 0 0) ([] : List Int) y A11 y.length c11 (fun _ => True) (fun _ => False) rfl rfl (Kd.R_nil _ _ _ _ _) HC11.out (fun _ _ h => h) (fun _ h => h.elim) (fun _ _ => trivial) (Below.refl _ _) (Nat.le_refl _) (by first | omega | (simp; done) | (simp; omega)) ?_; intro v1 u1 hr1' hb1' hG _; replace hr1' : Kd.R (Kd.int .u8) 5 u1 w11.heap.size (fun _ => True) v1 y := (by simpa using hr1'); obtain ⟨g, cap, rfl, hg1⟩ := R_form hr1' (by omega))
            have hbn := hb1'
            generalize u1 = u9 at *
            go_loopw [2, 11] (fun m i wr => ∃ (k : Nat) (x : List Int) (mm : Int), k ≤ 4 ∧ i = .int .i64 (k : Int) ∧ m = .int .u32 mm ∧ 0 ≤ mm ∧ mm ≤ 4294967295 ∧ Kd.R (Kd.int .u8) 5 wr w11.heap.size (fun _ => True) (.slice (some ⟨g, 0, none⟩) x.length cap) x ∧ x.length = y.length ∧ okB x ∧ Hid (∀ j, (j < at_ ∨ at_ + 4 ≤ j) → x.getD j 0 = y.getD j 0) ∧ Below w11.heap.size w11 wr) (fun _ i _ => 4 - (intOf i).toNat)
            case atStart => exact ⟨0, y, a2, by omega, rfl, rfl, hs0, hs1, hr1', rfl, hpo, Lib.hid (fun _ _ => rfl), hbn⟩
            case round =>
              obtain ⟨k, x, mm, hk, rfl, rfl, hm0, hm1, hRx, hxl, hxo, hdx, hBx⟩ := hrel
              by_cases hlt : k < 4
              · skip
                have hlti : (k : Int) < 4 := by omega
                by_cases hin0 : at_ + k < y.length
                · skip
                  have hin : at_ + k < x.length := by omega
                  have hini : (at_ : Int) + (k : Int) < (x.length : Int) := by omega
                  have hiny : (at_ : Int) + (k : Int) < (y.length : Int) := by omega
                  obtain ⟨hce, hfz⟩ := Kd.R_cell (0 : Int) hRx ((at_ : Int) + (k : Int)) (by omega) hini
                  have hii : ((at_ : Int) + (k : Int)).toNat = at_ + k := by omega
                  rw [hii] at hce hfz
                  have hgv : 0 ≤ x.getD (at_ + k) 0 ∧ x.getD (at_ + k) 0 ≤ 255 := by
                    rw [List.getD_eq_getElem?_getD, List.getElem?_eq_getElem hin]
                    exact hxo _ (List.getElem_mem hin)
                  have hrd : rdOf (0 : Int) x ((at_ : Int) + (k : Int)) = x.getD (at_ + k) 0 := by unfold rdOf; rw [hii]
                  rw [hrd] at hce
                  clear hrd hii
                  generalize hv0 : x.getD (at_ + k) 0 = v0 at *
                  clear hv0
                  have hxb := xor_ok8 hgv (show 0 ≤ mm % 256 ∧ mm % 256 ≤ 255 by omega)
                  have HX := Lib.hid hxb
                  have HXL := Lib.hid hxl
                  clear hxb hxl
                  go_wp2_with (fail)
                  have hst := Kd.R_put (W := wr) hRx ((at_ : Int) + (k : Int)) (Go.bits .xor .u8 v0 (mm % 256))
                  have hii : ((at_ : Int) + (k : Int)).toNat = at_ + k := by omega
                  rw [hii] at hst
                  obtain ⟨hR2, hG2⟩ := hst
                  have hB2 := hBx.grown hG2 hBx.size (fun j e => by cases e; exact hg1)
                  have hdx2 := hdx.out
                  go_roundw
                  case rel =>
                    exact ⟨k + 1, x.set (at_ + k) (Go.bits .xor .u8 v0 (mm % 256)), mm / 256, by omega, by go_num, rfl, by omega, by omega, by rw [List.length_set]; exact hR2, by rw [List.length_set]; exact HXL.out, okB_set hxo HX.out, Lib.hid (fun j hj => by
                      rw [← hdx2 j hj]
                      exact getD_set_other _ (by omega)), hB2⟩
                  case measure => simp [intOf]; omega
                · skip
                  have hini : ¬ (at_ : Int) + (k : Int) < (y.length : Int) := by omega
                  go_wp2_with (fail)
                  go_roundw
                  case rel => exact ⟨k + 1, x, mm / 256, by omega, by go_num, rfl, by omega, by omega, hRx, hxl, hxo, hdx, hBx⟩
                  case measure => simp [intOf]; omega
              · skip
                have hlti : ¬ (k : Int) < 4 := by omega
                have hbd := HBAD.out x hxo hxl at_ HA2.out hdx.out
                have HBD := Lib.hid hbd
                have hb12 := hBx
                have HRX := Lib.hid hRx
                clear hbd hdx hBx hRx HBAD hbn hr1'
                generalize wr = w12 at *
                replace hbx0 := hbx0.below hb12
                clear x0_0 x0_1 x0_2 x0_3 x0_4 x0_5 x0_6 x0_7 x0_8
                obtain ⟨x0_0, x0_1, x0_2, x0_3, x0_4, x0_5, x0_6, x0_7, x0_8⟩ := hbx0.nine
                replace HC11 := Lib.hid (Kd.C_below HC11.out hb12)
                have hB12 : Below w.heap.size w w12 := hB11.trans (hb12.mono hB11.size)
                clear hb12
                have HC3 : Hid (Kd.C (Kd.int .u8) w12 (some ⟨g, 0, none⟩) x.length x ∧ x.length ≤ cap) := Lib.hid (by
                  obtain ⟨A5, c5, e5, q5, C5⟩ := Kd.R_reads HRX.out
                  cases e5
                  exact ⟨C5, q5⟩)
                have HCX := Lib.hid HC3.out.1
                have hxc := HC3.out.2
                clear HC3 HRX
                obtain ⟨R, hR⟩ : ∃ R_, wRead x = R_ := ⟨_, rfl⟩
                rw [hR] at HBD
                have HRD := Lib.hid hR
                clear hR
                go_wp2_with (fail)
                have q := wread_calls (some ⟨g, 0, none⟩) cap x w12 HCX.out hxc hxo (by omega)
                rw [HRD.out] at q
                rw [hxl] at q
                refine q.mono ?_
                clear q
                rintro e w13 ⟨rfl, hb13⟩
                (try dsimp only)
                replace hbx0 := hbx0.below hb13
                clear x0_0 x0_1 x0_2 x0_3 x0_4 x0_5 x0_6 x0_7 x0_8
                obtain ⟨x0_0, x0_1, x0_2, x0_3, x0_4, x0_5, x0_6, x0_7, x0_8⟩ := hbx0.nine
                replace HC11 := Lib.hid (Kd.C_below HC11.out hb13)
                replace HCX := Lib.hid (Kd.C_below HCX.out hb13)
                have hB13 : Below w.heap.size w w13 := hB12.trans (hb13.mono hB12.size)
                clear hb13
                clear HRD
                obtain ⟨R, er⟩ := R
                dsimp only at *
                have hcx := Kd.C_string (P := Try.prog) (c := cap) Try.underlying29 Try.underlying5 Try.underlying9 (Kd.C_alloc HCX.out (.cells #[.int .i64 R.kind, .int .i64 R.sub, .int .i64 R.addr, .int .i64 R.blk, .int .i64 R.n, .int .i64 R.q, .int .i64 R.i, .int .i64 R.h, .bool R.pair] 25))
                have hcy := Kd.C_string (P := Try.prog) (c := c11) Try.underlying29 Try.underlying5 Try.underlying9 (Kd.C_alloc HC11.out (.cells #[.int .i64 R.kind, .int .i64 R.sub, .int .i64 R.addr, .int .i64 R.blk, .int .i64 R.n, .int .i64 R.q, .int .i64 R.i, .int .i64 R.h, .bool R.pair] 25))
                rw [hxl] at hcx
                have hse := str_eq hxo hpo
                by_cases hxy : x = y
                · have hse1 : ((strOfNums x).toList == (strOfNums y).toList) = true := by rw [hse]; exact decide_eq_true hxy
                  clear hse hxy
                  go_wp2_with (fail)
                  go_ret
                  exact ⟨by simp, below_alloc hB13 _⟩
                · have hse1 : ((strOfNums x).toList == (strOfNums y).toList) = false := by rw [hse]; exact decide_eq_false hxy
                  have h3 : er = 3 := HBD.out.resolve_left hxy
                  subst h3
                  clear hse hxy
                  go_wp2_with (fail)
                  go_ret
                  exact ⟨by simp, below_alloc hB13 _⟩
          · skip
            have n3 : (a2 == 0) = true := by simpa using q3
            go_wp2_with (fail)
            go_ret
            exact ⟨rfl, hB11⟩
        · skip
          have n2 : a1 ≥ (y.length : Int) := by omega
          go_wp2_with (fail)
          go_ret
          exact ⟨rfl, hB11⟩
      · skip
        have n1 : a1 < 2 := by omega
        go_wp2_with (fail)
        go_ret
        exact ⟨rfl, hB11⟩
  | false =>
      clear HSP
      go_wp2_with (fail)
      go_ret
      exact ⟨rfl, hB11⟩

end Go.Proofs.Ytiopafdndlodoaa.H
