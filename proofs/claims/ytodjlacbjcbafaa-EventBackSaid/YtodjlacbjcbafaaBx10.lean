/- Functions and laws of the program moorings: contracts of the Go functions, and, in a text named ..Law.., that the law returns true at every input that its row lets in. No conditions but those stated. Written for this claim by a run of the printer with some functions given (wip/myprint.sh). -/
import Derived.Test.YtodjlacbjcbafaaBx0
import Derived.Test.YtodjlacbjcbafaaBx5
namespace Go.Proofs.Ytodjlacbjcbafaa.B
open Go.RowKit Go.Proofs.YtodjlacbjcbafaaW.PrintWords Go.Proofs.YtodjlacbjcbafaaW.PrintLast Go.Proofs.YtodjlacbjcbafaaW.PrintMore
attribute [local go_sem] max2_int min2_int max_two min_two max_three min_three max_four min_four   -- for this text's walks alone
set_option linter.unusedVariables false
set_option linter.unusedSimpArgs false

/-! ### vari_Get: function 44 -/
mutual
def vari_Get.j0 : Nat → List Int → Int → Bool → Option (Int × Int)
  | 0, _, _, _ => none
  | k + 1, x0, x1, x16 => if x16 = true then (some (0, (-1))) else (if 0 ≤ x1 then (if x1 ≤ (mn (x0.length : Int) (wrap64 (x1 + (mn 6 (wrap64 ((x0.length : Int) - x1)))))) then (if (mn (x0.length : Int) (wrap64 (x1 + (mn 6 (wrap64 ((x0.length : Int) - x1)))))) ≤ (x0.length : Int) then (vari_Get.l0 k x1 0 ((x0.take ((mn (x0.length : Int) (wrap64 (x1 + (mn 6 (wrap64 ((x0.length : Int) - x1)))))) : Int).toNat).drop (x1 : Int).toNat) (((x0.take ((mn (x0.length : Int) (wrap64 (x1 + (mn 6 (wrap64 ((x0.length : Int) - x1)))))) : Int).toNat).drop (x1 : Int).toNat).length : Int) 0) else (none)) else (none)) else (none))
def vari_Get.l0 : Nat → Int → Int → List Int → Int → Int → Option (Int × Int)
  | 0, _, _, _, _, _ => none
  | k + 1, x1, x6, x29, x30, x31 => if x31 < x30 then (if 0 ≤ x31 then (if x31 < (x29.length : Int) then (if 0 ≤ (wrap64 (7 * x31)) then (if (rd x29 x31) ≥ 128 then (vari_Get.l0 k x1 (Go.bits .or .i64 x6 (shl .i64 (wrap64 (Go.bits .andNot .u8 (rd x29 x31) 128)) (wrap64 (7 * x31)))) x29 x30 (wrap64 (x31 + 1))) else (if (rd x29 x31) = 0 then (if x31 > 0 then (some (0, (-1))) else ((vari_may.f (Go.bits .or .i64 x6 (shl .i64 (wrap64 (Go.bits .andNot .u8 (rd x29 x31) 128)) (wrap64 (7 * x31))))).bind fun t236 => (if t236 = true then (some (Go.bits .or .i64 x6 (shl .i64 (wrap64 (Go.bits .andNot .u8 (rd x29 x31) 128)) (wrap64 (7 * x31))), wrap64 ((wrap64 (x1 + x31)) + 1))) else (some (0, (-1)))))) else ((vari_may.f (Go.bits .or .i64 x6 (shl .i64 (wrap64 (Go.bits .andNot .u8 (rd x29 x31) 128)) (wrap64 (7 * x31))))).bind fun t237 => (if t237 = true then (some (Go.bits .or .i64 x6 (shl .i64 (wrap64 (Go.bits .andNot .u8 (rd x29 x31) 128)) (wrap64 (7 * x31))), wrap64 ((wrap64 (x1 + x31)) + 1))) else (some (0, (-1))))))) else (none)) else (none)) else (none)) else (some (0, (-1)))
end
def vari_Get.f (k : Nat) (l0 : List Int) (a1 : Int) : Option (Int × Int) := if a1 < 0 then (vari_Get.j0 k l0 a1 true) else (vari_Get.j0 k l0 a1 (decide (a1 > (l0.length : Int))))
theorem vari_Get.mono_l : ∀ k, (∀ y0 y1 y2, LeO (vari_Get.j0 k y0 y1 y2) (vari_Get.j0 (k + 1) y0 y1 y2)) ∧ (∀ y0 y1 y2 y3 y4, LeO (vari_Get.l0 k y0 y1 y2 y3 y4) (vari_Get.l0 (k + 1) y0 y1 y2 y3 y4))
  | 0 => ⟨fun _ _ _ r h => by simp [vari_Get.j0] at h, fun _ _ _ _ _ r h => by simp [vari_Get.l0] at h⟩
  | k + 1 => by
    obtain ⟨ih0, ih1⟩ := vari_Get.mono_l k
    refine ⟨?_, ?_⟩
    · intro y0 y1 y2
      unfold vari_Get.j0
      repeat' first
      | (with_reducible exact ih0 _ _ _)
      | (with_reducible exact ih1 _ _ _ _ _)
      | (with_reducible exact LeO.refl _)
      | (with_reducible exact LeO.none _)
      | (with_reducible refine LeO.ite ?_ ?_)
      | (with_reducible refine LeO.bind ?_ (fun _ => ?_))
      | exact ih0 _ _ _
      | exact ih1 _ _ _ _ _
      | exact LeO.none _
      | refine LeO.ite ?_ ?_
      | refine LeO.bind ?_ (fun _ => ?_)
    · intro y0 y1 y2 y3 y4
      unfold vari_Get.l0
      repeat' first
      | (with_reducible exact ih0 _ _ _)
      | (with_reducible exact ih1 _ _ _ _ _)
      | (with_reducible exact LeO.refl _)
      | (with_reducible exact LeO.none _)
      | (with_reducible refine LeO.ite ?_ ?_)
      | (with_reducible refine LeO.bind ?_ (fun _ => ?_))
      | exact ih0 _ _ _
      | exact ih1 _ _ _ _ _
      | exact LeO.none _
      | refine LeO.ite ?_ ?_
      | refine LeO.bind ?_ (fun _ => ?_)
theorem vari_Get.mono : ∀ a0 a1 k, LeO (vari_Get.f k a0 a1) (vari_Get.f (k + 1) a0 a1) := by
  intro a0 a1 k
  obtain ⟨ih0, ih1⟩ := vari_Get.mono_l k
  unfold vari_Get.f
  repeat' first
      | (with_reducible exact ih0 _ _ _)
      | (with_reducible exact ih1 _ _ _ _ _)
      | (with_reducible exact LeO.refl _)
      | (with_reducible exact LeO.none _)
      | (with_reducible refine LeO.ite ?_ ?_)
      | (with_reducible refine LeO.bind ?_ (fun _ => ?_))
      | exact ih0 _ _ _
      | exact ih1 _ _ _ _ _
      | exact LeO.none _
      | refine LeO.ite ?_ ?_
      | refine LeO.bind ?_ (fun _ => ?_)
set_option maxHeartbeats 8000000 in
set_option maxRecDepth 100000 in
theorem vari_Get.calls (k : Nat) (A0 : Option Addr) (c0 : Nat) (l0 : List Int) (a1 : Int) (r1 : Int) (r2 : Int) (w : World) (hr0 : Kd.C (Kd.int .u8) w A0 l0.length l0) (hc0 : l0.length ≤ c0) (h : vari_Get.f k l0 a1 = some (r1, r2)) :
    Calls Try.prog 44 #[.slice A0 l0.length c0, .int .i64 a1] w fun e w' => e = .returned (.tuple #[.int .i64 r1, .int .i64 r2]) ∧ Below w.heap.size w w' := by
  have HR0 := Aside0.mk hr0
  have HC0 := Aside0.mk hc0
  clear hr0 hc0
  have HB := Aside0.mk (Below.refl w.heap.size w)
  have H : (if a1 < 0 then (vari_Get.j0 k l0 a1 true) else (vari_Get.j0 k l0 a1 (decide (a1 > (l0.length : Int))))) = some (r1, r2) := h
  clear h
  have HC3 := Aside0.mk H
  clear H
  go_enter Try.func44, Try.ntmps44
  go_upto_region 1 with (fail)
  go_cut [16] (fun v16 wc => ∃ (kq : Nat) (x16_2 : Bool), v16 = .bool x16_2 ∧ Aside0 (vari_Get.j0 kq l0 a1 x16_2 = some (r1, r2)) ∧ Aside0 (kq ≤ k) ∧ Aside0 (Below w.heap.size w wc))
  case first =>
    have H := HC3.out
    clear HC3
    by_cases c4 : a1 < 0
    · rw [if_pos c4] at H
      have c4b0 : decide (a1 < 0) = true := decide_eq_true c4
      clear c4
      (first | rw [c4b0] | (simp only [i64_w, i32_w]; rw [c4b0]) | skip)
      have H' := Aside0.mk H
      clear H
      go_wp2
      go_meet
      case rel => exact ⟨_, (true), (by first | rfl | (simp; done) | (simp [*]; done)), H', ⟨by first | omega | exact Nat.le_refl _⟩, ⟨by repeat (first | (with_reducible first | exact HB.out | apply below_alloc | apply pw_below_drewN | apply below_drew1) | exact HB.out)⟩⟩
    · rw [if_neg c4] at H
      have c4b0 : decide (a1 < 0) = false := decide_eq_false c4
      clear c4
      (first | rw [c4b0] | (simp only [i64_w, i32_w]; rw [c4b0]) | skip)
      have H' := Aside0.mk H
      clear H
      go_wp2
      go_meet
      case rel => exact ⟨_, (decide (a1 > (l0.length : Int))), (by first | rfl | (simp; done) | (simp [*]; done)), H', ⟨by first | omega | exact Nat.le_refl _⟩, ⟨by repeat (first | (with_reducible first | exact HB.out | apply below_alloc | apply pw_below_drewN | apply below_drew1) | exact HB.out)⟩⟩
  case rest =>
    clear HC3
    try clear p2
    try clear c4
    try clear c4b0
    obtain ⟨kq, x16_2, rfl, HA, HJ2, HB⟩ := hcut
    cases kq with
    | zero => exact absurd HA.out (by simp [vari_Get.j0])
    | succ kj2 =>
      have H := HA.out
      clear HA
      simp only [vari_Get.j0] at H
      by_cases c5 : x16_2 = true
      · subst c5
        have H1 : (some (0, (-1))) = some (r1, r2) := by rw [if_pos rfl] at H; exact H
        clear H
        have H := H1
        clear H1
        simp only [Option.some.injEq, Prod.mk.injEq] at H
        obtain ⟨rfl, rfl⟩ := H
        go_wp2
        go_ret2
        exact ⟨by first | rfl | (simp [errW_none, errW_some] <;> rfl) | (simp [*, errW_none, errW_some] <;> rfl), by repeat (first | (with_reducible first | exact HB.out | apply below_alloc | apply pw_below_drewN | apply below_drew1) | exact HB.out)⟩
      · replace c5 := Bool.eq_false_iff.mpr c5
        subst c5
        have H1 : (if 0 ≤ a1 then (if a1 ≤ (mn (l0.length : Int) (wrap64 (a1 + (mn 6 (wrap64 ((l0.length : Int) - a1)))))) then (if (mn (l0.length : Int) (wrap64 (a1 + (mn 6 (wrap64 ((l0.length : Int) - a1)))))) ≤ (l0.length : Int) then (vari_Get.l0 kj2 a1 0 ((l0.take ((mn (l0.length : Int) (wrap64 (a1 + (mn 6 (wrap64 ((l0.length : Int) - a1)))))) : Int).toNat).drop (a1 : Int).toNat) (((l0.take ((mn (l0.length : Int) (wrap64 (a1 + (mn 6 (wrap64 ((l0.length : Int) - a1)))))) : Int).toNat).drop (a1 : Int).toNat).length : Int) 0) else (none)) else (none)) else (none)) = some (r1, r2) := by rw [if_neg (show ¬ (false = true) by decide)] at H; exact H
        clear H
        have H := H1
        clear H1
        obtain ⟨ji6, hji6⟩ : ∃ j_ : Int, (mn 6 (wrap64 ((l0.length : Int) - a1))) = j_ := ⟨_, rfl⟩
        replace H : (if 0 ≤ a1 then (if a1 ≤ (mn (l0.length : Int) (wrap64 (a1 + (ji6)))) then (if (mn (l0.length : Int) (wrap64 (a1 + (ji6)))) ≤ (l0.length : Int) then (vari_Get.l0 kj2 a1 0 ((l0.take ((mn (l0.length : Int) (wrap64 (a1 + (ji6)))) : Int).toNat).drop (a1 : Int).toNat) (((l0.take ((mn (l0.length : Int) (wrap64 (a1 + (ji6)))) : Int).toNat).drop (a1 : Int).toNat).length : Int) 0) else (none)) else (none)) else (none)) = some (r1, r2) := by first | (rw [hji6] at H; exact H) | (simp only [hji6] at H ⊢; exact H)
        have hji6_ : (if (wrap64 ((l0.length : Int) - a1)) < 6 then (wrap64 ((l0.length : Int) - a1)) else 6) = ji6 := hji6
        obtain ⟨ji7, hji7⟩ : ∃ j_ : Int, (mn (l0.length : Int) (wrap64 (a1 + (ji6)))) = j_ := ⟨_, rfl⟩
        replace H : (if 0 ≤ a1 then (if a1 ≤ (ji7) then (if (ji7) ≤ (l0.length : Int) then (vari_Get.l0 kj2 a1 0 ((l0.take ((ji7) : Int).toNat).drop (a1 : Int).toNat) (((l0.take ((ji7) : Int).toNat).drop (a1 : Int).toNat).length : Int) 0) else (none)) else (none)) else (none)) = some (r1, r2) := by first | (rw [hji7] at H; exact H) | (simp only [hji7] at H ⊢; exact H)
        have hji7_ : (if (wrap64 (a1 + (ji6))) < (l0.length : Int) then (wrap64 (a1 + (ji6))) else (l0.length : Int)) = ji7 := hji7
        by_cases c8 : 0 ≤ a1
        · rw [if_pos c8] at H
          have c8b0 := eq_true c8
          have c8b1 : decide (0 ≤ a1) = true := decide_eq_true c8
          clear c8
          by_cases c9 : a1 ≤ (ji7)
          · rw [if_pos c9] at H
            have c9b0 := eq_true c9
            have c9b1 : decide (a1 ≤ (ji7)) = true := decide_eq_true c9
            clear c9
            by_cases c10 : (ji7) ≤ (l0.length : Int)
            · rw [if_pos c10] at H
              have c10b0 := eq_true c10
              have c10b1 : decide ((ji7) ≤ (l0.length : Int)) = true := decide_eq_true c10
              clear c10
              have H' := Aside0.mk H
              clear H
              obtain ⟨i011, hi011, _, hsz11, _⟩ := info_parts info5
              obtain ⟨A11, hcut11, hA11, hC11⟩ := print_mid_of (P := Try.prog) (Value.int .u8) 0 23 5 .i64 .i64 Try.underlying23 hi011 hsz11 A0 c0 l0 a1 (ji7) (of_decide_eq_true (by first | (with_reducible assumption) | assumption)) (by first | omega | exact of_decide_eq_true (by first | (with_reducible assumption) | assumption)) (of_decide_eq_true (by first | (with_reducible assumption) | assumption)) HC0.out
              have HR234 := Aside0.mk (Kd.C_of_reads (h1 := fun _ => rfl) (hA11 _ (Kd.reads_of_C HR0.out)))
              have HC234 := Aside0.mk hC11
              obtain ⟨L11, hL11⟩ : ∃ L_ : List Int, ((l0.take ((ji7) : Int).toNat).drop (a1 : Int).toNat) = L_ := ⟨_, rfl⟩
              (try simp only [hL11] at H')
              (try simp only [hL11] at HR234)
              (try simp only [hL11] at HC234)
              (try simp only [hL11] at hcut11)
              clear hL11
              clear hA11 hC11 hi011 hsz11
              go_wp2
              go_loopg [6, 31] kj2 (fun kq v6 v31 w' => ∃ (x6_2 : Int) (x31_2 : Int), v6 = .int .i64 x6_2 ∧ v31 = .int .i64 x31_2 ∧ Aside0 (vari_Get.l0 kq a1 x6_2 L11 (L11.length : Int) x31_2 = some (r1, r2)) ∧ Aside0 (kq ≤ kj2) ∧ Aside0 (Below w.heap.size w w'))
              case atStart => exact ⟨(0), (0), (by first | rfl | (simp; done) | (simp [*]; done)), (by first | rfl | (simp; done) | (simp [*]; done)), H', ⟨Nat.le_refl _⟩, ⟨by repeat (first | (with_reducible first | exact HB.out | apply below_alloc | apply pw_below_drewN | apply below_drew1) | exact HB.out)⟩⟩
              case round =>
                clear H'
                try clear c1
                try clear p2
                try clear c4
                try clear c4b0
                try clear c5
                try clear p6
                try clear c8
                try clear c8b0
                try clear c8b1
                try clear c9
                try clear c9b0
                try clear c9b1
                try clear c10
                try clear c10b0
                try clear c10b1
                try clear p2
                obtain ⟨x6_2, x31_2, rfl, rfl, HA, HK2, HB⟩ := hrel
                cases gk with
                | zero => exact absurd HA.out (by simp [vari_Get.l0])
                | succ k2 =>
                  have H := HA.out
                  clear HA
                  simp only [vari_Get.l0] at H
                  by_cases c12 : x31_2 < (L11.length : Int)
                  · rw [if_pos c12] at H
                    have c12b0 : decide (x31_2 < (L11.length : Int)) = true := decide_eq_true c12
                    clear c12
                    by_cases c13 : 0 ≤ x31_2
                    · rw [if_pos c13] at H
                      have c13b0 : decide (0 ≤ x31_2) = true := decide_eq_true c13
                      clear c13
                      by_cases c14 : x31_2 < (L11.length : Int)
                      · rw [if_pos c14] at H
                        have c14b0 : decide (x31_2 < (L11.length : Int)) = true := decide_eq_true c14
                        clear c14
                        obtain ⟨ji15, hji15⟩ : ∃ j_ : Int, (wrap64 (7 * x31_2)) = j_ := ⟨_, rfl⟩
                        replace H : (if 0 ≤ (ji15) then (if (rd L11 x31_2) ≥ 128 then (vari_Get.l0 k2 a1 (Go.bits .or .i64 x6_2 (shl .i64 (wrap64 (Go.bits .andNot .u8 (rd L11 x31_2) 128)) (ji15))) L11 (L11.length : Int) (wrap64 (x31_2 + 1))) else (if (rd L11 x31_2) = 0 then (if x31_2 > 0 then (some (0, (-1))) else ((vari_may.f (Go.bits .or .i64 x6_2 (shl .i64 (wrap64 (Go.bits .andNot .u8 (rd L11 x31_2) 128)) (ji15)))).bind fun t236 => (if t236 = true then (some (Go.bits .or .i64 x6_2 (shl .i64 (wrap64 (Go.bits .andNot .u8 (rd L11 x31_2) 128)) (ji15)), wrap64 ((wrap64 (a1 + x31_2)) + 1))) else (some (0, (-1)))))) else ((vari_may.f (Go.bits .or .i64 x6_2 (shl .i64 (wrap64 (Go.bits .andNot .u8 (rd L11 x31_2) 128)) (ji15)))).bind fun t237 => (if t237 = true then (some (Go.bits .or .i64 x6_2 (shl .i64 (wrap64 (Go.bits .andNot .u8 (rd L11 x31_2) 128)) (ji15)), wrap64 ((wrap64 (a1 + x31_2)) + 1))) else (some (0, (-1))))))) else (none)) = some (r1, r2) := by first | (rw [hji15] at H; exact H) | (simp only [hji15] at H ⊢; exact H)
                        have hji15w : (IntKind.i64.wrap (7 * x31_2)) = ji15 := (i64_w _).trans hji15
                        by_cases c16 : 0 ≤ (ji15)
                        · rw [if_pos c16] at H
                          have c16b0 := eq_true c16
                          have c16b1 : decide (0 ≤ (ji15)) = true := decide_eq_true c16
                          clear c16
                          obtain ⟨ji17, hji17⟩ : ∃ j_ : Int, (shl .i64 (wrap64 (Go.bits .andNot .u8 (rd L11 x31_2) 128)) (ji15)) = j_ := ⟨_, rfl⟩
                          replace H : (if (rd L11 x31_2) ≥ 128 then (vari_Get.l0 k2 a1 (Go.bits .or .i64 x6_2 (ji17)) L11 (L11.length : Int) (wrap64 (x31_2 + 1))) else (if (rd L11 x31_2) = 0 then (if x31_2 > 0 then (some (0, (-1))) else ((vari_may.f (Go.bits .or .i64 x6_2 (ji17))).bind fun t236 => (if t236 = true then (some (Go.bits .or .i64 x6_2 (ji17), wrap64 ((wrap64 (a1 + x31_2)) + 1))) else (some (0, (-1)))))) else ((vari_may.f (Go.bits .or .i64 x6_2 (ji17))).bind fun t237 => (if t237 = true then (some (Go.bits .or .i64 x6_2 (ji17), wrap64 ((wrap64 (a1 + x31_2)) + 1))) else (some (0, (-1))))))) = some (r1, r2) := by first | (rw [hji17] at H; exact H) | (simp only [hji17] at H ⊢; exact H)
                          have hji17_ : (IntKind.i64.wrap ((wrap64 (Go.bits .andNot .u8 (rd L11 x31_2) 128)) * 2 ^ min (ji15).toNat 64)) = ji17 := hji17
                          have hji17z : (ji15) ≤ 64 → (IntKind.i64.wrap ((wrap64 (Go.bits .andNot .u8 (rd L11 x31_2) 128)) * 2 ^ (ji15).toNat)) = ji17 := shl_small hji17
                          have hji17y : (wrap64 ((wrap64 (Go.bits .andNot .u8 (rd L11 x31_2) 128)) * 2 ^ min (ji15).toNat 64)) = ji17 := (i64_w _).symm.trans hji17_
                          have hji17x : (ji15) ≤ 64 → (wrap64 ((wrap64 (Go.bits .andNot .u8 (rd L11 x31_2) 128)) * 2 ^ (ji15).toNat)) = ji17 := fun h_ => (i64_w _).symm.trans (hji17z h_)
                          by_cases c18 : (rd L11 x31_2) ≥ 128
                          · rw [if_pos c18] at H
                            have c18b0 : decide (128 ≤ (rd L11 x31_2)) = true := decide_eq_true c18
                            clear c18
                            have H' := Aside0.mk H
                            clear H
                            have p235 : 0 ≤ (x31_2 : Int) := of_decide_eq_true (by first | (with_reducible assumption) | assumption)
                            have q235 : x31_2 < (L11.length : Int) := of_decide_eq_true (by first | (with_reducible assumption) | assumption)
                            obtain ⟨ad235, e235, hx235_0⟩ := Kd.at_int HR234.out x31_2 p235 q235
                            cases e235
                            replace hx235_0 := (HB.out.cell (World.block_lt_of_cell? w _ hx235_0)).trans hx235_0
                            replace p235 := eq_true p235
                            replace q235 := eq_true q235
                            go_wp2
                            go_roundg k2
                            case measure => have := HJ2.out; have := HK2.out; omega
                            case rel => exact ⟨(Go.bits .or .i64 x6_2 (ji17)), (wrap64 (x31_2 + 1)), (by first | rfl | (simp; done) | (simp only [← hji17] <;> (first | rfl | simp)) | (simp [*]; done)), (by first | rfl | (simp; done) | (simp [*]; done)), H', ⟨by have := HJ2.out; have := HK2.out; omega⟩, ⟨by repeat (first | (with_reducible first | exact HB.out | apply below_alloc | apply pw_below_drewN | apply below_drew1) | exact HB.out)⟩⟩
                          · rw [if_neg c18] at H
                            have c18b0 : decide (128 ≤ (rd L11 x31_2)) = false := decide_eq_false c18
                            clear c18
                            by_cases c19 : (rd L11 x31_2) = 0
                            · rw [if_pos c19] at H
                              have c19b0 : ((rd L11 x31_2) == 0) = true := beq_iff_eq.mpr c19
                              have c19b1 : ((rd L11 x31_2) != 0) = false := bne_eq_false_iff_eq.mpr c19
                              clear c19
                              by_cases c20 : x31_2 > 0
                              · rw [if_pos c20] at H
                                have c20b0 : decide (0 < x31_2) = true := decide_eq_true c20
                                clear c20
                                simp only [Option.some.injEq, Prod.mk.injEq] at H
                                obtain ⟨rfl, rfl⟩ := H
                                have p235 : 0 ≤ (x31_2 : Int) := of_decide_eq_true (by first | (with_reducible assumption) | assumption)
                                have q235 : x31_2 < (L11.length : Int) := of_decide_eq_true (by first | (with_reducible assumption) | assumption)
                                obtain ⟨ad235, e235, hx235_0⟩ := Kd.at_int HR234.out x31_2 p235 q235
                                cases e235
                                replace hx235_0 := (HB.out.cell (World.block_lt_of_cell? w _ hx235_0)).trans hx235_0
                                replace p235 := eq_true p235
                                replace q235 := eq_true q235
                                go_wp2
                                go_ret2
                                exact ⟨by first | rfl | (simp [errW_none, errW_some] <;> rfl) | (simp only [← hji6, ← hji7, ← hji15, ← hji17]; first | rfl | (simp [errW_none, errW_some] <;> rfl)) | (simp [*, errW_none, errW_some] <;> rfl), by repeat (first | (with_reducible first | exact HB.out | apply below_alloc | apply pw_below_drewN | apply below_drew1) | exact HB.out)⟩
                              · rw [if_neg c20] at H
                                have c20b0 : decide (0 < x31_2) = false := decide_eq_false c20
                                clear c20
                                replace H := Option.bind_eq_some_iff.mp H
                                obtain ⟨t236, A210, H⟩ := H
                                replace H : (if t236 = true then (some (Go.bits .or .i64 x6_2 (ji17), wrap64 ((wrap64 (a1 + x31_2)) + 1))) else (some (0, (-1)))) = some (r1, r2) := H
                                have A21 := Aside0.mk A210
                                clear A210
                                by_cases c22 : t236 = true
                                · subst c22
                                  have H1 : (some (Go.bits .or .i64 x6_2 (ji17), wrap64 ((wrap64 (a1 + x31_2)) + 1))) = some (r1, r2) := by rw [if_pos rfl] at H; exact H
                                  clear H
                                  have H := H1
                                  clear H1
                                  simp only [Option.some.injEq, Prod.mk.injEq] at H
                                  obtain ⟨rfl, rfl⟩ := H
                                  have p235 : 0 ≤ (x31_2 : Int) := of_decide_eq_true (by first | (with_reducible assumption) | assumption)
                                  have q235 : x31_2 < (L11.length : Int) := of_decide_eq_true (by first | (with_reducible assumption) | assumption)
                                  obtain ⟨ad235, e235, hx235_0⟩ := Kd.at_int HR234.out x31_2 p235 q235
                                  cases e235
                                  replace hx235_0 := (HB.out.cell (World.block_lt_of_cell? w _ hx235_0)).trans hx235_0
                                  replace p235 := eq_true p235
                                  replace q235 := eq_true q235
                                  go_wp2_with (first | (go_at_call 33; (with_reducible refine (vari_may.calls (Go.bits .or .i64 x6_2 (ji17)) true _ A21.out).mono ?_); rintro e w' ⟨rfl, ⟨nd, rfl⟩⟩))
                                  go_ret2
                                  exact ⟨by first | rfl | (simp [errW_none, errW_some] <;> rfl) | (simp only [← hji6, ← hji7, ← hji15, ← hji17]; first | rfl | (simp [errW_none, errW_some] <;> rfl)) | (simp [*, errW_none, errW_some] <;> rfl), by repeat (first | (with_reducible first | exact HB.out | apply below_alloc | apply pw_below_drewN | apply below_drew1) | exact HB.out)⟩
                                · replace c22 := Bool.eq_false_iff.mpr c22
                                  subst c22
                                  have H1 : (some (0, (-1))) = some (r1, r2) := by rw [if_neg (show ¬ (false = true) by decide)] at H; exact H
                                  clear H
                                  have H := H1
                                  clear H1
                                  simp only [Option.some.injEq, Prod.mk.injEq] at H
                                  obtain ⟨rfl, rfl⟩ := H
                                  have p235 : 0 ≤ (x31_2 : Int) := of_decide_eq_true (by first | (with_reducible assumption) | assumption)
                                  have q235 : x31_2 < (L11.length : Int) := of_decide_eq_true (by first | (with_reducible assumption) | assumption)
                                  obtain ⟨ad235, e235, hx235_0⟩ := Kd.at_int HR234.out x31_2 p235 q235
                                  cases e235
                                  replace hx235_0 := (HB.out.cell (World.block_lt_of_cell? w _ hx235_0)).trans hx235_0
                                  replace p235 := eq_true p235
                                  replace q235 := eq_true q235
                                  go_wp2_with (first | (go_at_call 33; (with_reducible refine (vari_may.calls (Go.bits .or .i64 x6_2 (ji17)) false _ A21.out).mono ?_); rintro e w' ⟨rfl, ⟨nd, rfl⟩⟩))
                                  go_ret2
                                  exact ⟨by first | rfl | (simp [errW_none, errW_some] <;> rfl) | (simp only [← hji6, ← hji7, ← hji15, ← hji17]; first | rfl | (simp [errW_none, errW_some] <;> rfl)) | (simp [*, errW_none, errW_some] <;> rfl), by repeat (first | (with_reducible first | exact HB.out | apply below_alloc | apply pw_below_drewN | apply below_drew1) | exact HB.out)⟩
                            · rw [if_neg c19] at H
                              have c19b0 : ((rd L11 x31_2) == 0) = false := beq_eq_false_iff_ne.mpr c19
                              have c19b1 : ((rd L11 x31_2) != 0) = true := bne_iff_ne.mpr c19
                              replace H := Option.bind_eq_some_iff.mp H
                              obtain ⟨t237, A230, H⟩ := H
                              replace H : (if t237 = true then (some (Go.bits .or .i64 x6_2 (ji17), wrap64 ((wrap64 (a1 + x31_2)) + 1))) else (some (0, (-1)))) = some (r1, r2) := H
                              have A23 := Aside0.mk A230
                              clear A230
                              by_cases c24 : t237 = true
                              · subst c24
                                have H1 : (some (Go.bits .or .i64 x6_2 (ji17), wrap64 ((wrap64 (a1 + x31_2)) + 1))) = some (r1, r2) := by rw [if_pos rfl] at H; exact H
                                clear H
                                have H := H1
                                clear H1
                                simp only [Option.some.injEq, Prod.mk.injEq] at H
                                obtain ⟨rfl, rfl⟩ := H
                                have p235 : 0 ≤ (x31_2 : Int) := of_decide_eq_true (by first | (with_reducible assumption) | assumption)
                                have q235 : x31_2 < (L11.length : Int) := of_decide_eq_true (by first | (with_reducible assumption) | assumption)
                                obtain ⟨ad235, e235, hx235_0⟩ := Kd.at_int HR234.out x31_2 p235 q235
                                cases e235
                                replace hx235_0 := (HB.out.cell (World.block_lt_of_cell? w _ hx235_0)).trans hx235_0
                                replace p235 := eq_true p235
                                replace q235 := eq_true q235
                                go_wp2_with (first | (go_at_call 33; (with_reducible refine (vari_may.calls (Go.bits .or .i64 x6_2 (ji17)) true _ A23.out).mono ?_); rintro e w' ⟨rfl, ⟨nd, rfl⟩⟩))
                                go_ret2
                                exact ⟨by first | rfl | (simp [errW_none, errW_some] <;> rfl) | (simp only [← hji6, ← hji7, ← hji15, ← hji17]; first | rfl | (simp [errW_none, errW_some] <;> rfl)) | (simp [*, errW_none, errW_some] <;> rfl), by repeat (first | (with_reducible first | exact HB.out | apply below_alloc | apply pw_below_drewN | apply below_drew1) | exact HB.out)⟩
                              · replace c24 := Bool.eq_false_iff.mpr c24
                                subst c24
                                have H1 : (some (0, (-1))) = some (r1, r2) := by rw [if_neg (show ¬ (false = true) by decide)] at H; exact H
                                clear H
                                have H := H1
                                clear H1
                                simp only [Option.some.injEq, Prod.mk.injEq] at H
                                obtain ⟨rfl, rfl⟩ := H
                                have p235 : 0 ≤ (x31_2 : Int) := of_decide_eq_true (by first | (with_reducible assumption) | assumption)
                                have q235 : x31_2 < (L11.length : Int) := of_decide_eq_true (by first | (with_reducible assumption) | assumption)
                                obtain ⟨ad235, e235, hx235_0⟩ := Kd.at_int HR234.out x31_2 p235 q235
                                cases e235
                                replace hx235_0 := (HB.out.cell (World.block_lt_of_cell? w _ hx235_0)).trans hx235_0
                                replace p235 := eq_true p235
                                replace q235 := eq_true q235
                                go_wp2_with (first | (go_at_call 33; (with_reducible refine (vari_may.calls (Go.bits .or .i64 x6_2 (ji17)) false _ A23.out).mono ?_); rintro e w' ⟨rfl, ⟨nd, rfl⟩⟩))
                                go_ret2
                                exact ⟨by first | rfl | (simp [errW_none, errW_some] <;> rfl) | (simp only [← hji6, ← hji7, ← hji15, ← hji17]; first | rfl | (simp [errW_none, errW_some] <;> rfl)) | (simp [*, errW_none, errW_some] <;> rfl), by repeat (first | (with_reducible first | exact HB.out | apply below_alloc | apply pw_below_drewN | apply below_drew1) | exact HB.out)⟩
                        · rw [if_neg c16] at H
                          exact absurd H (by simp)
                      · rw [if_neg c14] at H
                        exact absurd H (by simp)
                    · rw [if_neg c13] at H
                      exact absurd H (by simp)
                  · rw [if_neg c12] at H
                    have c12b0 : decide (x31_2 < (L11.length : Int)) = false := decide_eq_false c12
                    clear c12
                    simp only [Option.some.injEq, Prod.mk.injEq] at H
                    obtain ⟨rfl, rfl⟩ := H
                    go_wp2
                    go_ret2
                    exact ⟨by first | rfl | (simp [errW_none, errW_some] <;> rfl) | (simp only [← hji6, ← hji7]; first | rfl | (simp [errW_none, errW_some] <;> rfl)) | (simp [*, errW_none, errW_some] <;> rfl), by repeat (first | (with_reducible first | exact HB.out | apply below_alloc | apply pw_below_drewN | apply below_drew1) | exact HB.out)⟩
            · rw [if_neg c10] at H
              exact absurd H (by simp)
          · rw [if_neg c9] at H
            exact absurd H (by simp)
        · rw [if_neg c8] at H
          exact absurd H (by simp)

/-! ### mooringsref01_Get: function 41 -/
mutual
def mooringsref01_Get.l0 : Nat → List Int → Int → Int → Int → Int → Option (Int × Int)
  | 0, _, _, _, _, _ => none
  | k + 1, x0, x1, x6, x7, x8 => if x8 < (x0.length : Int) then (mooringsref01_Get.j1 k x0 x1 x6 x7 x8 (decide ((wrap64 (x8 - x1)) < 6))) else (mooringsref01_Get.j1 k x0 x1 x6 x7 x8 false)
def mooringsref01_Get.j1 : Nat → List Int → Int → Int → Int → Int → Bool → Option (Int × Int)
  | 0, _, _, _, _, _, _ => none
  | k + 1, x0, x1, x6, x7, x8, x22 => if x22 = true then (if 0 ≤ x8 then (if x8 < (x0.length : Int) then (if (wrap64 (rd x0 x8)) < 128 then (if (wrap64 (x6 + (wrap64 (x7 * (Int.tmod (wrap64 (rd x0 x8)) 128))))) > 1099511627776 then (some (0, (-1))) else (if (wrap64 (rd x0 x8)) = 0 then (if x8 > x1 then (some (0, (-1))) else (some (wrap64 (x6 + (wrap64 (x7 * (Int.tmod (wrap64 (rd x0 x8)) 128)))), wrap64 (x8 + 1)))) else (some (wrap64 (x6 + (wrap64 (x7 * (Int.tmod (wrap64 (rd x0 x8)) 128)))), wrap64 (x8 + 1))))) else (mooringsref01_Get.l0 k x0 x1 (wrap64 (x6 + (wrap64 (x7 * (Int.tmod (wrap64 (rd x0 x8)) 128))))) (wrap64 (x7 * 128)) (wrap64 (x8 + 1)))) else (none)) else (none)) else (some (0, (-1)))
end
def mooringsref01_Get.f (k : Nat) (l0 : List Int) (a1 : Int) : Option (Int × Int) := if a1 < 0 then (some (0, (-1))) else (mooringsref01_Get.l0 k l0 a1 0 1 a1)
theorem mooringsref01_Get.mono_l : ∀ k, (∀ y0 y1 y2 y3 y4, LeO (mooringsref01_Get.l0 k y0 y1 y2 y3 y4) (mooringsref01_Get.l0 (k + 1) y0 y1 y2 y3 y4)) ∧ (∀ y0 y1 y2 y3 y4 y5, LeO (mooringsref01_Get.j1 k y0 y1 y2 y3 y4 y5) (mooringsref01_Get.j1 (k + 1) y0 y1 y2 y3 y4 y5))
  | 0 => ⟨fun _ _ _ _ _ r h => by simp [mooringsref01_Get.l0] at h, fun _ _ _ _ _ _ r h => by simp [mooringsref01_Get.j1] at h⟩
  | k + 1 => by
    obtain ⟨ih0, ih1⟩ := mooringsref01_Get.mono_l k
    refine ⟨?_, ?_⟩
    · intro y0 y1 y2 y3 y4
      unfold mooringsref01_Get.l0
      repeat' first
      | (with_reducible exact ih0 _ _ _ _ _)
      | (with_reducible exact ih1 _ _ _ _ _ _)
      | (with_reducible exact LeO.refl _)
      | (with_reducible exact LeO.none _)
      | (with_reducible refine LeO.ite ?_ ?_)
      | (with_reducible refine LeO.bind ?_ (fun _ => ?_))
      | exact ih0 _ _ _ _ _
      | exact ih1 _ _ _ _ _ _
      | exact LeO.none _
      | refine LeO.ite ?_ ?_
      | refine LeO.bind ?_ (fun _ => ?_)
    · intro y0 y1 y2 y3 y4 y5
      unfold mooringsref01_Get.j1
      repeat' first
      | (with_reducible exact ih0 _ _ _ _ _)
      | (with_reducible exact ih1 _ _ _ _ _ _)
      | (with_reducible exact LeO.refl _)
      | (with_reducible exact LeO.none _)
      | (with_reducible refine LeO.ite ?_ ?_)
      | (with_reducible refine LeO.bind ?_ (fun _ => ?_))
      | exact ih0 _ _ _ _ _
      | exact ih1 _ _ _ _ _ _
      | exact LeO.none _
      | refine LeO.ite ?_ ?_
      | refine LeO.bind ?_ (fun _ => ?_)
theorem mooringsref01_Get.mono : ∀ a0 a1 k, LeO (mooringsref01_Get.f k a0 a1) (mooringsref01_Get.f (k + 1) a0 a1) := by
  intro a0 a1 k
  obtain ⟨ih0, ih1⟩ := mooringsref01_Get.mono_l k
  unfold mooringsref01_Get.f
  repeat' first
      | (with_reducible exact ih0 _ _ _ _ _)
      | (with_reducible exact ih1 _ _ _ _ _ _)
      | (with_reducible exact LeO.refl _)
      | (with_reducible exact LeO.none _)
      | (with_reducible refine LeO.ite ?_ ?_)
      | (with_reducible refine LeO.bind ?_ (fun _ => ?_))
      | exact ih0 _ _ _ _ _
      | exact ih1 _ _ _ _ _ _
      | exact LeO.none _
      | refine LeO.ite ?_ ?_
      | refine LeO.bind ?_ (fun _ => ?_)
set_option maxHeartbeats 8000000 in
set_option maxRecDepth 100000 in
theorem mooringsref01_Get.calls (k : Nat) (A0 : Option Addr) (c0 : Nat) (l0 : List Int) (a1 : Int) (r1 : Int) (r2 : Int) (w : World) (hr0 : Kd.C (Kd.int .u8) w A0 l0.length l0) (hc0 : l0.length ≤ c0) (h : mooringsref01_Get.f k l0 a1 = some (r1, r2)) :
    Calls Try.prog 41 #[.slice A0 l0.length c0, .int .i64 a1] w fun e w' => e = .returned (.tuple #[.int .i64 r1, .int .i64 r2]) ∧ Drawn0 w w' := by
  have HR0 := Aside0.mk hr0
  have HC0 := Aside0.mk hc0
  clear hr0 hc0
  have H : (if a1 < 0 then (some (0, (-1))) else (mooringsref01_Get.l0 k l0 a1 0 1 a1)) = some (r1, r2) := h
  clear h
  by_cases c3 : a1 < 0
  · rw [if_pos c3] at H
    have c3b0 : decide (a1 < 0) = true := decide_eq_true c3
    clear c3
    simp only [Option.some.injEq, Prod.mk.injEq] at H
    obtain ⟨rfl, rfl⟩ := H
    go_enter Try.func41, Try.ntmps41
    go_wp2
    go_ret2
    exact ⟨by first | rfl | (simp; done) | (simp [*]; done), by repeat (first | exact Drawn0.refl _ | apply Drawn0.step)⟩
  · rw [if_neg c3] at H
    have c3b0 : decide (a1 < 0) = false := decide_eq_false c3
    clear c3
    have H' := Aside0.mk H
    clear H
    go_enter Try.func41, Try.ntmps41
    go_wp2
    go_loopg [6, 7, 8] k (fun kq v6 v7 v8 w' => ∃ (x6_1 : Int) (x7_1 : Int) (x8_1 : Int), v6 = .int .i64 x6_1 ∧ v7 = .int .i64 x7_1 ∧ v8 = .int .i64 x8_1 ∧ Aside0 (mooringsref01_Get.l0 kq l0 a1 x6_1 x7_1 x8_1 = some (r1, r2)) ∧ Aside0 (kq ≤ k) ∧ Drawn0 w w')
    case atStart => exact ⟨(0), (1), (a1), (by first | rfl | (simp; done) | (simp [*]; done)), (by first | rfl | (simp; done) | (simp [*]; done)), (by first | rfl | (simp; done) | (simp [*]; done)), H', ⟨Nat.le_refl _⟩, by repeat (first | exact Drawn0.refl _ | apply Drawn0.step)⟩
    case round =>
      clear H'
      try clear p2
      try clear c3
      try clear c3b0
      obtain ⟨x6_1, x7_1, x8_1, rfl, rfl, rfl, HA, HK1, ⟨m1, rfl⟩⟩ := hrel
      cases gk with
      | zero => exact absurd HA.out (by simp [mooringsref01_Get.l0])
      | succ k1 =>
        have H := HA.out
        clear HA
        simp only [mooringsref01_Get.l0] at H
        have HC4 := Aside0.mk H
        clear H
        go_upto_region 6 with (fail)
        go_cut [22] (fun v22 wc => ∃ (kq : Nat) (x22_3 : Bool), v22 = .bool x22_3 ∧ Aside0 (mooringsref01_Get.j1 kq l0 a1 x6_1 x7_1 x8_1 x22_3 = some (r1, r2)) ∧ Aside0 (kq ≤ k1) ∧ Drawn0 w wc)
        case first =>
          have H := HC4.out
          clear HC4
          by_cases c5 : x8_1 < (l0.length : Int)
          · rw [if_pos c5] at H
            have c5b0 : decide (x8_1 < (l0.length : Int)) = true := decide_eq_true c5
            clear c5
            (first | rw [c5b0] | (simp only [i64_w, i32_w]; rw [c5b0]) | skip)
            have H' := Aside0.mk H
            clear H
            go_wp2
            go_meet
            case rel => exact ⟨_, (decide ((wrap64 (x8_1 - a1)) < 6)), (by first | rfl | (simp; done) | (simp [*]; done)), H', ⟨by have := HK1.out; first | omega | exact Nat.le_refl _⟩, by repeat (first | exact Drawn0.refl _ | apply Drawn0.step)⟩
          · rw [if_neg c5] at H
            have c5b0 : decide (x8_1 < (l0.length : Int)) = false := decide_eq_false c5
            clear c5
            (first | rw [c5b0] | (simp only [i64_w, i32_w]; rw [c5b0]) | skip)
            have H' := Aside0.mk H
            clear H
            go_wp2
            go_meet
            case rel => exact ⟨_, (false), (by first | rfl | (simp; done) | (simp [*]; done)), H', ⟨by have := HK1.out; first | omega | exact Nat.le_refl _⟩, by repeat (first | exact Drawn0.refl _ | apply Drawn0.step)⟩
        case rest =>
          clear HC4
          try clear p2
          try clear c3
          try clear c3b0
          try clear c4
          try clear c5
          try clear c5b0
          try clear p2
          obtain ⟨kq, x22_3, rfl, HA, HJ3, ⟨mc3, rfl⟩⟩ := hcut
          cases kq with
          | zero => exact absurd HA.out (by simp [mooringsref01_Get.j1])
          | succ kj3 =>
            have H := HA.out
            clear HA
            simp only [mooringsref01_Get.j1] at H
            by_cases c6 : x22_3 = true
            · subst c6
              have H1 : (if 0 ≤ x8_1 then (if x8_1 < (l0.length : Int) then (if (wrap64 (rd l0 x8_1)) < 128 then (if (wrap64 (x6_1 + (wrap64 (x7_1 * (Int.tmod (wrap64 (rd l0 x8_1)) 128))))) > 1099511627776 then (some (0, (-1))) else (if (wrap64 (rd l0 x8_1)) = 0 then (if x8_1 > a1 then (some (0, (-1))) else (some (wrap64 (x6_1 + (wrap64 (x7_1 * (Int.tmod (wrap64 (rd l0 x8_1)) 128)))), wrap64 (x8_1 + 1)))) else (some (wrap64 (x6_1 + (wrap64 (x7_1 * (Int.tmod (wrap64 (rd l0 x8_1)) 128)))), wrap64 (x8_1 + 1))))) else (mooringsref01_Get.l0 kj3 l0 a1 (wrap64 (x6_1 + (wrap64 (x7_1 * (Int.tmod (wrap64 (rd l0 x8_1)) 128))))) (wrap64 (x7_1 * 128)) (wrap64 (x8_1 + 1)))) else (none)) else (none)) = some (r1, r2) := by rw [if_pos rfl] at H; exact H
              clear H
              have H := H1
              clear H1
              by_cases c7 : 0 ≤ x8_1
              · rw [if_pos c7] at H
                have c7b0 : decide (0 ≤ x8_1) = true := decide_eq_true c7
                clear c7
                by_cases c8 : x8_1 < (l0.length : Int)
                · rw [if_pos c8] at H
                  have c8b0 : decide (x8_1 < (l0.length : Int)) = true := decide_eq_true c8
                  clear c8
                  by_cases c9 : (wrap64 (rd l0 x8_1)) < 128
                  · rw [if_pos c9] at H
                    have c9b0 : decide ((wrap64 (rd l0 x8_1)) < 128) = true := decide_eq_true c9
                    clear c9
                    by_cases c10 : (wrap64 (x6_1 + (wrap64 (x7_1 * (Int.tmod (wrap64 (rd l0 x8_1)) 128))))) > 1099511627776
                    · rw [if_pos c10] at H
                      have c10b0 : decide (1099511627776 < (wrap64 (x6_1 + (wrap64 (x7_1 * (Int.tmod (wrap64 (rd l0 x8_1)) 128)))))) = true := decide_eq_true c10
                      clear c10
                      simp only [Option.some.injEq, Prod.mk.injEq] at H
                      obtain ⟨rfl, rfl⟩ := H
                      have p238 : 0 ≤ (x8_1 : Int) := of_decide_eq_true (by first | (with_reducible assumption) | assumption)
                      have q238 : x8_1 < (l0.length : Int) := of_decide_eq_true (by first | (with_reducible assumption) | assumption)
                      obtain ⟨ad238, e238, hx238_0⟩ := Kd.at_int HR0.out x8_1 p238 q238
                      cases e238
                      replace p238 := eq_true p238
                      replace q238 := eq_true q238
                      go_wp2
                      go_ret2
                      exact ⟨by first | rfl | (simp; done) | (simp [*]; done), by repeat (first | exact Drawn0.refl _ | apply Drawn0.step)⟩
                    · rw [if_neg c10] at H
                      have c10b0 : decide (1099511627776 < (wrap64 (x6_1 + (wrap64 (x7_1 * (Int.tmod (wrap64 (rd l0 x8_1)) 128)))))) = false := decide_eq_false c10
                      clear c10
                      by_cases c11 : (wrap64 (rd l0 x8_1)) = 0
                      · rw [if_pos c11] at H
                        have c11b0 : ((wrap64 (rd l0 x8_1)) == 0) = true := beq_iff_eq.mpr c11
                        have c11b1 : ((wrap64 (rd l0 x8_1)) != 0) = false := bne_eq_false_iff_eq.mpr c11
                        clear c11
                        by_cases c12 : x8_1 > a1
                        · rw [if_pos c12] at H
                          have c12b0 : decide (a1 < x8_1) = true := decide_eq_true c12
                          clear c12
                          simp only [Option.some.injEq, Prod.mk.injEq] at H
                          obtain ⟨rfl, rfl⟩ := H
                          have p238 : 0 ≤ (x8_1 : Int) := of_decide_eq_true (by first | (with_reducible assumption) | assumption)
                          have q238 : x8_1 < (l0.length : Int) := of_decide_eq_true (by first | (with_reducible assumption) | assumption)
                          obtain ⟨ad238, e238, hx238_0⟩ := Kd.at_int HR0.out x8_1 p238 q238
                          cases e238
                          replace p238 := eq_true p238
                          replace q238 := eq_true q238
                          go_wp2
                          go_ret2
                          exact ⟨by first | rfl | (simp; done) | (simp [*]; done), by repeat (first | exact Drawn0.refl _ | apply Drawn0.step)⟩
                        · rw [if_neg c12] at H
                          have c12b0 : decide (a1 < x8_1) = false := decide_eq_false c12
                          clear c12
                          simp only [Option.some.injEq, Prod.mk.injEq] at H
                          obtain ⟨rfl, rfl⟩ := H
                          have p238 : 0 ≤ (x8_1 : Int) := of_decide_eq_true (by first | (with_reducible assumption) | assumption)
                          have q238 : x8_1 < (l0.length : Int) := of_decide_eq_true (by first | (with_reducible assumption) | assumption)
                          obtain ⟨ad238, e238, hx238_0⟩ := Kd.at_int HR0.out x8_1 p238 q238
                          cases e238
                          replace p238 := eq_true p238
                          replace q238 := eq_true q238
                          go_wp2
                          go_ret2
                          exact ⟨by first | rfl | (simp; done) | (simp [*]; done), by repeat (first | exact Drawn0.refl _ | apply Drawn0.step)⟩
                      · rw [if_neg c11] at H
                        have c11b0 : ((wrap64 (rd l0 x8_1)) == 0) = false := beq_eq_false_iff_ne.mpr c11
                        have c11b1 : ((wrap64 (rd l0 x8_1)) != 0) = true := bne_iff_ne.mpr c11
                        simp only [Option.some.injEq, Prod.mk.injEq] at H
                        obtain ⟨rfl, rfl⟩ := H
                        have p238 : 0 ≤ (x8_1 : Int) := of_decide_eq_true (by first | (with_reducible assumption) | assumption)
                        have q238 : x8_1 < (l0.length : Int) := of_decide_eq_true (by first | (with_reducible assumption) | assumption)
                        obtain ⟨ad238, e238, hx238_0⟩ := Kd.at_int HR0.out x8_1 p238 q238
                        cases e238
                        replace p238 := eq_true p238
                        replace q238 := eq_true q238
                        go_wp2
                        go_ret2
                        exact ⟨by first | rfl | (simp; done) | (simp [*]; done), by repeat (first | exact Drawn0.refl _ | apply Drawn0.step)⟩
                  · rw [if_neg c9] at H
                    have c9b0 : decide ((wrap64 (rd l0 x8_1)) < 128) = false := decide_eq_false c9
                    clear c9
                    have H' := Aside0.mk H
                    clear H
                    have p238 : 0 ≤ (x8_1 : Int) := of_decide_eq_true (by first | (with_reducible assumption) | assumption)
                    have q238 : x8_1 < (l0.length : Int) := of_decide_eq_true (by first | (with_reducible assumption) | assumption)
                    obtain ⟨ad238, e238, hx238_0⟩ := Kd.at_int HR0.out x8_1 p238 q238
                    cases e238
                    replace p238 := eq_true p238
                    replace q238 := eq_true q238
                    go_wp2
                    go_roundg kj3
                    case measure => have := HK1.out; have := HJ3.out; omega
                    case rel => exact ⟨(wrap64 (x6_1 + (wrap64 (x7_1 * (Int.tmod (wrap64 (rd l0 x8_1)) 128))))), (wrap64 (x7_1 * 128)), (wrap64 (x8_1 + 1)), (by first | rfl | (simp; done) | (simp [*]; done)), (by first | rfl | (simp; done) | (simp [*]; done)), (by first | rfl | (simp; done) | (simp [*]; done)), H', ⟨by have := HK1.out; have := HJ3.out; omega⟩, by repeat (first | exact Drawn0.refl _ | apply Drawn0.step)⟩
                · rw [if_neg c8] at H
                  exact absurd H (by simp)
              · rw [if_neg c7] at H
                exact absurd H (by simp)
            · replace c6 := Bool.eq_false_iff.mpr c6
              subst c6
              have H1 : (some (0, (-1))) = some (r1, r2) := by rw [if_neg (show ¬ (false = true) by decide)] at H; exact H
              clear H
              have H := H1
              clear H1
              simp only [Option.some.injEq, Prod.mk.injEq] at H
              obtain ⟨rfl, rfl⟩ := H
              go_wp2
              go_ret2
              exact ⟨by first | rfl | (simp; done) | (simp [*]; done), by repeat (first | exact Drawn0.refl _ | apply Drawn0.step)⟩

/-! ### mooringsref01_Read: function 27 -/
def mooringsref01_Read.l0 : Nat → List Int → List Int → Int → Option (List Int × Bool)
  | 0, _, _, _ => none
  | k + 1, x0, x4, x5 => if x5 < (x0.length : Int) then ((mooringsref01_Get.f k x0 x5).bind fun bt239 => (if bt239.2 < 0 then (some (([] : List Int), false)) else (if (x4.length : Int) = 400 then (some (([] : List Int), false)) else (if x4.length < 17592186044416 then (mooringsref01_Read.l0 k x0 (x4 ++ [bt239.1]) bt239.2) else (none))))) else (some (x4, true))
def mooringsref01_Read.f (k : Nat) (l0 : List Int) : Option (List Int × Bool) := mooringsref01_Read.l0 k l0 ([] : List Int) 0
theorem mooringsref01_Read.mono_l : ∀ k, (∀ y0 y1 y2, LeO (mooringsref01_Read.l0 k y0 y1 y2) (mooringsref01_Read.l0 (k + 1) y0 y1 y2))
  | 0 => fun _ _ _ r h => by simp [mooringsref01_Read.l0] at h
  | k + 1 => by
    have ih0 := mooringsref01_Read.mono_l k
    · intro y0 y1 y2
      unfold mooringsref01_Read.l0
      repeat' first
      | (with_reducible exact ih0 _ _ _)
      | (with_reducible exact mooringsref01_Get.mono _ _ _)
      | (with_reducible exact LeO.refl _)
      | (with_reducible exact LeO.none _)
      | (with_reducible refine LeO.ite ?_ ?_)
      | (with_reducible refine LeO.bind ?_ (fun _ => ?_))
      | exact ih0 _ _ _
      | exact mooringsref01_Get.mono _ _ _
      | exact LeO.none _
      | refine LeO.ite ?_ ?_
      | refine LeO.bind ?_ (fun _ => ?_)
theorem mooringsref01_Read.mono : ∀ a0 k, LeO (mooringsref01_Read.f k a0) (mooringsref01_Read.f (k + 1) a0) := by
  intro a0 k
  have ih0 := mooringsref01_Read.mono_l k
  unfold mooringsref01_Read.f
  repeat' first
      | (with_reducible exact ih0 _ _ _)
      | (with_reducible exact mooringsref01_Get.mono _ _ _)
      | (with_reducible exact LeO.refl _)
      | (with_reducible exact LeO.none _)
      | (with_reducible refine LeO.ite ?_ ?_)
      | (with_reducible refine LeO.bind ?_ (fun _ => ?_))
      | exact ih0 _ _ _
      | exact mooringsref01_Get.mono _ _ _
      | exact LeO.none _
      | refine LeO.ite ?_ ?_
      | refine LeO.bind ?_ (fun _ => ?_)
set_option maxHeartbeats 8000000 in
set_option maxRecDepth 100000 in
theorem mooringsref01_Read.calls (k : Nat) (A0 : Option Addr) (c0 : Nat) (l0 : List Int) (r1 : List Int) (r2 : Bool) (w : World) (hr0 : Kd.C (Kd.int .u8) w A0 l0.length l0) (hc0 : l0.length ≤ c0) (h : mooringsref01_Read.f k l0 = some (r1, r2)) :
    Calls Try.prog 27 #[.slice A0 l0.length c0] w fun e w' => ∃ v0_ : Value, e = .returned (.tuple #[v0_, .bool r2]) ∧ Kd.R (Kd.int .i64) 3 w' w.heap.size (fun _ => True) v0_ r1 ∧ Below w.heap.size w w' := by
  have HR0 := Aside0.mk hr0
  have HC0 := Aside0.mk hc0
  clear hr0 hc0
  have HB := Aside0.mk (Below.refl w.heap.size w)
  have H : (mooringsref01_Read.l0 k l0 ([] : List Int) 0) = some (r1, r2) := h
  clear h
  have H' := Aside0.mk H
  clear H
  go_enter Try.func27, Try.ntmps27
  go_wp2
  go_loopg [4, 5] k (fun kq v4 v5 w' => ∃ (x4_1 : List Int) (x5_1 : Int), v5 = .int .i64 x5_1 ∧ Aside0 (mooringsref01_Read.l0 kq l0 x4_1 x5_1 = some (r1, r2)) ∧ Aside0 (kq ≤ k) ∧ Aside0 (Kd.R (Kd.int .i64) 3 w' w.heap.size (fun _ => True) v4 x4_1) ∧ Aside0 (Below w.heap.size w w'))
  case atStart => exact ⟨(([] : List Int)), (0), (by first | rfl | (simp; done) | (simp [*]; done)), H', ⟨Nat.le_refl _⟩, ⟨by first | exact Kd.R_nil _ _ _ _ _ | exact Kd.N_nil _ _ _ _ _ | exact Kd.V_nil _ _ _ _ _ | exact Kd.Q_nil _ _ _ _ _ | exact Kd.S_nil _ _ _ _ _⟩, ⟨by repeat (first | (with_reducible first | exact HB.out | apply below_alloc | apply pw_below_drewN | apply below_drew1) | exact HB.out)⟩⟩
  case round =>
    clear H'
    obtain ⟨x4_1, x5_1, rfl, HA, HK1, HO_4, HB⟩ := hrel
    cases gk with
    | zero => exact absurd HA.out (by simp [mooringsref01_Read.l0])
    | succ k1 =>
      have H := HA.out
      clear HA
      simp only [mooringsref01_Read.l0] at H
      by_cases c2 : x5_1 < (l0.length : Int)
      · rw [if_pos c2] at H
        have c2b0 : decide (x5_1 < (l0.length : Int)) = true := decide_eq_true c2
        clear c2
        replace H := Option.bind_eq_some_iff.mp H
        obtain ⟨⟨t239, t240⟩, A30, H⟩ := H
        replace H : (if t240 < 0 then (some (([] : List Int), false)) else (if (x4_1.length : Int) = 400 then (some (([] : List Int), false)) else (if x4_1.length < 17592186044416 then (mooringsref01_Read.l0 k1 l0 (x4_1 ++ [t239]) t240) else (none)))) = some (r1, r2) := H
        have A3 := Aside0.mk A30
        clear A30
        by_cases c4 : t240 < 0
        · rw [if_pos c4] at H
          have c4b0 : decide (t240 < 0) = true := decide_eq_true c4
          clear c4
          simp only [Option.some.injEq, Prod.mk.injEq] at H
          obtain ⟨rfl, rfl⟩ := H
          go_wp2_with (first | ((with_reducible refine gate_callee (f := 41) rfl ?_); refine goesL_ (some 15) rfl rfl Try.func41 (by kernel_rfl) rfl #[.slice A0 l0.length c0, .int .i64 x5_1] rfl (by (try simp only [List.map_toArray, List.map_cons, List.map_nil]); first | done | rfl | (simp only [List.length_drop, List.length_take]; rfl)) ?_; (with_reducible refine (mooringsref01_Get.calls k1 _ _ l0 x5_1 t239 t240 _ ?side1 ?side2 A3.out).mono ?_); (case side1 => repeat (first | exact (Kd.C_below HR0.out HB.out) | (with_reducible refine Kd.C_alloc ?_ _) | (with_reducible refine Kd.C_drewN ?_ _) | (with_reducible refine Kd.C_drew ?_))); (case side2 => exact HC0.out); rintro e w' ⟨rfl, ⟨nd, rfl⟩⟩; refine ⟨_, rfl, ?_⟩))
          go_ret2
          exact ⟨_, by first | rfl | (simp [errW_none, errW_some] <;> rfl) | (simp [*, errW_none, errW_some] <;> rfl), by first | exact Kd.R_nil _ _ _ _ _ | exact Kd.N_nil _ _ _ _ _ | exact Kd.V_nil _ _ _ _ _ | exact Kd.Q_nil _ _ _ _ _ | exact Kd.S_nil _ _ _ _ _, by repeat (first | (with_reducible first | exact HB.out | apply below_alloc | apply pw_below_drewN | apply below_drew1) | exact HB.out)⟩
        · rw [if_neg c4] at H
          have c4b0 : decide (t240 < 0) = false := decide_eq_false c4
          clear c4
          by_cases c5 : (x4_1.length : Int) = 400
          · rw [if_pos c5] at H
            have c5b0 : ((x4_1.length : Int) == 400) = true := beq_iff_eq.mpr c5
            have c5b1 : ((x4_1.length : Int) != 400) = false := bne_eq_false_iff_eq.mpr c5
            clear c5
            simp only [Option.some.injEq, Prod.mk.injEq] at H
            obtain ⟨rfl, rfl⟩ := H
            go_wp2_with (first | ((with_reducible refine gate_callee (f := 41) rfl ?_); refine goesL_ (some 15) rfl rfl Try.func41 (by kernel_rfl) rfl #[.slice A0 l0.length c0, .int .i64 x5_1] rfl (by (try simp only [List.map_toArray, List.map_cons, List.map_nil]); first | done | rfl | (simp only [List.length_drop, List.length_take]; rfl)) ?_; (with_reducible refine (mooringsref01_Get.calls k1 _ _ l0 x5_1 t239 t240 _ ?side1 ?side2 A3.out).mono ?_); (case side1 => repeat (first | exact (Kd.C_below HR0.out HB.out) | (with_reducible refine Kd.C_alloc ?_ _) | (with_reducible refine Kd.C_drewN ?_ _) | (with_reducible refine Kd.C_drew ?_))); (case side2 => exact HC0.out); rintro e w' ⟨rfl, ⟨nd, rfl⟩⟩; refine ⟨_, rfl, ?_⟩; obtain ⟨Ao6, co6, eo6⟩ := Kd.R_slice HO_4.out; subst eo6))
            go_ret2
            exact ⟨_, by first | rfl | (simp [errW_none, errW_some] <;> rfl) | (simp [*, errW_none, errW_some] <;> rfl), by first | exact Kd.R_nil _ _ _ _ _ | exact Kd.N_nil _ _ _ _ _ | exact Kd.V_nil _ _ _ _ _ | exact Kd.Q_nil _ _ _ _ _ | exact Kd.S_nil _ _ _ _ _, by repeat (first | (with_reducible first | exact HB.out | apply below_alloc | apply pw_below_drewN | apply below_drew1) | exact HB.out)⟩
          · rw [if_neg c5] at H
            have c5b0 : ((x4_1.length : Int) == 400) = false := beq_eq_false_iff_ne.mpr c5
            have c5b1 : ((x4_1.length : Int) != 400) = true := bne_iff_ne.mpr c5
            by_cases c7 : x4_1.length < 17592186044416
            · rw [if_pos c7] at H
              have LMc7 := Aside0.mk c7
              clear c7
              obtain ⟨y241, hy241⟩ : ∃ y_ : List Int, y_ = (x4_1 ++ [t239]) := ⟨_, rfl⟩
              replace H : (mooringsref01_Read.l0 k1 l0 y241 t240) = some (r1, r2) := by first | (rw [hy241]; with_reducible exact H) | (have H2_ := (Option.bind_some _ _).symm.trans H; rw [hy241]; with_reducible exact H2_) | (have H2_ := (Option.bind_some _ _).symm.trans H; with_reducible exact H2_) | with_reducible exact H | (rw [hy241]; exact H) | exact H
              have Ny241 := Aside0.mk hy241
              clear hy241
              have H' := Aside0.mk H
              clear H
              go_wp2_with (first | ((with_reducible refine gate_callee (f := 41) rfl ?_); refine goesL_ (some 15) rfl rfl Try.func41 (by kernel_rfl) rfl #[.slice A0 l0.length c0, .int .i64 x5_1] rfl (by (try simp only [List.map_toArray, List.map_cons, List.map_nil]); first | done | rfl | (simp only [List.length_drop, List.length_take]; rfl)) ?_; (with_reducible refine (mooringsref01_Get.calls k1 _ _ l0 x5_1 t239 t240 _ ?side1 ?side2 A3.out).mono ?_); (case side1 => repeat (first | exact (Kd.C_below HR0.out HB.out) | (with_reducible refine Kd.C_alloc ?_ _) | (with_reducible refine Kd.C_drewN ?_ _) | (with_reducible refine Kd.C_drew ?_))); (case side2 => exact HC0.out); rintro e w' ⟨rfl, ⟨nd, rfl⟩⟩; refine ⟨_, rfl, ?_⟩; obtain ⟨Ao8, co8, eo8⟩ := Kd.R_slice HO_4.out; subst eo8) | ((with_reducible refine gate_builtin (b := .append) (xs := #[.tmp 25, .tmp 27]) rfl ?_); (try (refine gate_guard (by rfl) ?_; dsimp only)); at_builtin; refine Kd.R_append (Kd.int .i64) (w0 := w) w.heap.size rfl (.tmp 25) (.tmp 27) 40 3 (.int .i64 0) 8 rfl Try.underlying40 info3 rfl (by decide) (by omega) (.slice Ao8 x4_1.length co8) x4_1 t239 [.int .i64 t239] (fun _ => True) (fun _ => False) rfl rfl ?aP (fun _ hk => hk.elim) ?aF ?aO ?aB ?aS ?aL ?_; (case aP => exact rfl); (case aB => exact (by repeat (first | (with_reducible first | exact HB.out | apply below_alloc | apply pw_below_drewN | apply below_drew1) | exact HB.out))); (case aF => exact (fun _ _ => trivial)); (case aO => exact (by (with_reducible repeat (first | apply Kd.R_alloc | apply Kd.R_drewN | apply Kd.R_drew)); exact HO_4.out)); (case aS => exact (below_size (by repeat (first | (with_reducible first | exact HB.out | apply below_alloc | apply pw_below_drewN | apply below_drew1) | exact HB.out)))); (case aL => have := LMc7.out; omega); intro v242 w9 ho hb hg hat; rw [← Ny241.out] at ho; have n0_ := Aside0.mk (hb); have n1_ := Aside0.mk (ho); clear HB; clear HO_4; have HB := n0_; have HO243 := n1_; clear n0_ n1_; clear ho hb hg hat))
              go_roundg k1
              case measure => have := HK1.out; omega
              case rel => exact ⟨(y241), (t240), (by first | rfl | (simp; done) | (simp [*]; done)), H', ⟨by have := HK1.out; omega⟩, ⟨by (with_reducible repeat (first | apply Kd.R_alloc | apply Kd.R_drewN | apply Kd.R_drew)); exact HO243.out⟩, ⟨by repeat (first | (with_reducible first | exact HB.out | apply below_alloc | apply pw_below_drewN | apply below_drew1) | exact HB.out)⟩⟩
            · rw [if_neg c7] at H
              exact absurd H (by simp)
      · rw [if_neg c2] at H
        have c2b0 : decide (x5_1 < (l0.length : Int)) = false := decide_eq_false c2
        clear c2
        simp only [Option.some.injEq, Prod.mk.injEq] at H
        obtain ⟨rfl, rfl⟩ := H
        go_wp2
        go_ret2
        exact ⟨_, by first | rfl | (simp [errW_none, errW_some] <;> rfl) | (simp [*, errW_none, errW_some] <;> rfl), by (with_reducible repeat (first | apply Kd.R_alloc | apply Kd.R_drewN | apply Kd.R_drew)); exact HO_4.out, by repeat (first | (with_reducible first | exact HB.out | apply below_alloc | apply pw_below_drewN | apply below_drew1) | exact HB.out)⟩

end Go.Proofs.Ytodjlacbjcbafaa.B
