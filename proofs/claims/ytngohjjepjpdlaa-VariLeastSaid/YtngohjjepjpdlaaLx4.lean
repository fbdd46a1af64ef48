/- Functions and laws of the program moorings: contracts of the Go functions, and, in a text named ..Law.., that the law returns true at every input that its row lets in. No conditions but those stated. Written for this claim by a run of the printer with some functions given (wip/myprint.sh). -/
import Derived.Test.YtngohjjepjpdlaaLx0
namespace Go.Proofs.Ytngohjjepjpdlaa.L
open Go.RowKit Go.Proofs.YtngohjjepjpdlaaW.PrintWords Go.Proofs.YtngohjjepjpdlaaW.PrintLast Go.Proofs.Ytngohjjepjpdlaa.H Go.Proofs.YtngohjjepjpdlaaW.PrintMore
attribute [local go_sem] max2_int min2_int max_two min_two max_three min_three max_four min_four   -- for this text's walks alone
set_option linter.unusedVariables false
set_option linter.unusedSimpArgs false

/-! ### mooringslaw01_VariLeast: function 6 -/
mutual
def mooringslaw01_VariLeast.j0 : Nat → Int → Int → Int → Bool → List Int → List Int → Bool → Option (Bool)
  | 0, _, _, _, _, _, _, _ => none
  | k + 1, x0, x1, x2, x7, x8, x9, x28 => if x28 = true then (some x7) else (if x0 ≤ x1 then (if (x8.length : Int) > (x9.length : Int) then (mooringslaw01_VariLeast.j1 k x2 x8 true) else (mooringslaw01_VariLeast.j1 k x2 x8 (((strOfNums x8).toList == (strOfNums x9).toList) != (x0 == x1)))) else (mooringslaw01_VariLeast.j1 k x2 x8 (((strOfNums x8).toList == (strOfNums x9).toList) != (x0 == x1))))
def mooringslaw01_VariLeast.j1 : Nat → Int → List Int → Bool → Option (Bool)
  | 0, _, _, _ => none
  | k + 1, x2, x8, x50 => if x50 = true then (some false) else (if x2 < 0 then (some true) else (if x2 ≥ (x8.length : Int) then (some true) else (if 0 ≤ x2 then (if x2 ≤ (x8.length : Int) then ((vari_Get.f (x8.take (x2 : Int).toNat) 0).bind fun bt193 => (some (bt193.2 == (-1)))) else (none)) else (none))))
end
def mooringslaw01_VariLeast.f (k : Nat) (a0 : Int) (a1 : Int) (a2 : Int) : Option (Bool) := (mooringslaw01_awake.f).bind fun t182 => ((vari_Put.f a0).bind fun t183 => ((vari_Put.f a1).bind fun t186 => (if t182 = true then (if (t183.length : Int) = 0 then (mooringslaw01_VariLeast.j0 k a0 a1 a2 t182 t183 t186 true) else (mooringslaw01_VariLeast.j0 k a0 a1 a2 t182 t183 t186 ((t186.length : Int) == 0))) else (mooringslaw01_VariLeast.j0 k a0 a1 a2 t182 t183 t186 true))))
theorem mooringslaw01_VariLeast.mono_l : ∀ k, (∀ y0 y1 y2 y3 y4 y5 y6, LeO (mooringslaw01_VariLeast.j0 k y0 y1 y2 y3 y4 y5 y6) (mooringslaw01_VariLeast.j0 (k + 1) y0 y1 y2 y3 y4 y5 y6)) ∧ (∀ y0 y1 y2, LeO (mooringslaw01_VariLeast.j1 k y0 y1 y2) (mooringslaw01_VariLeast.j1 (k + 1) y0 y1 y2))
  | 0 => ⟨fun _ _ _ _ _ _ _ r h => by simp [mooringslaw01_VariLeast.j0] at h, fun _ _ _ r h => by simp [mooringslaw01_VariLeast.j1] at h⟩
  | k + 1 => by
    obtain ⟨ih0, ih1⟩ := mooringslaw01_VariLeast.mono_l k
    refine ⟨?_, ?_⟩
    · intro y0 y1 y2 y3 y4 y5 y6
      unfold mooringslaw01_VariLeast.j0
      repeat' first
      | (with_reducible exact ih0 _ _ _ _ _ _ _)
      | (with_reducible exact ih1 _ _ _)
      | (with_reducible exact LeO.refl _)
      | (with_reducible exact LeO.none _)
      | (with_reducible refine LeO.ite ?_ ?_)
      | (with_reducible refine LeO.bind ?_ (fun _ => ?_))
      | exact ih0 _ _ _ _ _ _ _
      | exact ih1 _ _ _
      | exact LeO.none _
      | refine LeO.ite ?_ ?_
      | refine LeO.bind ?_ (fun _ => ?_)
    · intro y0 y1 y2
      unfold mooringslaw01_VariLeast.j1
      repeat' first
      | (with_reducible exact ih0 _ _ _ _ _ _ _)
      | (with_reducible exact ih1 _ _ _)
      | (with_reducible exact LeO.refl _)
      | (with_reducible exact LeO.none _)
      | (with_reducible refine LeO.ite ?_ ?_)
      | (with_reducible refine LeO.bind ?_ (fun _ => ?_))
      | exact ih0 _ _ _ _ _ _ _
      | exact ih1 _ _ _
      | exact LeO.none _
      | refine LeO.ite ?_ ?_
      | refine LeO.bind ?_ (fun _ => ?_)
theorem mooringslaw01_VariLeast.mono : ∀ a0 a1 a2 k, LeO (mooringslaw01_VariLeast.f k a0 a1 a2) (mooringslaw01_VariLeast.f (k + 1) a0 a1 a2) := by
  intro a0 a1 a2 k
  obtain ⟨ih0, ih1⟩ := mooringslaw01_VariLeast.mono_l k
  unfold mooringslaw01_VariLeast.f
  repeat' first
      | (with_reducible exact ih0 _ _ _ _ _ _ _)
      | (with_reducible exact ih1 _ _ _)
      | (with_reducible exact LeO.refl _)
      | (with_reducible exact LeO.none _)
      | (with_reducible refine LeO.ite ?_ ?_)
      | (with_reducible refine LeO.bind ?_ (fun _ => ?_))
      | exact ih0 _ _ _ _ _ _ _
      | exact ih1 _ _ _
      | exact LeO.none _
      | refine LeO.ite ?_ ?_
      | refine LeO.bind ?_ (fun _ => ?_)
set_option maxHeartbeats 8000000 in
set_option maxRecDepth 100000 in
theorem mooringslaw01_VariLeast.calls (k : Nat) (a0 : Int) (a1 : Int) (a2 : Int) (r : Bool) (w : World) (h : mooringslaw01_VariLeast.f k a0 a1 a2 = some r) :
    Calls Try.prog 6 #[.int .i64 a0, .int .i64 a1, .int .i64 a2] w fun e w' => e = .returned (.bool r) ∧ Below w.heap.size w w' := by
  have HB := Aside0.mk (Below.refl w.heap.size w)
  have H : ((mooringslaw01_awake.f).bind fun t182 => ((vari_Put.f a0).bind fun t183 => ((vari_Put.f a1).bind fun t186 => (if t182 = true then (if (t183.length : Int) = 0 then (mooringslaw01_VariLeast.j0 k a0 a1 a2 t182 t183 t186 true) else (mooringslaw01_VariLeast.j0 k a0 a1 a2 t182 t183 t186 ((t186.length : Int) == 0))) else (mooringslaw01_VariLeast.j0 k a0 a1 a2 t182 t183 t186 true))))) = some r := h
  clear h
  replace H := Option.bind_eq_some_iff.mp H
  obtain ⟨t182, A40, H⟩ := H
  replace H : ((vari_Put.f a0).bind fun t183 => ((vari_Put.f a1).bind fun t186 => (if t182 = true then (if (t183.length : Int) = 0 then (mooringslaw01_VariLeast.j0 k a0 a1 a2 t182 t183 t186 true) else (mooringslaw01_VariLeast.j0 k a0 a1 a2 t182 t183 t186 ((t186.length : Int) == 0))) else (mooringslaw01_VariLeast.j0 k a0 a1 a2 t182 t183 t186 true)))) = some r := H
  have A4 := Aside0.mk A40
  clear A40
  replace H := Option.bind_eq_some_iff.mp H
  obtain ⟨t183, A50, H⟩ := H
  replace H : ((vari_Put.f a1).bind fun t186 => (if t182 = true then (if (t183.length : Int) = 0 then (mooringslaw01_VariLeast.j0 k a0 a1 a2 t182 t183 t186 true) else (mooringslaw01_VariLeast.j0 k a0 a1 a2 t182 t183 t186 ((t186.length : Int) == 0))) else (mooringslaw01_VariLeast.j0 k a0 a1 a2 t182 t183 t186 true))) = some r := H
  have A5 := Aside0.mk A50
  clear A50
  replace H := Option.bind_eq_some_iff.mp H
  obtain ⟨t186, A60, H⟩ := H
  replace H : (if t182 = true then (if (t183.length : Int) = 0 then (mooringslaw01_VariLeast.j0 k a0 a1 a2 t182 t183 t186 true) else (mooringslaw01_VariLeast.j0 k a0 a1 a2 t182 t183 t186 ((t186.length : Int) == 0))) else (mooringslaw01_VariLeast.j0 k a0 a1 a2 t182 t183 t186 true)) = some r := H
  have A6 := Aside0.mk A60
  clear A60
  have HC7 := Aside0.mk H
  clear H
  go_enter Try.func6, Try.ntmps6
  go_upto_region 4 with (first | ((with_reducible refine gate_callee (f := 9) rfl ?_); refine goesL_ (some 12) rfl rfl Try.func9 (by kernel_rfl) rfl #[] rfl (by (try simp only [List.map_toArray, List.map_cons, List.map_nil]); first | done | rfl | (simp only [List.length_drop, List.length_take]; rfl)) ?_; (with_reducible refine (mooringslaw01_awake.calls  t182 _ A4.out).mono ?_); rintro e w8 ⟨rfl, hb⟩; refine ⟨_, rfl, ?_⟩; have n0_ := Aside0.mk (below_step (by repeat (first | (with_reducible first | exact HB.out | apply below_alloc | apply pw_below_drewN | apply below_drew1) | exact HB.out)) hb); clear HB; have HB := n0_; clear n0_; (try clear hb); (try clear hb2); (try clear hk); (try clear hi)) | ((with_reducible refine gate_callee (f := 17) rfl ?_); refine goesL_ (some 14) rfl rfl Try.func17 (by kernel_rfl) rfl #[.int .i64 a0] rfl (by (try simp only [List.map_toArray, List.map_cons, List.map_nil]); first | done | rfl | (simp only [List.length_drop, List.length_take]; rfl)) ?_; (with_reducible refine (vari_Put.calls a0 t183 _ A5.out).mono ?_); rintro e w9 ⟨v184, rfl, ho0, hb⟩; refine ⟨_, rfl, ?_⟩; have n0_ := Aside0.mk (Kd.R_lower ho0 (below_size (by repeat (first | (with_reducible first | exact HB.out | apply below_alloc | apply pw_below_drewN | apply below_drew1) | exact HB.out)))); have n1_ := Aside0.mk (below_step (by repeat (first | (with_reducible first | exact HB.out | apply below_alloc | apply pw_below_drewN | apply below_drew1) | exact HB.out)) hb); clear HB; have HO185 := n0_; have HB := n1_; clear n0_ n1_; (try clear hb); (try clear hb2); (try clear hk); (try clear hi); (try clear ho0)) | ((with_reducible refine gate_callee (f := 17) rfl ?_); refine goesL_ (some 16) rfl rfl Try.func17 (by kernel_rfl) rfl #[.int .i64 a1] rfl (by (try simp only [List.map_toArray, List.map_cons, List.map_nil]); first | done | rfl | (simp only [List.length_drop, List.length_take]; rfl)) ?_; (with_reducible refine (vari_Put.calls a1 t186 _ A6.out).mono ?_); rintro e w10 ⟨v187, rfl, ho0, hb⟩; refine ⟨_, rfl, ?_⟩; have n0_ := Aside0.mk (Kd.R_elder' (by (with_reducible repeat (first | apply Kd.R_alloc | apply Kd.R_drewN | apply Kd.R_drew)); exact HO185.out) (Kd.R_base ho0) hb); have n1_ := Aside0.mk (Kd.R_lower (Kd.R_new' ho0 (Kd.R_lt (by (with_reducible repeat (first | apply Kd.R_alloc | apply Kd.R_drewN | apply Kd.R_drew)); exact HO185.out))) (below_size (by repeat (first | (with_reducible first | exact HB.out | apply below_alloc | apply pw_below_drewN | apply below_drew1) | exact HB.out)))); have n2_ := Aside0.mk (below_step (by repeat (first | (with_reducible first | exact HB.out | apply below_alloc | apply pw_below_drewN | apply below_drew1) | exact HB.out)) hb); clear HO185; clear HB; have HO185 := n0_; have HO188 := n1_; have HB := n2_; clear n0_ n1_ n2_; (try clear hb); (try clear hb2); (try clear hk); (try clear hi); (try clear ho0)))
  (try simp only [Act.put, List.setIfInBounds_toArray, List.set_cons_zero, List.set_cons_succ])
  go_cut [28] (fun v28 wc => ∃ (kq : Nat) (x28_6 : Bool), v28 = .bool x28_6 ∧ Aside0 (mooringslaw01_VariLeast.j0 kq a0 a1 a2 t182 t183 t186 x28_6 = some r) ∧ Aside0 (kq ≤ k) ∧ Aside0 (Kd.R (Kd.int .u8) 5 wc w.heap.size (fun k_ => some k_ ≠ (v187 : Value).ownBlock) v184 t183) ∧ Aside0 (Kd.R (Kd.int .u8) 5 wc w.heap.size (fun k_ => some k_ ≠ (v184 : Value).ownBlock) v187 t186) ∧ Aside0 (Below w.heap.size w wc))
  case first =>
    have H := HC7.out
    clear HC7
    by_cases c11 : t182 = true
    · subst c11
      have H1 : (if (t183.length : Int) = 0 then (mooringslaw01_VariLeast.j0 k a0 a1 a2 true t183 t186 true) else (mooringslaw01_VariLeast.j0 k a0 a1 a2 true t183 t186 ((t186.length : Int) == 0))) = some r := by rw [if_pos rfl] at H; exact H
      clear H
      have H := H1
      clear H1
      by_cases c12 : (t183.length : Int) = 0
      · rw [if_pos c12] at H
        have c12b0 : ((t183.length : Int) == 0) = true := beq_iff_eq.mpr c12
        have c12b1 : ((t183.length : Int) != 0) = false := bne_eq_false_iff_eq.mpr c12
        clear c12
        (first | rw [c12b0] | (simp only [i64_w, i32_w]; rw [c12b0]) | skip)
        have H' := Aside0.mk H
        clear H
        obtain ⟨Ao13, co13, eo13⟩ := Kd.R_slice HO185.out
        subst eo13
        go_wp2
        go_meet
        case rel => exact ⟨_, (true), (by first | rfl | (simp; done) | (simp [*]; done)), H', ⟨by first | omega | exact Nat.le_refl _⟩, ⟨by (with_reducible repeat (first | apply Kd.R_alloc | apply Kd.R_drewN | apply Kd.R_drew)); exact Kd.R_mono HO185.out (fun _ hk => hk.2)⟩, ⟨by (with_reducible repeat (first | apply Kd.R_alloc | apply Kd.R_drewN | apply Kd.R_drew)); exact Kd.R_mono HO188.out (fun _ hk => hk.2)⟩, ⟨by repeat (first | (with_reducible first | exact HB.out | apply below_alloc | apply pw_below_drewN | apply below_drew1) | exact HB.out)⟩⟩
      · rw [if_neg c12] at H
        have c12b0 : ((t183.length : Int) == 0) = false := beq_eq_false_iff_ne.mpr c12
        have c12b1 : ((t183.length : Int) != 0) = true := bne_iff_ne.mpr c12
        have c12b2 : ¬ (t183 = []) := fun h_ => c12 (by rw [h_]; rfl)
        (first | rw [c12b0] | (simp only [i64_w, i32_w]; rw [c12b0]) | skip)
        have H' := Aside0.mk H
        clear H
        obtain ⟨Ao14, co14, eo14⟩ := Kd.R_slice HO185.out
        subst eo14
        obtain ⟨Ao15, co15, eo15⟩ := Kd.R_slice HO188.out
        subst eo15
        go_wp2
        go_meet
        case rel => exact ⟨_, (((t186.length : Int) == 0)), (by first | rfl | (simp; done) | (simp [*]; done)), H', ⟨by first | omega | exact Nat.le_refl _⟩, ⟨by (with_reducible repeat (first | apply Kd.R_alloc | apply Kd.R_drewN | apply Kd.R_drew)); exact Kd.R_mono HO185.out (fun _ hk => hk.2)⟩, ⟨by (with_reducible repeat (first | apply Kd.R_alloc | apply Kd.R_drewN | apply Kd.R_drew)); exact Kd.R_mono HO188.out (fun _ hk => hk.2)⟩, ⟨by repeat (first | (with_reducible first | exact HB.out | apply below_alloc | apply pw_below_drewN | apply below_drew1) | exact HB.out)⟩⟩
    · replace c11 := Bool.eq_false_iff.mpr c11
      subst c11
      have H1 : (mooringslaw01_VariLeast.j0 k a0 a1 a2 false t183 t186 true) = some r := by rw [if_neg (show ¬ (false = true) by decide)] at H; exact H
      clear H
      have H := H1
      clear H1
      have H' := Aside0.mk H
      clear H
      go_wp2
      go_meet
      case rel => exact ⟨_, (true), (by first | rfl | (simp; done) | (simp [*]; done)), H', ⟨by first | omega | exact Nat.le_refl _⟩, ⟨by (with_reducible repeat (first | apply Kd.R_alloc | apply Kd.R_drewN | apply Kd.R_drew)); exact Kd.R_mono HO185.out (fun _ hk => hk.2)⟩, ⟨by (with_reducible repeat (first | apply Kd.R_alloc | apply Kd.R_drewN | apply Kd.R_drew)); exact Kd.R_mono HO188.out (fun _ hk => hk.2)⟩, ⟨by repeat (first | (with_reducible first | exact HB.out | apply below_alloc | apply pw_below_drewN | apply below_drew1) | exact HB.out)⟩⟩
  case rest =>
    clear HC7
    try clear c1
    try clear p2
    try clear c6
    try clear c9
    try clear c11
    try clear c12
    try clear c12b0
    try clear c12b1
    try clear c12b2
    obtain ⟨kq, x28_6, rfl, HA, HJ6, HO_8, HO_9, HB⟩ := hcut
    cases kq with
    | zero => exact absurd HA.out (by simp [mooringslaw01_VariLeast.j0])
    | succ kj6 =>
      have H := HA.out
      clear HA
      simp only [mooringslaw01_VariLeast.j0] at H
      by_cases c16 : x28_6 = true
      · subst c16
        have H1 : (some t182) = some r := by rw [if_pos rfl] at H; exact H
        clear H
        have H := H1
        clear H1
        obtain rfl := Option.some.inj H
        go_wp2
        go_ret
        exact ⟨by first | rfl | (simp [errW_none, errW_some] <;> rfl) | (simp [*, errW_none, errW_some] <;> rfl), by repeat (first | (with_reducible first | exact HB.out | apply below_alloc | apply pw_below_drewN | apply below_drew1) | exact HB.out)⟩
      · replace c16 := Bool.eq_false_iff.mpr c16
        subst c16
        have H1 : (if a0 ≤ a1 then (if (t183.length : Int) > (t186.length : Int) then (mooringslaw01_VariLeast.j1 kj6 a2 t183 true) else (mooringslaw01_VariLeast.j1 kj6 a2 t183 (((strOfNums t183).toList == (strOfNums t186).toList) != (a0 == a1)))) else (mooringslaw01_VariLeast.j1 kj6 a2 t183 (((strOfNums t183).toList == (strOfNums t186).toList) != (a0 == a1)))) = some r := by rw [if_neg (show ¬ (false = true) by decide)] at H; exact H
        clear H
        have H := H1
        clear H1
        have HC17 := Aside0.mk H
        clear H
        go_upto_region 6 with (fail)
        go_cut [50] (fun v50 wc => ∃ (kq : Nat) (x50_16 : Bool), v50 = .bool x50_16 ∧ Aside0 (mooringslaw01_VariLeast.j1 kq a2 t183 x50_16 = some r) ∧ Aside0 (kq ≤ kj6) ∧ Aside0 (Kd.R (Kd.int .u8) 5 wc w.heap.size (fun _ => True) v184 t183) ∧ Aside0 (Below w.heap.size w wc))
        case first =>
          have H := HC17.out
          clear HC17
          by_cases c18 : a0 ≤ a1
          · rw [if_pos c18] at H
            have c18b0 : decide (a0 ≤ a1) = true := decide_eq_true c18
            clear c18
            (first | rw [c18b0] | (simp only [i64_w, i32_w]; rw [c18b0]) | skip)
            by_cases c19 : (t183.length : Int) > (t186.length : Int)
            · rw [if_pos c19] at H
              have c19b0 : decide ((t186.length : Int) < (t183.length : Int)) = true := decide_eq_true c19
              have c19b1 : decide (t186.length < t183.length) = true := decide_eq_true (Int.ofNat_lt.mp c19)
              clear c19
              have H' := Aside0.mk H
              clear H
              obtain ⟨Ao20, co20, eo20⟩ := Kd.R_slice HO_8.out
              subst eo20
              obtain ⟨Ao21, co21, eo21⟩ := Kd.R_slice HO_9.out
              subst eo21
              go_wp2
              go_meet
              case rel => exact ⟨_, (true), (by first | rfl | (simp; done) | (simp [*]; done)), H', ⟨by have := HJ6.out; first | omega | exact Nat.le_refl _⟩, ⟨by (with_reducible repeat (first | apply Kd.R_alloc | apply Kd.R_drewN | apply Kd.R_drew)); exact Kd.R_mono HO_8.out (fun _ hk => trivial)⟩, ⟨by repeat (first | (with_reducible first | exact HB.out | apply below_alloc | apply pw_below_drewN | apply below_drew1) | exact HB.out)⟩⟩
            · rw [if_neg c19] at H
              have c19b0 : decide ((t186.length : Int) < (t183.length : Int)) = false := decide_eq_false c19
              have c19b1 : decide (t186.length < t183.length) = false := decide_eq_false (fun h => c19 (Int.ofNat_lt.mpr h))
              clear c19
              have H' := Aside0.mk H
              clear H
              obtain ⟨Ao22, co22, eo22⟩ := Kd.R_slice HO_8.out
              subst eo22
              obtain ⟨Ao23, co23, eo23⟩ := Kd.R_slice HO_9.out
              subst eo23
              have hcv24 := own_string (P := Try.prog) Try.underlying22 Try.underlying5 Try.underlying9 (Kd.own_of_R HO_8.out)
              have hcv25 := own_string (P := Try.prog) Try.underlying22 Try.underlying5 Try.underlying9 (Kd.own_of_R HO_9.out)
              go_wp2
              go_meet
              case rel => exact ⟨_, ((((strOfNums t183).toList == (strOfNums t186).toList) != (a0 == a1))), (by first | rfl | (simp; done) | (simp [*]; done)), H', ⟨by have := HJ6.out; first | omega | exact Nat.le_refl _⟩, ⟨by (with_reducible repeat (first | apply Kd.R_alloc | apply Kd.R_drewN | apply Kd.R_drew)); exact Kd.R_mono HO_8.out (fun _ hk => trivial)⟩, ⟨by repeat (first | (with_reducible first | exact HB.out | apply below_alloc | apply pw_below_drewN | apply below_drew1) | exact HB.out)⟩⟩
          · rw [if_neg c18] at H
            have c18b0 : decide (a0 ≤ a1) = false := decide_eq_false c18
            clear c18
            (first | rw [c18b0] | (simp only [i64_w, i32_w]; rw [c18b0]) | skip)
            have H' := Aside0.mk H
            clear H
            have hcv26 := own_string (P := Try.prog) Try.underlying22 Try.underlying5 Try.underlying9 (Kd.own_of_R HO_8.out)
            have hcv27 := own_string (P := Try.prog) Try.underlying22 Try.underlying5 Try.underlying9 (Kd.own_of_R HO_9.out)
            go_wp2
            go_meet
            case rel => exact ⟨_, ((((strOfNums t183).toList == (strOfNums t186).toList) != (a0 == a1))), (by first | rfl | (simp; done) | (simp [*]; done)), H', ⟨by have := HJ6.out; first | omega | exact Nat.le_refl _⟩, ⟨by (with_reducible repeat (first | apply Kd.R_alloc | apply Kd.R_drewN | apply Kd.R_drew)); exact Kd.R_mono HO_8.out (fun _ hk => trivial)⟩, ⟨by repeat (first | (with_reducible first | exact HB.out | apply below_alloc | apply pw_below_drewN | apply below_drew1) | exact HB.out)⟩⟩
        case rest =>
          clear HC17
          try clear c1
          try clear p2
          try clear hcv2
          try clear c6
          try clear c9
          try clear c11
          try clear c12
          try clear c12b0
          try clear c12b1
          try clear c12b2
          try clear c16
          try clear c17
          try clear c18
          try clear c18b0
          try clear c19
          try clear c19b0
          try clear c19b1
          try clear hcv24
          try clear hcv25
          try clear hcv26
          try clear hcv27
          try clear p2
          obtain ⟨kq, x50_16, rfl, HA, HJ16, HO_8, HB⟩ := hcut
          cases kq with
          | zero => exact absurd HA.out (by simp [mooringslaw01_VariLeast.j1])
          | succ kj16 =>
            have H := HA.out
            clear HA
            simp only [mooringslaw01_VariLeast.j1] at H
            by_cases c28 : x50_16 = true
            · subst c28
              have H1 : (some false) = some r := by rw [if_pos rfl] at H; exact H
              clear H
              have H := H1
              clear H1
              obtain rfl := Option.some.inj H
              go_wp2
              go_ret
              exact ⟨by first | rfl | (simp [errW_none, errW_some] <;> rfl) | (simp [*, errW_none, errW_some] <;> rfl), by repeat (first | (with_reducible first | exact HB.out | apply below_alloc | apply pw_below_drewN | apply below_drew1) | exact HB.out)⟩
            · replace c28 := Bool.eq_false_iff.mpr c28
              subst c28
              have H1 : (if a2 < 0 then (some true) else (if a2 ≥ (t183.length : Int) then (some true) else (if 0 ≤ a2 then (if a2 ≤ (t183.length : Int) then ((vari_Get.f (t183.take (a2 : Int).toNat) 0).bind fun bt193 => (some (bt193.2 == (-1)))) else (none)) else (none)))) = some r := by rw [if_neg (show ¬ (false = true) by decide)] at H; exact H
              clear H
              have H := H1
              clear H1
              by_cases c29 : a2 < 0
              · rw [if_pos c29] at H
                have c29b0 : decide (a2 < 0) = true := decide_eq_true c29
                clear c29
                obtain rfl := Option.some.inj H
                go_wp2
                go_ret
                exact ⟨by first | rfl | (simp [errW_none, errW_some] <;> rfl) | (simp [*, errW_none, errW_some] <;> rfl), by repeat (first | (with_reducible first | exact HB.out | apply below_alloc | apply pw_below_drewN | apply below_drew1) | exact HB.out)⟩
              · rw [if_neg c29] at H
                have c29b0 : decide (a2 < 0) = false := decide_eq_false c29
                clear c29
                by_cases c30 : a2 ≥ (t183.length : Int)
                · rw [if_pos c30] at H
                  have c30b0 : decide ((t183.length : Int) ≤ a2) = true := decide_eq_true c30
                  clear c30
                  obtain rfl := Option.some.inj H
                  obtain ⟨Ao31, co31, eo31⟩ := Kd.R_slice HO_8.out
                  subst eo31
                  go_wp2
                  go_ret
                  exact ⟨by first | rfl | (simp [errW_none, errW_some] <;> rfl) | (simp [*, errW_none, errW_some] <;> rfl), by repeat (first | (with_reducible first | exact HB.out | apply below_alloc | apply pw_below_drewN | apply below_drew1) | exact HB.out)⟩
                · rw [if_neg c30] at H
                  have c30b0 : decide ((t183.length : Int) ≤ a2) = false := decide_eq_false c30
                  clear c30
                  by_cases c32 : 0 ≤ a2
                  · rw [if_pos c32] at H
                    have c32b0 := eq_true c32
                    have c32b1 : decide (0 ≤ a2) = true := decide_eq_true c32
                    clear c32
                    by_cases c33 : a2 ≤ (t183.length : Int)
                    · rw [if_pos c33] at H
                      have c33b0 := eq_true c33
                      have c33b1 : decide (a2 ≤ (t183.length : Int)) = true := decide_eq_true c33
                      clear c33
                      obtain ⟨y189, hy189⟩ : ∃ y_ : List Int, y_ = (t183.take (a2 : Int).toNat) := ⟨_, rfl⟩
                      replace H : ((vari_Get.f y189 0).bind fun bt193 => (some (bt193.2 == (-1)))) = some r := by first | (rw [hy189]; with_reducible exact H) | (have H2_ := (Option.bind_some _ _).symm.trans H; rw [hy189]; with_reducible exact H2_) | (have H2_ := (Option.bind_some _ _).symm.trans H; with_reducible exact H2_) | with_reducible exact H | (rw [hy189]; exact H) | exact H
                      have Ny189 := Aside0.mk hy189
                      clear hy189
                      replace H := Option.bind_eq_some_iff.mp H
                      obtain ⟨⟨t193, t194⟩, A340, H⟩ := H
                      replace H : (some (t194 == (-1))) = some r := H
                      have A34 := Aside0.mk A340
                      clear A340
                      obtain rfl := Option.some.inj H
                      obtain ⟨Ao35, co35, eo35⟩ := Kd.R_slice HO_8.out
                      subst eo35
                      have q36 : (a2 : Int) ≤ ((t183.length : Int) : Int) := of_decide_eq_true (by first | (with_reducible assumption) | assumption)
                      obtain ⟨i036, hi036, _, hsz36, _⟩ := info_parts info5
                      have hroom36 : t183.length ≤ co35 := (Kd.R_reads' HO_8.out).2.1
                      have hC36 : Kd.C (Kd.int .u8) _ Ao35 t183.length t183 := (Kd.R_reads' HO_8.out).2.2
                      have hcut36 := cut_to (P := Try.prog) 22 5 .i64 Try.underlying22 hi036 Ao35 t183.length co35 a2 (of_decide_eq_true (by first | (with_reducible assumption) | assumption)) q36 hroom36
                      have hr36 := Kd.C_take (m := (a2 : Int).toNat) hC36 (by omega)
                      have hy36 : y189.length = (a2 : Int).toNat := (by rw [Ny189.out, List.length_take]; omega)
                      rw [← Ny189.out] at hr36
                      rw [← hy36] at hcut36
                      have HR192 := Aside0.mk hr36
                      have HC192 := Aside0.mk (show y189.length ≤ co35 from by omega)
                      clear hr36 hC36 hroom36 hi036 hsz36
                      have KY36 := Aside0.mk hy36
                      clear hy36
                      have KL36 := Aside0.mk (show (a2 : Int).toNat ≤ t183.length from by omega)
                      replace q36 := eq_true q36
                      go_wp2_with (first | ((with_reducible refine gate_callee (f := 10) rfl ?_); refine goesL_ (some 63) rfl rfl Try.func10 (by kernel_rfl) rfl #[.slice Ao35 y189.length co35, .int .i64 0] rfl (by (try simp only [List.map_toArray, List.map_cons, List.map_nil]); first | done | rfl | (simp only [List.length_drop, List.length_take]; rfl)) ?_; (with_reducible refine (vari_Get.calls _ _ y189 0 t193 t194 _ ?side1 ?side2 A34.out).mono ?_); (case side1 => repeat (first | exact (by repeat (first | (with_reducible exact HR192.out) | (with_reducible refine Kd.C_alloc ?_ _) | (with_reducible refine Kd.C_drewN ?_ _) | (with_reducible refine Kd.C_drew ?_) | exact HR192.out)) | (with_reducible refine Kd.C_alloc ?_ _) | (with_reducible refine Kd.C_drewN ?_ _) | (with_reducible refine Kd.C_drew ?_))); (case side2 => exact HC192.out); rintro e w37 ⟨rfl, hb⟩; refine ⟨_, rfl, ?_⟩; have n0_ := Aside0.mk (Kd.R_below (by (with_reducible repeat (first | apply Kd.R_alloc | apply Kd.R_drewN | apply Kd.R_drew)); exact HO_8.out) hb); have n1_ := Aside0.mk (Kd.C_below (by repeat (first | (with_reducible exact HR192.out) | (with_reducible refine Kd.C_alloc ?_ _) | (with_reducible refine Kd.C_drewN ?_ _) | (with_reducible refine Kd.C_drew ?_) | exact HR192.out)) hb); have n2_ := Aside0.mk (below_step (by repeat (first | (with_reducible first | exact HB.out | apply below_alloc | apply pw_below_drewN | apply below_drew1) | exact HB.out)) hb); clear HO_8; clear HR192; clear HB; have HO_8 := n0_; have HR192 := n1_; have HB := n2_; clear n0_ n1_ n2_; (try clear hb); (try clear hb2); (try clear hk); (try clear hi)))
                      go_ret
                      exact ⟨by first | rfl | (simp [errW_none, errW_some] <;> rfl) | (simp [*, errW_none, errW_some] <;> rfl), by repeat (first | (with_reducible first | exact HB.out | apply below_alloc | apply pw_below_drewN | apply below_drew1) | exact HB.out)⟩
                    · rw [if_neg c33] at H
                      exact absurd H (by simp)
                  · rw [if_neg c32] at H
                    exact absurd H (by simp)

/-- THE ONE PURE STATEMENT of mooringslaw01_VariLeast: yours. -/
def mooringslaw01_VariLeast.Pure : Prop := ∀ (a0 : Int) (a1 : Int) (a2 : Int), (Lit.int .i64 a0).wf = true → (Lit.int .i64 a1).wf = true → (Lit.int .i64 a2).wf = true → ∃ k, mooringslaw01_VariLeast.f k a0 a1 a2 = some true
theorem mooringslaw01_VariLeast.walk (P : mooringslaw01_VariLeast.Pure) (a0 : Int) (a1 : Int) (a2 : Int) (w : World) (w0 : (Lit.int .i64 a0).wf = true) (w1 : (Lit.int .i64 a1).wf = true) (w2 : (Lit.int .i64 a2).wf = true) :
    Calls Try.prog 6 #[.int .i64 a0, .int .i64 a1, .int .i64 a2] w fun e w' => e = .returned (.bool true) ∧ Below w.heap.size w w' := by
  obtain ⟨k, h⟩ := P a0 a1 a2 w0 w1 w2
  refine (mooringslaw01_VariLeast.calls k a0 a1 a2 true w h).mono ?_
  rintro e w' ⟨rfl, hd⟩
  exact ⟨rfl, hd⟩

end Go.Proofs.Ytngohjjepjpdlaa.L
