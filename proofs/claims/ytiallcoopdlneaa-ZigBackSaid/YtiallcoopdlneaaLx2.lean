/- Functions and laws of the program moorings: contracts of the Go functions, and, in a text named ..Law.., that the law returns true at every input that its row lets in. No conditions but those stated. Written for this claim by a run of the printer with some functions given (wip/myprint.sh). -/
import Derived.Test.YtiallcoopdlneaaLx0
import Derived.Test.YtiallcoopdlneaaLx1
namespace Go.Proofs.Ytiallcoopdlneaa.L
open Go.RowKit Go.Proofs.YtiallcoopdlneaaW.PrintWords Go.Proofs.YtiallcoopdlneaaW.PrintLast Go.Proofs.Ytiallcoopdlneaa.H Go.Proofs.YtiallcoopdlneaaW.PrintMore
attribute [local go_sem] max2_int min2_int max_two min_two max_three min_three max_four min_four   -- for this text's walks alone
set_option linter.unusedVariables false
set_option linter.unusedSimpArgs false

/-! ### mooringslaw02_ZigBack: function 3 -/
mutual
def mooringslaw02_ZigBack.j0 : Nat → Int → Int → Int → Bool → Int → Bool → Option (Bool)
  | 0, _, _, _, _, _, _ => none
  | k + 1, x0, x1, x2, x7, x8, x9 => if x7 = true then (if (x9 != (decide (x8 ≥ 0))) = true then (mooringslaw02_ZigBack.j1 k x0 x1 x2 x8 x9 true) else (if x9 = true then ((zig_Zag.f x8).bind fun t119 => (if t119 = x0 then (mooringslaw02_ZigBack.j1 k x0 x1 x2 x8 x9 false) else (mooringslaw02_ZigBack.j1 k x0 x1 x2 x8 x9 true))) else (mooringslaw02_ZigBack.j1 k x0 x1 x2 x8 x9 (x8 != (-1))))) else (mooringslaw02_ZigBack.j1 k x0 x1 x2 x8 x9 true)
def mooringslaw02_ZigBack.j1 : Nat → Int → Int → Int → Int → Bool → Bool → Option (Bool)
  | 0, _, _, _, _, _, _ => none
  | k + 1, x0, x1, x2, x8, x9, x43 => if x43 = true then (some false) else (if x9 = true then ((zig_Zig.f x1).bind fun t120 => (if t120 = x8 then (mooringslaw02_ZigBack.j2 k x2 (x1 != x0)) else (mooringslaw02_ZigBack.j2 k x2 false))) else (mooringslaw02_ZigBack.j2 k x2 false))
def mooringslaw02_ZigBack.j2 : Nat → Int → Bool → Option (Bool)
  | 0, _, _ => none
  | k + 1, x2, x55 => if x55 = true then (some false) else (if x2 < 0 then (some true) else (if x2 > 549755813888 then (some true) else ((zig_Zag.f x2).bind fun t121 => ((zig_Zig.f t121).bind fun t122 => (some (t122 == x2))))))
end
def mooringslaw02_ZigBack.f (k : Nat) (a0 : Int) (a1 : Int) (a2 : Int) : Option (Bool) := (mooringslaw02_awake.f).bind fun t117 => ((zig_Zig.f a0).bind fun t118 => (if a0 ≥ (-274877906944) then (mooringslaw02_ZigBack.j0 k a0 a1 a2 t117 t118 (decide (a0 ≤ 274877906944))) else (mooringslaw02_ZigBack.j0 k a0 a1 a2 t117 t118 false)))
theorem mooringslaw02_ZigBack.mono_l : ∀ k, (∀ y0 y1 y2 y3 y4 y5, LeO (mooringslaw02_ZigBack.j0 k y0 y1 y2 y3 y4 y5) (mooringslaw02_ZigBack.j0 (k + 1) y0 y1 y2 y3 y4 y5)) ∧ (∀ y0 y1 y2 y3 y4 y5, LeO (mooringslaw02_ZigBack.j1 k y0 y1 y2 y3 y4 y5) (mooringslaw02_ZigBack.j1 (k + 1) y0 y1 y2 y3 y4 y5)) ∧ (∀ y0 y1, LeO (mooringslaw02_ZigBack.j2 k y0 y1) (mooringslaw02_ZigBack.j2 (k + 1) y0 y1))
  | 0 => ⟨fun _ _ _ _ _ _ r h => by simp [mooringslaw02_ZigBack.j0] at h, fun _ _ _ _ _ _ r h => by simp [mooringslaw02_ZigBack.j1] at h, fun _ _ r h => by simp [mooringslaw02_ZigBack.j2] at h⟩
  | k + 1 => by
    obtain ⟨ih0, ih1, ih2⟩ := mooringslaw02_ZigBack.mono_l k
    refine ⟨?_, ?_, ?_⟩
    · intro y0 y1 y2 y3 y4 y5
      unfold mooringslaw02_ZigBack.j0
      repeat' first
      | (with_reducible exact ih0 _ _ _ _ _ _)
      | (with_reducible exact ih1 _ _ _ _ _ _)
      | (with_reducible exact ih2 _ _)
      | (with_reducible exact LeO.refl _)
      | (with_reducible exact LeO.none _)
      | (with_reducible refine LeO.ite ?_ ?_)
      | (with_reducible refine LeO.bind ?_ (fun _ => ?_))
      | exact ih0 _ _ _ _ _ _
      | exact ih1 _ _ _ _ _ _
      | exact ih2 _ _
      | exact LeO.none _
      | refine LeO.ite ?_ ?_
      | refine LeO.bind ?_ (fun _ => ?_)
    · intro y0 y1 y2 y3 y4 y5
      unfold mooringslaw02_ZigBack.j1
      repeat' first
      | (with_reducible exact ih0 _ _ _ _ _ _)
      | (with_reducible exact ih1 _ _ _ _ _ _)
      | (with_reducible exact ih2 _ _)
      | (with_reducible exact LeO.refl _)
      | (with_reducible exact LeO.none _)
      | (with_reducible refine LeO.ite ?_ ?_)
      | (with_reducible refine LeO.bind ?_ (fun _ => ?_))
      | exact ih0 _ _ _ _ _ _
      | exact ih1 _ _ _ _ _ _
      | exact ih2 _ _
      | exact LeO.none _
      | refine LeO.ite ?_ ?_
      | refine LeO.bind ?_ (fun _ => ?_)
    · intro y0 y1
      unfold mooringslaw02_ZigBack.j2
      repeat' first
      | (with_reducible exact ih0 _ _ _ _ _ _)
      | (with_reducible exact ih1 _ _ _ _ _ _)
      | (with_reducible exact ih2 _ _)
      | (with_reducible exact LeO.refl _)
      | (with_reducible exact LeO.none _)
      | (with_reducible refine LeO.ite ?_ ?_)
      | (with_reducible refine LeO.bind ?_ (fun _ => ?_))
      | exact ih0 _ _ _ _ _ _
      | exact ih1 _ _ _ _ _ _
      | exact ih2 _ _
      | exact LeO.none _
      | refine LeO.ite ?_ ?_
      | refine LeO.bind ?_ (fun _ => ?_)
theorem mooringslaw02_ZigBack.mono : ∀ a0 a1 a2 k, LeO (mooringslaw02_ZigBack.f k a0 a1 a2) (mooringslaw02_ZigBack.f (k + 1) a0 a1 a2) := by
  intro a0 a1 a2 k
  obtain ⟨ih0, ih1, ih2⟩ := mooringslaw02_ZigBack.mono_l k
  unfold mooringslaw02_ZigBack.f
  repeat' first
      | (with_reducible exact ih0 _ _ _ _ _ _)
      | (with_reducible exact ih1 _ _ _ _ _ _)
      | (with_reducible exact ih2 _ _)
      | (with_reducible exact LeO.refl _)
      | (with_reducible exact LeO.none _)
      | (with_reducible refine LeO.ite ?_ ?_)
      | (with_reducible refine LeO.bind ?_ (fun _ => ?_))
      | exact ih0 _ _ _ _ _ _
      | exact ih1 _ _ _ _ _ _
      | exact ih2 _ _
      | exact LeO.none _
      | refine LeO.ite ?_ ?_
      | refine LeO.bind ?_ (fun _ => ?_)
set_option maxHeartbeats 8000000 in
set_option maxRecDepth 100000 in
theorem mooringslaw02_ZigBack.calls (k : Nat) (a0 : Int) (a1 : Int) (a2 : Int) (r : Bool) (w : World) (h : mooringslaw02_ZigBack.f k a0 a1 a2 = some r) :
    Calls Try.prog 3 #[.int .i64 a0, .int .i64 a1, .int .i64 a2] w fun e w' => e = .returned (.bool r) ∧ Below w.heap.size w w' := by
  have HB := Aside0.mk (Below.refl w.heap.size w)
  have H : ((mooringslaw02_awake.f).bind fun t117 => ((zig_Zig.f a0).bind fun t118 => (if a0 ≥ (-274877906944) then (mooringslaw02_ZigBack.j0 k a0 a1 a2 t117 t118 (decide (a0 ≤ 274877906944))) else (mooringslaw02_ZigBack.j0 k a0 a1 a2 t117 t118 false)))) = some r := h
  clear h
  replace H := Option.bind_eq_some_iff.mp H
  obtain ⟨t117, A40, H⟩ := H
  replace H : ((zig_Zig.f a0).bind fun t118 => (if a0 ≥ (-274877906944) then (mooringslaw02_ZigBack.j0 k a0 a1 a2 t117 t118 (decide (a0 ≤ 274877906944))) else (mooringslaw02_ZigBack.j0 k a0 a1 a2 t117 t118 false))) = some r := H
  have A4 := Aside0.mk A40
  clear A40
  replace H := Option.bind_eq_some_iff.mp H
  obtain ⟨t118, A50, H⟩ := H
  replace H : (if a0 ≥ (-274877906944) then (mooringslaw02_ZigBack.j0 k a0 a1 a2 t117 t118 (decide (a0 ≤ 274877906944))) else (mooringslaw02_ZigBack.j0 k a0 a1 a2 t117 t118 false)) = some r := H
  have A5 := Aside0.mk A50
  clear A50
  have HC6 := Aside0.mk H
  clear H
  go_enter Try.func3, Try.ntmps3
  go_upto_region 3 with (first | ((with_reducible refine gate_callee (f := 8) rfl ?_); refine goesL_ (some 10) rfl rfl Try.func8 (by kernel_rfl) rfl #[] rfl (by (try simp only [List.map_toArray, List.map_cons, List.map_nil]); first | done | rfl | (simp only [List.length_drop, List.length_take]; rfl)) ?_; (with_reducible refine (mooringslaw02_awake.calls  t117 _ A4.out).mono ?_); rintro e w7 ⟨rfl, hb⟩; refine ⟨_, rfl, ?_⟩; have n0_ := Aside0.mk (below_step (by repeat (first | (with_reducible first | exact HB.out | apply below_alloc | apply pw_below_drewN | apply below_drew1) | exact HB.out)) hb); clear HB; have HB := n0_; clear n0_; (try clear hb); (try clear hb2); (try clear hk); (try clear hi)) | ((with_reducible refine gate_callee (f := 9) rfl ?_); refine goesL_ (some 12) rfl rfl Try.func9 (by kernel_rfl) rfl #[.int .i64 a0] rfl (by (try simp only [List.map_toArray, List.map_cons, List.map_nil]); first | done | rfl | (simp only [List.length_drop, List.length_take]; rfl)) ?_; (with_reducible refine (zig_Zig.calls a0 t118 _ A5.out).mono ?_); rintro e w8 ⟨rfl, hb⟩; refine ⟨_, rfl, ?_⟩; have n0_ := Aside0.mk (below_step (by repeat (first | (with_reducible first | exact HB.out | apply below_alloc | apply pw_below_drewN | apply below_drew1) | exact HB.out)) hb); clear HB; have HB := n0_; clear n0_; (try clear hb); (try clear hb2); (try clear hk); (try clear hi)))
  (try simp only [Act.put, List.setIfInBounds_toArray, List.set_cons_zero, List.set_cons_succ])
  go_cut [9] (fun v9 wc => ∃ (kq : Nat) (x9_5 : Bool), v9 = .bool x9_5 ∧ Aside0 (mooringslaw02_ZigBack.j0 kq a0 a1 a2 t117 t118 x9_5 = some r) ∧ Aside0 (kq ≤ k) ∧ Aside0 (Below w.heap.size w wc))
  case first =>
    have H := HC6.out
    clear HC6
    by_cases c9 : a0 ≥ (-274877906944)
    · rw [if_pos c9] at H
      have c9b0 : decide ((-274877906944) ≤ a0) = true := decide_eq_true c9
      clear c9
      (first | rw [c9b0] | (simp only [i64_w, i32_w]; rw [c9b0]) | skip)
      have H' := Aside0.mk H
      clear H
      go_wp2
      go_meet
      case rel => exact ⟨_, (decide (a0 ≤ 274877906944)), (by first | rfl | (simp; done) | (simp [*]; done)), H', ⟨by first | omega | exact Nat.le_refl _⟩, ⟨by repeat (first | (with_reducible first | exact HB.out | apply below_alloc | apply pw_below_drewN | apply below_drew1) | exact HB.out)⟩⟩
    · rw [if_neg c9] at H
      have c9b0 : decide ((-274877906944) ≤ a0) = false := decide_eq_false c9
      clear c9
      (first | rw [c9b0] | (simp only [i64_w, i32_w]; rw [c9b0]) | skip)
      have H' := Aside0.mk H
      clear H
      go_wp2
      go_meet
      case rel => exact ⟨_, (false), (by first | rfl | (simp; done) | (simp [*]; done)), H', ⟨by first | omega | exact Nat.le_refl _⟩, ⟨by repeat (first | (with_reducible first | exact HB.out | apply below_alloc | apply pw_below_drewN | apply below_drew1) | exact HB.out)⟩⟩
  case rest =>
    clear HC6
    try clear p2
    try clear c3
    try clear c8
    try clear c9
    try clear c9b0
    obtain ⟨kq, x9_5, rfl, HA, HJ5, HB⟩ := hcut
    cases kq with
    | zero => exact absurd HA.out (by simp [mooringslaw02_ZigBack.j0])
    | succ kj5 =>
      have H := HA.out
      clear HA
      simp only [mooringslaw02_ZigBack.j0] at H
      have HC10 := Aside0.mk H
      clear H
      go_upto_region 4 with (fail)
      go_cut [43] (fun v43 wc => ∃ (kq : Nat) (x43_9 : Bool), v43 = .bool x43_9 ∧ Aside0 (mooringslaw02_ZigBack.j1 kq a0 a1 a2 t118 x9_5 x43_9 = some r) ∧ Aside0 (kq ≤ kj5) ∧ Aside0 (Below w.heap.size w wc))
      case first =>
        have H := HC10.out
        clear HC10
        by_cases c11 : t117 = true
        · subst c11
          have H1 : (if (x9_5 != (decide (t118 ≥ 0))) = true then (mooringslaw02_ZigBack.j1 kj5 a0 a1 a2 t118 x9_5 true) else (if x9_5 = true then ((zig_Zag.f t118).bind fun t119 => (if t119 = a0 then (mooringslaw02_ZigBack.j1 kj5 a0 a1 a2 t118 x9_5 false) else (mooringslaw02_ZigBack.j1 kj5 a0 a1 a2 t118 x9_5 true))) else (mooringslaw02_ZigBack.j1 kj5 a0 a1 a2 t118 x9_5 (t118 != (-1))))) = some r := by rw [if_pos rfl] at H; exact H
          clear H
          have H := H1
          clear H1
          by_cases c12 : (x9_5 != (decide (t118 ≥ 0))) = true
          · rw [if_pos c12] at H
            have c12b0 : (x9_5 != (decide (t118 ≥ 0))) = true := c12
            (try (have c12b1 : decide (x9_5 = (decide (t118 ≥ 0))) = false := by simpa using c12))
            (try (have c12b2 : (x9_5 == (decide (t118 ≥ 0))) = false := by simpa using c12))
            (try (have c12b3 : ¬ (x9_5 = (decide (t118 ≥ 0))) := by simpa using c12))
            clear c12
            (first | rw [c12b0] | (simp only [i64_w, i32_w]; rw [c12b0]) | skip)
            have H' := Aside0.mk H
            clear H
            go_wp2
            go_meet
            case rel => exact ⟨_, (true), (by first | rfl | (simp; done) | (simp [*]; done)), H', ⟨by have := HJ5.out; first | omega | exact Nat.le_refl _⟩, ⟨by repeat (first | (with_reducible first | exact HB.out | apply below_alloc | apply pw_below_drewN | apply below_drew1) | exact HB.out)⟩⟩
          · rw [if_neg c12] at H
            have c12b0 : (x9_5 != (decide (t118 ≥ 0))) = false := by simpa using c12
            (try (have c12b1 : decide (x9_5 = (decide (t118 ≥ 0))) = true := by simpa using c12))
            (try (have c12b2 : (x9_5 == (decide (t118 ≥ 0))) = true := by simpa using c12))
            clear c12
            (first | rw [c12b0] | (simp only [i64_w, i32_w]; rw [c12b0]) | skip)
            by_cases c13 : x9_5 = true
            · subst c13
              have H1 : ((zig_Zag.f t118).bind fun t119 => (if t119 = a0 then (mooringslaw02_ZigBack.j1 kj5 a0 a1 a2 t118 true false) else (mooringslaw02_ZigBack.j1 kj5 a0 a1 a2 t118 true true))) = some r := by rw [if_pos rfl] at H; exact H
              clear H
              have H := H1
              clear H1
              replace H := Option.bind_eq_some_iff.mp H
              obtain ⟨t119, A140, H⟩ := H
              replace H : (if t119 = a0 then (mooringslaw02_ZigBack.j1 kj5 a0 a1 a2 t118 true false) else (mooringslaw02_ZigBack.j1 kj5 a0 a1 a2 t118 true true)) = some r := H
              have A14 := Aside0.mk A140
              clear A140
              by_cases c15 : t119 = a0
              · rw [if_pos c15] at H
                have c15b0 : (t119 == a0) = true := beq_iff_eq.mpr c15
                have c15b1 : (t119 != a0) = false := bne_eq_false_iff_eq.mpr c15
                clear c15
                have H' := Aside0.mk H
                clear H
                go_wp2_with (first | (go_at_call 10; (with_reducible refine (zig_Zag.calls t118 t119 _ A14.out).mono ?_); rintro e w16 ⟨rfl, hb⟩; have n0_ := Aside0.mk (below_step (by repeat (first | (with_reducible first | exact HB.out | apply below_alloc | apply pw_below_drewN | apply below_drew1) | exact HB.out)) hb); clear HB; have HB := n0_; clear n0_; (try clear hb); (try clear hb2); (try clear hk); (try clear hi)))
                go_meet
                case rel => exact ⟨_, (false), (by first | rfl | (simp; done) | (simp [*]; done)), H', ⟨by have := HJ5.out; first | omega | exact Nat.le_refl _⟩, ⟨by repeat (first | (with_reducible first | exact HB.out | apply below_alloc | apply pw_below_drewN | apply below_drew1) | exact HB.out)⟩⟩
              · rw [if_neg c15] at H
                have c15b0 : (t119 == a0) = false := beq_eq_false_iff_ne.mpr c15
                have c15b1 : (t119 != a0) = true := bne_iff_ne.mpr c15
                have H' := Aside0.mk H
                clear H
                go_wp2_with (first | (go_at_call 10; (with_reducible refine (zig_Zag.calls t118 t119 _ A14.out).mono ?_); rintro e w17 ⟨rfl, hb⟩; have n0_ := Aside0.mk (below_step (by repeat (first | (with_reducible first | exact HB.out | apply below_alloc | apply pw_below_drewN | apply below_drew1) | exact HB.out)) hb); clear HB; have HB := n0_; clear n0_; (try clear hb); (try clear hb2); (try clear hk); (try clear hi)))
                go_meet
                case rel => exact ⟨_, (true), (by first | rfl | (simp; done) | (simp [*]; done)), H', ⟨by have := HJ5.out; first | omega | exact Nat.le_refl _⟩, ⟨by repeat (first | (with_reducible first | exact HB.out | apply below_alloc | apply pw_below_drewN | apply below_drew1) | exact HB.out)⟩⟩
            · replace c13 := Bool.eq_false_iff.mpr c13
              subst c13
              have H1 : (mooringslaw02_ZigBack.j1 kj5 a0 a1 a2 t118 false (t118 != (-1))) = some r := by rw [if_neg (show ¬ (false = true) by decide)] at H; exact H
              clear H
              have H := H1
              clear H1
              have H' := Aside0.mk H
              clear H
              go_wp2
              go_meet
              case rel => exact ⟨_, ((t118 != (-1))), (by first | rfl | (simp; done) | (simp [*]; done)), H', ⟨by have := HJ5.out; first | omega | exact Nat.le_refl _⟩, ⟨by repeat (first | (with_reducible first | exact HB.out | apply below_alloc | apply pw_below_drewN | apply below_drew1) | exact HB.out)⟩⟩
        · replace c11 := Bool.eq_false_iff.mpr c11
          subst c11
          have H1 : (mooringslaw02_ZigBack.j1 kj5 a0 a1 a2 t118 x9_5 true) = some r := by rw [if_neg (show ¬ (false = true) by decide)] at H; exact H
          clear H
          have H := H1
          clear H1
          have H' := Aside0.mk H
          clear H
          go_wp2
          go_meet
          case rel => exact ⟨_, (true), (by first | rfl | (simp; done) | (simp [*]; done)), H', ⟨by have := HJ5.out; first | omega | exact Nat.le_refl _⟩, ⟨by repeat (first | (with_reducible first | exact HB.out | apply below_alloc | apply pw_below_drewN | apply below_drew1) | exact HB.out)⟩⟩
      case rest =>
        clear HC10
        try clear c1
        try clear p2
        try clear c3
        try clear c8
        try clear c9
        try clear c9b0
        try clear c11
        try clear c12
        try clear c12b0
        try clear c12b1
        try clear c12b2
        try clear c13
        try clear c15
        try clear c15b0
        try clear c15b1
        try clear p2
        obtain ⟨kq, x43_9, rfl, HA, HJ9, HB⟩ := hcut
        cases kq with
        | zero => exact absurd HA.out (by simp [mooringslaw02_ZigBack.j1])
        | succ kj9 =>
          have H := HA.out
          clear HA
          simp only [mooringslaw02_ZigBack.j1] at H
          by_cases c18 : x43_9 = true
          · subst c18
            have H1 : (some false) = some r := by rw [if_pos rfl] at H; exact H
            clear H
            have H := H1
            clear H1
            obtain rfl := Option.some.inj H
            go_wp2
            go_ret
            exact ⟨by first | rfl | (simp [errW_none, errW_some] <;> rfl) | (simp [*, errW_none, errW_some] <;> rfl), by repeat (first | (with_reducible first | exact HB.out | apply below_alloc | apply pw_below_drewN | apply below_drew1) | exact HB.out)⟩
          · replace c18 := Bool.eq_false_iff.mpr c18
            subst c18
            have H1 : (if x9_5 = true then ((zig_Zig.f a1).bind fun t120 => (if t120 = t118 then (mooringslaw02_ZigBack.j2 kj9 a2 (a1 != a0)) else (mooringslaw02_ZigBack.j2 kj9 a2 false))) else (mooringslaw02_ZigBack.j2 kj9 a2 false)) = some r := by rw [if_neg (show ¬ (false = true) by decide)] at H; exact H
            clear H
            have H := H1
            clear H1
            have HC19 := Aside0.mk H
            clear H
            go_upto_region 6 with (fail)
            go_cut [55] (fun v55 wc => ∃ (kq : Nat) (x55_18 : Bool), v55 = .bool x55_18 ∧ Aside0 (mooringslaw02_ZigBack.j2 kq a2 x55_18 = some r) ∧ Aside0 (kq ≤ kj9) ∧ Aside0 (Below w.heap.size w wc))
            case first =>
              have H := HC19.out
              clear HC19
              by_cases c20 : x9_5 = true
              · subst c20
                have H1 : ((zig_Zig.f a1).bind fun t120 => (if t120 = t118 then (mooringslaw02_ZigBack.j2 kj9 a2 (a1 != a0)) else (mooringslaw02_ZigBack.j2 kj9 a2 false))) = some r := by rw [if_pos rfl] at H; exact H
                clear H
                have H := H1
                clear H1
                replace H := Option.bind_eq_some_iff.mp H
                obtain ⟨t120, A210, H⟩ := H
                replace H : (if t120 = t118 then (mooringslaw02_ZigBack.j2 kj9 a2 (a1 != a0)) else (mooringslaw02_ZigBack.j2 kj9 a2 false)) = some r := H
                have A21 := Aside0.mk A210
                clear A210
                by_cases c22 : t120 = t118
                · rw [if_pos c22] at H
                  have c22b0 : (t120 == t118) = true := beq_iff_eq.mpr c22
                  have c22b1 : (t120 != t118) = false := bne_eq_false_iff_eq.mpr c22
                  clear c22
                  (first | rw [c22b0] | (simp only [i64_w, i32_w]; rw [c22b0]) | skip)
                  have H' := Aside0.mk H
                  clear H
                  go_wp2_with (first | (go_at_call 9; (with_reducible refine (zig_Zig.calls a1 t120 _ A21.out).mono ?_); rintro e w23 ⟨rfl, hb⟩; have n0_ := Aside0.mk (below_step (by repeat (first | (with_reducible first | exact HB.out | apply below_alloc | apply pw_below_drewN | apply below_drew1) | exact HB.out)) hb); clear HB; have HB := n0_; clear n0_; (try clear hb); (try clear hb2); (try clear hk); (try clear hi)))
                  go_meet
                  case rel => exact ⟨_, ((a1 != a0)), (by first | rfl | (simp; done) | (simp [*]; done)), H', ⟨by have := HJ5.out; have := HJ9.out; first | omega | exact Nat.le_refl _⟩, ⟨by repeat (first | (with_reducible first | exact HB.out | apply below_alloc | apply pw_below_drewN | apply below_drew1) | exact HB.out)⟩⟩
                · rw [if_neg c22] at H
                  have c22b0 : (t120 == t118) = false := beq_eq_false_iff_ne.mpr c22
                  have c22b1 : (t120 != t118) = true := bne_iff_ne.mpr c22
                  (first | rw [c22b0] | (simp only [i64_w, i32_w]; rw [c22b0]) | skip)
                  have H' := Aside0.mk H
                  clear H
                  go_wp2_with (first | (go_at_call 9; (with_reducible refine (zig_Zig.calls a1 t120 _ A21.out).mono ?_); rintro e w24 ⟨rfl, hb⟩; have n0_ := Aside0.mk (below_step (by repeat (first | (with_reducible first | exact HB.out | apply below_alloc | apply pw_below_drewN | apply below_drew1) | exact HB.out)) hb); clear HB; have HB := n0_; clear n0_; (try clear hb); (try clear hb2); (try clear hk); (try clear hi)))
                  go_meet
                  case rel => exact ⟨_, (false), (by first | rfl | (simp; done) | (simp [*]; done)), H', ⟨by have := HJ5.out; have := HJ9.out; first | omega | exact Nat.le_refl _⟩, ⟨by repeat (first | (with_reducible first | exact HB.out | apply below_alloc | apply pw_below_drewN | apply below_drew1) | exact HB.out)⟩⟩
              · replace c20 := Bool.eq_false_iff.mpr c20
                subst c20
                have H1 : (mooringslaw02_ZigBack.j2 kj9 a2 false) = some r := by rw [if_neg (show ¬ (false = true) by decide)] at H; exact H
                clear H
                have H := H1
                clear H1
                have H' := Aside0.mk H
                clear H
                go_wp2
                go_meet
                case rel => exact ⟨_, (false), (by first | rfl | (simp; done) | (simp [*]; done)), H', ⟨by have := HJ5.out; have := HJ9.out; first | omega | exact Nat.le_refl _⟩, ⟨by repeat (first | (with_reducible first | exact HB.out | apply below_alloc | apply pw_below_drewN | apply below_drew1) | exact HB.out)⟩⟩
            case rest =>
              clear HC19
              try clear c1
              try clear c2
              try clear p2
              try clear c3
              try clear c8
              try clear c9
              try clear c9b0
              try clear c11
              try clear c12
              try clear c12b0
              try clear c12b1
              try clear c12b2
              try clear c13
              try clear c15
              try clear c15b0
              try clear c15b1
              try clear c18
              try clear c20
              try clear c22
              try clear c22b0
              try clear c22b1
              try clear p2
              obtain ⟨kq, x55_18, rfl, HA, HJ18, HB⟩ := hcut
              cases kq with
              | zero => exact absurd HA.out (by simp [mooringslaw02_ZigBack.j2])
              | succ kj18 =>
                have H := HA.out
                clear HA
                simp only [mooringslaw02_ZigBack.j2] at H
                by_cases c25 : x55_18 = true
                · subst c25
                  have H1 : (some false) = some r := by rw [if_pos rfl] at H; exact H
                  clear H
                  have H := H1
                  clear H1
                  obtain rfl := Option.some.inj H
                  go_wp2
                  go_ret
                  exact ⟨by first | rfl | (simp [errW_none, errW_some] <;> rfl) | (simp [*, errW_none, errW_some] <;> rfl), by repeat (first | (with_reducible first | exact HB.out | apply below_alloc | apply pw_below_drewN | apply below_drew1) | exact HB.out)⟩
                · replace c25 := Bool.eq_false_iff.mpr c25
                  subst c25
                  have H1 : (if a2 < 0 then (some true) else (if a2 > 549755813888 then (some true) else ((zig_Zag.f a2).bind fun t121 => ((zig_Zig.f t121).bind fun t122 => (some (t122 == a2)))))) = some r := by rw [if_neg (show ¬ (false = true) by decide)] at H; exact H
                  clear H
                  have H := H1
                  clear H1
                  by_cases c26 : a2 < 0
                  · rw [if_pos c26] at H
                    have c26b0 : decide (a2 < 0) = true := decide_eq_true c26
                    clear c26
                    obtain rfl := Option.some.inj H
                    go_wp2
                    go_ret
                    exact ⟨by first | rfl | (simp [errW_none, errW_some] <;> rfl) | (simp [*, errW_none, errW_some] <;> rfl), by repeat (first | (with_reducible first | exact HB.out | apply below_alloc | apply pw_below_drewN | apply below_drew1) | exact HB.out)⟩
                  · rw [if_neg c26] at H
                    have c26b0 : decide (a2 < 0) = false := decide_eq_false c26
                    clear c26
                    by_cases c27 : a2 > 549755813888
                    · rw [if_pos c27] at H
                      have c27b0 : decide (549755813888 < a2) = true := decide_eq_true c27
                      clear c27
                      obtain rfl := Option.some.inj H
                      go_wp2
                      go_ret
                      exact ⟨by first | rfl | (simp [errW_none, errW_some] <;> rfl) | (simp [*, errW_none, errW_some] <;> rfl), by repeat (first | (with_reducible first | exact HB.out | apply below_alloc | apply pw_below_drewN | apply below_drew1) | exact HB.out)⟩
                    · rw [if_neg c27] at H
                      have c27b0 : decide (549755813888 < a2) = false := decide_eq_false c27
                      clear c27
                      replace H := Option.bind_eq_some_iff.mp H
                      obtain ⟨t121, A280, H⟩ := H
                      replace H : ((zig_Zig.f t121).bind fun t122 => (some (t122 == a2))) = some r := H
                      have A28 := Aside0.mk A280
                      clear A280
                      replace H := Option.bind_eq_some_iff.mp H
                      obtain ⟨t122, A290, H⟩ := H
                      replace H : (some (t122 == a2)) = some r := H
                      have A29 := Aside0.mk A290
                      clear A290
                      obtain rfl := Option.some.inj H
                      go_wp2_with (first | (go_at_call 10; (with_reducible refine (zig_Zag.calls a2 t121 _ A28.out).mono ?_); rintro e w30 ⟨rfl, hb⟩; have n0_ := Aside0.mk (below_step (by repeat (first | (with_reducible first | exact HB.out | apply below_alloc | apply pw_below_drewN | apply below_drew1) | exact HB.out)) hb); clear HB; have HB := n0_; clear n0_; (try clear hb); (try clear hb2); (try clear hk); (try clear hi)) | (go_at_call 9; (with_reducible refine (zig_Zig.calls t121 t122 _ A29.out).mono ?_); rintro e w31 ⟨rfl, hb⟩; have n0_ := Aside0.mk (below_step (by repeat (first | (with_reducible first | exact HB.out | apply below_alloc | apply pw_below_drewN | apply below_drew1) | exact HB.out)) hb); clear HB; have HB := n0_; clear n0_; (try clear hb); (try clear hb2); (try clear hk); (try clear hi)))
                      go_ret
                      exact ⟨by first | rfl | (simp [errW_none, errW_some] <;> rfl) | (simp [*, errW_none, errW_some] <;> rfl), by repeat (first | (with_reducible first | exact HB.out | apply below_alloc | apply pw_below_drewN | apply below_drew1) | exact HB.out)⟩

/-- THE ONE PURE STATEMENT of mooringslaw02_ZigBack: yours. -/
def mooringslaw02_ZigBack.Pure : Prop := ∀ (a0 : Int) (a1 : Int) (a2 : Int), (Lit.int .i64 a0).wf = true → (Lit.int .i64 a1).wf = true → (Lit.int .i64 a2).wf = true → ∃ k, mooringslaw02_ZigBack.f k a0 a1 a2 = some true
theorem mooringslaw02_ZigBack.walk (P : mooringslaw02_ZigBack.Pure) (a0 : Int) (a1 : Int) (a2 : Int) (w : World) (w0 : (Lit.int .i64 a0).wf = true) (w1 : (Lit.int .i64 a1).wf = true) (w2 : (Lit.int .i64 a2).wf = true) :
    Calls Try.prog 3 #[.int .i64 a0, .int .i64 a1, .int .i64 a2] w fun e w' => e = .returned (.bool true) ∧ Below w.heap.size w w' := by
  obtain ⟨k, h⟩ := P a0 a1 a2 w0 w1 w2
  refine (mooringslaw02_ZigBack.calls k a0 a1 a2 true w h).mono ?_
  rintro e w' ⟨rfl, hd⟩
  exact ⟨rfl, hd⟩

end Go.Proofs.Ytiallcoopdlneaa.L
