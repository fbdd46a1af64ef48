/- Functions and laws of the program moorings: contracts of the Go functions, and, in a text named ..Law.., that the law returns true at every input that its row lets in. No conditions but those stated. Written for this claim by a run of the printer with some functions given (wip/myprint.sh). -/
import Derived.Test.YtngohjjepjpdlaaLx0
namespace Go.Proofs.Ytngohjjepjpdlaa.L
open Go.RowKit Go.Proofs.YtngohjjepjpdlaaW.PrintWords Go.Proofs.YtngohjjepjpdlaaW.PrintLast Go.Proofs.Ytngohjjepjpdlaa.H Go.Proofs.YtngohjjepjpdlaaW.PrintMore
attribute [local go_sem] max2_int min2_int max_two min_two max_three min_three max_four min_four   -- for this text's walks alone
set_option linter.unusedVariables false
set_option linter.unusedSimpArgs false

/-! ### mooringslaw01_VariAll: function 5 -/
mutual
def mooringslaw01_VariAll.j0 : Nat → List Int → List Int → List Int → Bool → Bool → Option (Bool)
  | 0, _, _, _, _, _ => none
  | k + 1, x0, x1, x2, x7, x38 => if x38 = true then (some x7) else ((vari_All.f x0).bind fun bt151 => ((vari_All.f x1).bind fun bt155 => ((vari_Read.f bt151.1).bind fun bt159 => (if ([] : List Int).length + x0.length < 17592186044416 then ((some (([] : List Int) ++ x0 : List Int)).bind fun y163 => (if y163.length + x1.length < 17592186044416 then ((vari_All.f (y163 ++ x1)).bind fun bt169 => ((mooringsref01_Ints.f bt159.1 x0).bind fun t173 => (if bt151.2 = true then (if bt159.2 = true then (if t173 = true then (if (bt169.2 != bt155.2) = true then (mooringslaw01_VariAll.j1 k x2 true) else (if bt169.2 = true then (if (strOfNums bt151.1).size + (strOfNums bt155.1).size ≤ 9223372036854775807 then (mooringslaw01_VariAll.j1 k x2 ((strOfNums bt169.1).toList != ((strOfNums bt151.1) ++ (strOfNums bt155.1)).toList)) else (none)) else (mooringslaw01_VariAll.j1 k x2 false))) else (mooringslaw01_VariAll.j1 k x2 true)) else (mooringslaw01_VariAll.j1 k x2 true)) else (if (bt169.2 != false) = true then (mooringslaw01_VariAll.j1 k x2 true) else (if bt169.2 = true then (if (strOfNums bt151.1).size + (strOfNums bt155.1).size ≤ 9223372036854775807 then (mooringslaw01_VariAll.j1 k x2 ((strOfNums bt169.1).toList != ((strOfNums bt151.1) ++ (strOfNums bt155.1)).toList)) else (none)) else (mooringslaw01_VariAll.j1 k x2 false)))))) else (none))) else (none)))))
def mooringslaw01_VariAll.j1 : Nat → List Int → Bool → Option (Bool)
  | 0, _, _ => none
  | k + 1, x2, x95 => if x95 = true then (some false) else ((vari_Read.f x2).bind fun bt174 => ((vari_All.f bt174.1).bind fun bt178 => (if bt174.2 = true then (if bt178.2 = true then (some ((strOfNums bt178.1).toList == (strOfNums x2).toList)) else (some false)) else (some true))))
end
def mooringslaw01_VariAll.f (k : Nat) (l0 : List Int) (l1 : List Int) (l2 : List Int) : Option (Bool) := (mooringslaw01_awake.f).bind fun t150 => (if t150 = true then (if (l0.length : Int) > 200 then (mooringslaw01_VariAll.j0 k l0 l1 l2 t150 true) else (if (l1.length : Int) > 200 then (mooringslaw01_VariAll.j0 k l0 l1 l2 t150 true) else (mooringslaw01_VariAll.j0 k l0 l1 l2 t150 (decide ((l2.length : Int) > 500))))) else (mooringslaw01_VariAll.j0 k l0 l1 l2 t150 true))
theorem mooringslaw01_VariAll.mono_l : ∀ k, (∀ y0 y1 y2 y3 y4, LeO (mooringslaw01_VariAll.j0 k y0 y1 y2 y3 y4) (mooringslaw01_VariAll.j0 (k + 1) y0 y1 y2 y3 y4)) ∧ (∀ y0 y1, LeO (mooringslaw01_VariAll.j1 k y0 y1) (mooringslaw01_VariAll.j1 (k + 1) y0 y1))
  | 0 => ⟨fun _ _ _ _ _ r h => by simp [mooringslaw01_VariAll.j0] at h, fun _ _ r h => by simp [mooringslaw01_VariAll.j1] at h⟩
  | k + 1 => by
    obtain ⟨ih0, ih1⟩ := mooringslaw01_VariAll.mono_l k
    refine ⟨?_, ?_⟩
    · intro y0 y1 y2 y3 y4
      unfold mooringslaw01_VariAll.j0
      repeat' first
      | (with_reducible exact ih0 _ _ _ _ _)
      | (with_reducible exact ih1 _ _)
      | (with_reducible exact LeO.refl _)
      | (with_reducible exact LeO.none _)
      | (with_reducible refine LeO.ite ?_ ?_)
      | (with_reducible refine LeO.bind ?_ (fun _ => ?_))
      | exact ih0 _ _ _ _ _
      | exact ih1 _ _
      | exact LeO.none _
      | refine LeO.ite ?_ ?_
      | refine LeO.bind ?_ (fun _ => ?_)
    · intro y0 y1
      unfold mooringslaw01_VariAll.j1
      repeat' first
      | (with_reducible exact ih0 _ _ _ _ _)
      | (with_reducible exact ih1 _ _)
      | (with_reducible exact LeO.refl _)
      | (with_reducible exact LeO.none _)
      | (with_reducible refine LeO.ite ?_ ?_)
      | (with_reducible refine LeO.bind ?_ (fun _ => ?_))
      | exact ih0 _ _ _ _ _
      | exact ih1 _ _
      | exact LeO.none _
      | refine LeO.ite ?_ ?_
      | refine LeO.bind ?_ (fun _ => ?_)
theorem mooringslaw01_VariAll.mono : ∀ a0 a1 a2 k, LeO (mooringslaw01_VariAll.f k a0 a1 a2) (mooringslaw01_VariAll.f (k + 1) a0 a1 a2) := by
  intro a0 a1 a2 k
  obtain ⟨ih0, ih1⟩ := mooringslaw01_VariAll.mono_l k
  unfold mooringslaw01_VariAll.f
  repeat' first
      | (with_reducible exact ih0 _ _ _ _ _)
      | (with_reducible exact ih1 _ _)
      | (with_reducible exact LeO.refl _)
      | (with_reducible exact LeO.none _)
      | (with_reducible refine LeO.ite ?_ ?_)
      | (with_reducible refine LeO.bind ?_ (fun _ => ?_))
      | exact ih0 _ _ _ _ _
      | exact ih1 _ _
      | exact LeO.none _
      | refine LeO.ite ?_ ?_
      | refine LeO.bind ?_ (fun _ => ?_)
set_option maxHeartbeats 8000000 in
set_option maxRecDepth 100000 in
theorem mooringslaw01_VariAll.calls (k : Nat) (A0 : Option Addr) (c0 : Nat) (l0 : List Int) (A1 : Option Addr) (c1 : Nat) (l1 : List Int) (A2 : Option Addr) (c2 : Nat) (l2 : List Int) (r : Bool) (w : World) (hr0 : Kd.C (Kd.int .i64) w A0 l0.length l0) (hc0 : l0.length ≤ c0) (hr1 : Kd.C (Kd.int .i64) w A1 l1.length l1) (hc1 : l1.length ≤ c1) (hr2 : Kd.C (Kd.int .u8) w A2 l2.length l2) (hc2 : l2.length ≤ c2) (h : mooringslaw01_VariAll.f k l0 l1 l2 = some r) :
    Calls Try.prog 5 #[.slice A0 l0.length c0, .slice A1 l1.length c1, .slice A2 l2.length c2] w fun e w' => e = .returned (.bool r) ∧ Below w.heap.size w w' := by
  have HR0 := Aside0.mk hr0
  have HC0 := Aside0.mk hc0
  clear hr0 hc0
  have HR1 := Aside0.mk hr1
  have HC1 := Aside0.mk hc1
  clear hr1 hc1
  have HR2 := Aside0.mk hr2
  have HC2 := Aside0.mk hc2
  clear hr2 hc2
  have HB := Aside0.mk (Below.refl w.heap.size w)
  have H : ((mooringslaw01_awake.f).bind fun t150 => (if t150 = true then (if (l0.length : Int) > 200 then (mooringslaw01_VariAll.j0 k l0 l1 l2 t150 true) else (if (l1.length : Int) > 200 then (mooringslaw01_VariAll.j0 k l0 l1 l2 t150 true) else (mooringslaw01_VariAll.j0 k l0 l1 l2 t150 (decide ((l2.length : Int) > 500))))) else (mooringslaw01_VariAll.j0 k l0 l1 l2 t150 true))) = some r := h
  clear h
  replace H := Option.bind_eq_some_iff.mp H
  obtain ⟨t150, A40, H⟩ := H
  replace H : (if t150 = true then (if (l0.length : Int) > 200 then (mooringslaw01_VariAll.j0 k l0 l1 l2 t150 true) else (if (l1.length : Int) > 200 then (mooringslaw01_VariAll.j0 k l0 l1 l2 t150 true) else (mooringslaw01_VariAll.j0 k l0 l1 l2 t150 (decide ((l2.length : Int) > 500))))) else (mooringslaw01_VariAll.j0 k l0 l1 l2 t150 true)) = some r := H
  have A4 := Aside0.mk A40
  clear A40
  have HC5 := Aside0.mk H
  clear H
  go_enter Try.func5, Try.ntmps5
  go_upto_region 2 with (first | ((with_reducible refine gate_callee (f := 9) rfl ?_); refine goesL_ (some 21) rfl rfl Try.func9 (by kernel_rfl) rfl #[] rfl (by (try simp only [List.map_toArray, List.map_cons, List.map_nil]); first | done | rfl | (simp only [List.length_drop, List.length_take]; rfl)) ?_; (with_reducible refine (mooringslaw01_awake.calls  t150 _ A4.out).mono ?_); rintro e w6 ⟨rfl, hb⟩; refine ⟨_, rfl, ?_⟩; have n0_ := Aside0.mk (below_step (by repeat (first | (with_reducible first | exact HB.out | apply below_alloc | apply pw_below_drewN | apply below_drew1) | exact HB.out)) hb); clear HB; have HB := n0_; clear n0_; (try clear hb); (try clear hb2); (try clear hk); (try clear hi)))
  (try simp only [Act.put, List.setIfInBounds_toArray, List.set_cons_zero, List.set_cons_succ])
  go_cut [38] (fun v38 wc => ∃ (kq : Nat) (x38_4 : Bool), v38 = .bool x38_4 ∧ Aside0 (mooringslaw01_VariAll.j0 kq l0 l1 l2 t150 x38_4 = some r) ∧ Aside0 (kq ≤ k) ∧ Aside0 (Below w.heap.size w wc))
  case first =>
    have H := HC5.out
    clear HC5
    by_cases c7 : t150 = true
    · subst c7
      have H1 : (if (l0.length : Int) > 200 then (mooringslaw01_VariAll.j0 k l0 l1 l2 true true) else (if (l1.length : Int) > 200 then (mooringslaw01_VariAll.j0 k l0 l1 l2 true true) else (mooringslaw01_VariAll.j0 k l0 l1 l2 true (decide ((l2.length : Int) > 500))))) = some r := by rw [if_pos rfl] at H; exact H
      clear H
      have H := H1
      clear H1
      by_cases c8 : (l0.length : Int) > 200
      · rw [if_pos c8] at H
        have c8b0 : decide (200 < (l0.length : Int)) = true := decide_eq_true c8
        have c8b1 : decide (200 < l0.length) = true := decide_eq_true (by omega)
        clear c8
        (first | rw [c8b0] | (simp only [i64_w, i32_w]; rw [c8b0]) | skip)
        have H' := Aside0.mk H
        clear H
        go_wp2
        go_meet
        case rel => exact ⟨_, (true), (by first | rfl | (simp; done) | (simp [*]; done)), H', ⟨by first | omega | exact Nat.le_refl _⟩, ⟨by repeat (first | (with_reducible first | exact HB.out | apply below_alloc | apply pw_below_drewN | apply below_drew1) | exact HB.out)⟩⟩
      · rw [if_neg c8] at H
        have c8b0 : decide (200 < (l0.length : Int)) = false := decide_eq_false c8
        have c8b1 : decide (200 < l0.length) = false := decide_eq_false (by omega)
        clear c8
        (first | rw [c8b0] | (simp only [i64_w, i32_w]; rw [c8b0]) | skip)
        by_cases c9 : (l1.length : Int) > 200
        · rw [if_pos c9] at H
          have c9b0 : decide (200 < (l1.length : Int)) = true := decide_eq_true c9
          have c9b1 : decide (200 < l1.length) = true := decide_eq_true (by omega)
          clear c9
          have H' := Aside0.mk H
          clear H
          go_wp2
          go_meet
          case rel => exact ⟨_, (true), (by first | rfl | (simp; done) | (simp [*]; done)), H', ⟨by first | omega | exact Nat.le_refl _⟩, ⟨by repeat (first | (with_reducible first | exact HB.out | apply below_alloc | apply pw_below_drewN | apply below_drew1) | exact HB.out)⟩⟩
        · rw [if_neg c9] at H
          have c9b0 : decide (200 < (l1.length : Int)) = false := decide_eq_false c9
          have c9b1 : decide (200 < l1.length) = false := decide_eq_false (by omega)
          clear c9
          have H' := Aside0.mk H
          clear H
          go_wp2
          go_meet
          case rel => exact ⟨_, (decide ((l2.length : Int) > 500)), (by first | rfl | (simp; done) | (simp [*]; done)), H', ⟨by first | omega | exact Nat.le_refl _⟩, ⟨by repeat (first | (with_reducible first | exact HB.out | apply below_alloc | apply pw_below_drewN | apply below_drew1) | exact HB.out)⟩⟩
    · replace c7 := Bool.eq_false_iff.mpr c7
      subst c7
      have H1 : (mooringslaw01_VariAll.j0 k l0 l1 l2 false true) = some r := by rw [if_neg (show ¬ (false = true) by decide)] at H; exact H
      clear H
      have H := H1
      clear H1
      have H' := Aside0.mk H
      clear H
      go_wp2
      go_meet
      case rel => exact ⟨_, (true), (by first | rfl | (simp; done) | (simp [*]; done)), H', ⟨by first | omega | exact Nat.le_refl _⟩, ⟨by repeat (first | (with_reducible first | exact HB.out | apply below_alloc | apply pw_below_drewN | apply below_drew1) | exact HB.out)⟩⟩
  case rest =>
    clear HC5
    try clear c1
    try clear c2
    try clear p2
    try clear c5
    try clear c7
    try clear c8
    try clear c8b0
    try clear c8b1
    try clear c9
    try clear c9b0
    try clear c9b1
    obtain ⟨kq, x38_4, rfl, HA, HJ4, HB⟩ := hcut
    cases kq with
    | zero => exact absurd HA.out (by simp [mooringslaw01_VariAll.j0])
    | succ kj4 =>
      have H := HA.out
      clear HA
      simp only [mooringslaw01_VariAll.j0] at H
      by_cases c10 : x38_4 = true
      · subst c10
        have H1 : (some t150) = some r := by rw [if_pos rfl] at H; exact H
        clear H
        have H := H1
        clear H1
        obtain rfl := Option.some.inj H
        go_wp2
        go_ret
        exact ⟨by first | rfl | (simp [errW_none, errW_some] <;> rfl) | (simp [*, errW_none, errW_some] <;> rfl), by repeat (first | (with_reducible first | exact HB.out | apply below_alloc | apply pw_below_drewN | apply below_drew1) | exact HB.out)⟩
      · replace c10 := Bool.eq_false_iff.mpr c10
        subst c10
        have H1 : ((vari_All.f l0).bind fun bt151 => ((vari_All.f l1).bind fun bt155 => ((vari_Read.f bt151.1).bind fun bt159 => (if ([] : List Int).length + l0.length < 17592186044416 then ((some (([] : List Int) ++ l0 : List Int)).bind fun y163 => (if y163.length + l1.length < 17592186044416 then ((vari_All.f (y163 ++ l1)).bind fun bt169 => ((mooringsref01_Ints.f bt159.1 l0).bind fun t173 => (if bt151.2 = true then (if bt159.2 = true then (if t173 = true then (if (bt169.2 != bt155.2) = true then (mooringslaw01_VariAll.j1 kj4 l2 true) else (if bt169.2 = true then (if (strOfNums bt151.1).size + (strOfNums bt155.1).size ≤ 9223372036854775807 then (mooringslaw01_VariAll.j1 kj4 l2 ((strOfNums bt169.1).toList != ((strOfNums bt151.1) ++ (strOfNums bt155.1)).toList)) else (none)) else (mooringslaw01_VariAll.j1 kj4 l2 false))) else (mooringslaw01_VariAll.j1 kj4 l2 true)) else (mooringslaw01_VariAll.j1 kj4 l2 true)) else (if (bt169.2 != false) = true then (mooringslaw01_VariAll.j1 kj4 l2 true) else (if bt169.2 = true then (if (strOfNums bt151.1).size + (strOfNums bt155.1).size ≤ 9223372036854775807 then (mooringslaw01_VariAll.j1 kj4 l2 ((strOfNums bt169.1).toList != ((strOfNums bt151.1) ++ (strOfNums bt155.1)).toList)) else (none)) else (mooringslaw01_VariAll.j1 kj4 l2 false)))))) else (none))) else (none))))) = some r := by rw [if_neg (show ¬ (false = true) by decide)] at H; exact H
        clear H
        have H := H1
        clear H1
        replace H := Option.bind_eq_some_iff.mp H
        obtain ⟨⟨t151, t152⟩, A110, H⟩ := H
        replace H : ((vari_All.f l1).bind fun bt155 => ((vari_Read.f t151).bind fun bt159 => (if ([] : List Int).length + l0.length < 17592186044416 then ((some (([] : List Int) ++ l0 : List Int)).bind fun y163 => (if y163.length + l1.length < 17592186044416 then ((vari_All.f (y163 ++ l1)).bind fun bt169 => ((mooringsref01_Ints.f bt159.1 l0).bind fun t173 => (if t152 = true then (if bt159.2 = true then (if t173 = true then (if (bt169.2 != bt155.2) = true then (mooringslaw01_VariAll.j1 kj4 l2 true) else (if bt169.2 = true then (if (strOfNums t151).size + (strOfNums bt155.1).size ≤ 9223372036854775807 then (mooringslaw01_VariAll.j1 kj4 l2 ((strOfNums bt169.1).toList != ((strOfNums t151) ++ (strOfNums bt155.1)).toList)) else (none)) else (mooringslaw01_VariAll.j1 kj4 l2 false))) else (mooringslaw01_VariAll.j1 kj4 l2 true)) else (mooringslaw01_VariAll.j1 kj4 l2 true)) else (if (bt169.2 != false) = true then (mooringslaw01_VariAll.j1 kj4 l2 true) else (if bt169.2 = true then (if (strOfNums t151).size + (strOfNums bt155.1).size ≤ 9223372036854775807 then (mooringslaw01_VariAll.j1 kj4 l2 ((strOfNums bt169.1).toList != ((strOfNums t151) ++ (strOfNums bt155.1)).toList)) else (none)) else (mooringslaw01_VariAll.j1 kj4 l2 false)))))) else (none))) else (none)))) = some r := H
        have A11 := Aside0.mk A110
        clear A110
        replace H := Option.bind_eq_some_iff.mp H
        obtain ⟨⟨t155, t156⟩, A120, H⟩ := H
        replace H : ((vari_Read.f t151).bind fun bt159 => (if ([] : List Int).length + l0.length < 17592186044416 then ((some (([] : List Int) ++ l0 : List Int)).bind fun y163 => (if y163.length + l1.length < 17592186044416 then ((vari_All.f (y163 ++ l1)).bind fun bt169 => ((mooringsref01_Ints.f bt159.1 l0).bind fun t173 => (if t152 = true then (if bt159.2 = true then (if t173 = true then (if (bt169.2 != t156) = true then (mooringslaw01_VariAll.j1 kj4 l2 true) else (if bt169.2 = true then (if (strOfNums t151).size + (strOfNums t155).size ≤ 9223372036854775807 then (mooringslaw01_VariAll.j1 kj4 l2 ((strOfNums bt169.1).toList != ((strOfNums t151) ++ (strOfNums t155)).toList)) else (none)) else (mooringslaw01_VariAll.j1 kj4 l2 false))) else (mooringslaw01_VariAll.j1 kj4 l2 true)) else (mooringslaw01_VariAll.j1 kj4 l2 true)) else (if (bt169.2 != false) = true then (mooringslaw01_VariAll.j1 kj4 l2 true) else (if bt169.2 = true then (if (strOfNums t151).size + (strOfNums t155).size ≤ 9223372036854775807 then (mooringslaw01_VariAll.j1 kj4 l2 ((strOfNums bt169.1).toList != ((strOfNums t151) ++ (strOfNums t155)).toList)) else (none)) else (mooringslaw01_VariAll.j1 kj4 l2 false)))))) else (none))) else (none))) = some r := H
        have A12 := Aside0.mk A120
        clear A120
        replace H := Option.bind_eq_some_iff.mp H
        obtain ⟨⟨t159, t160⟩, A130, H⟩ := H
        replace H : (if ([] : List Int).length + l0.length < 17592186044416 then ((some (([] : List Int) ++ l0 : List Int)).bind fun y163 => (if y163.length + l1.length < 17592186044416 then ((vari_All.f (y163 ++ l1)).bind fun bt169 => ((mooringsref01_Ints.f t159 l0).bind fun t173 => (if t152 = true then (if t160 = true then (if t173 = true then (if (bt169.2 != t156) = true then (mooringslaw01_VariAll.j1 kj4 l2 true) else (if bt169.2 = true then (if (strOfNums t151).size + (strOfNums t155).size ≤ 9223372036854775807 then (mooringslaw01_VariAll.j1 kj4 l2 ((strOfNums bt169.1).toList != ((strOfNums t151) ++ (strOfNums t155)).toList)) else (none)) else (mooringslaw01_VariAll.j1 kj4 l2 false))) else (mooringslaw01_VariAll.j1 kj4 l2 true)) else (mooringslaw01_VariAll.j1 kj4 l2 true)) else (if (bt169.2 != false) = true then (mooringslaw01_VariAll.j1 kj4 l2 true) else (if bt169.2 = true then (if (strOfNums t151).size + (strOfNums t155).size ≤ 9223372036854775807 then (mooringslaw01_VariAll.j1 kj4 l2 ((strOfNums bt169.1).toList != ((strOfNums t151) ++ (strOfNums t155)).toList)) else (none)) else (mooringslaw01_VariAll.j1 kj4 l2 false)))))) else (none))) else (none)) = some r := H
        have A13 := Aside0.mk A130
        clear A130
        by_cases c14 : ([] : List Int).length + l0.length < 17592186044416
        · rw [if_pos c14] at H
          have LMc14 := Aside0.mk c14
          clear c14
          obtain ⟨y163, hy163⟩ : ∃ y_ : List Int, y_ = (([] : List Int) ++ l0) := ⟨_, rfl⟩
          replace H : (if y163.length + l1.length < 17592186044416 then ((vari_All.f (y163 ++ l1)).bind fun bt169 => ((mooringsref01_Ints.f t159 l0).bind fun t173 => (if t152 = true then (if t160 = true then (if t173 = true then (if (bt169.2 != t156) = true then (mooringslaw01_VariAll.j1 kj4 l2 true) else (if bt169.2 = true then (if (strOfNums t151).size + (strOfNums t155).size ≤ 9223372036854775807 then (mooringslaw01_VariAll.j1 kj4 l2 ((strOfNums bt169.1).toList != ((strOfNums t151) ++ (strOfNums t155)).toList)) else (none)) else (mooringslaw01_VariAll.j1 kj4 l2 false))) else (mooringslaw01_VariAll.j1 kj4 l2 true)) else (mooringslaw01_VariAll.j1 kj4 l2 true)) else (if (bt169.2 != false) = true then (mooringslaw01_VariAll.j1 kj4 l2 true) else (if bt169.2 = true then (if (strOfNums t151).size + (strOfNums t155).size ≤ 9223372036854775807 then (mooringslaw01_VariAll.j1 kj4 l2 ((strOfNums bt169.1).toList != ((strOfNums t151) ++ (strOfNums t155)).toList)) else (none)) else (mooringslaw01_VariAll.j1 kj4 l2 false)))))) else (none)) = some r := by first | (rw [hy163]; with_reducible exact H) | (have H2_ := (Option.bind_some _ _).symm.trans H; rw [hy163]; with_reducible exact H2_) | (have H2_ := (Option.bind_some _ _).symm.trans H; with_reducible exact H2_) | with_reducible exact H | (rw [hy163]; exact H) | exact H
          have Ny163 := Aside0.mk hy163
          clear hy163
          by_cases c15 : y163.length + l1.length < 17592186044416
          · rw [if_pos c15] at H
            have LMc15 := Aside0.mk c15
            clear c15
            obtain ⟨y166, hy166⟩ : ∃ y_ : List Int, y_ = (y163 ++ l1) := ⟨_, rfl⟩
            replace H : ((vari_All.f y166).bind fun bt169 => ((mooringsref01_Ints.f t159 l0).bind fun t173 => (if t152 = true then (if t160 = true then (if t173 = true then (if (bt169.2 != t156) = true then (mooringslaw01_VariAll.j1 kj4 l2 true) else (if bt169.2 = true then (if (strOfNums t151).size + (strOfNums t155).size ≤ 9223372036854775807 then (mooringslaw01_VariAll.j1 kj4 l2 ((strOfNums bt169.1).toList != ((strOfNums t151) ++ (strOfNums t155)).toList)) else (none)) else (mooringslaw01_VariAll.j1 kj4 l2 false))) else (mooringslaw01_VariAll.j1 kj4 l2 true)) else (mooringslaw01_VariAll.j1 kj4 l2 true)) else (if (bt169.2 != false) = true then (mooringslaw01_VariAll.j1 kj4 l2 true) else (if bt169.2 = true then (if (strOfNums t151).size + (strOfNums t155).size ≤ 9223372036854775807 then (mooringslaw01_VariAll.j1 kj4 l2 ((strOfNums bt169.1).toList != ((strOfNums t151) ++ (strOfNums t155)).toList)) else (none)) else (mooringslaw01_VariAll.j1 kj4 l2 false)))))) = some r := by first | (rw [hy166]; with_reducible exact H) | (have H2_ := (Option.bind_some _ _).symm.trans H; rw [hy166]; with_reducible exact H2_) | (have H2_ := (Option.bind_some _ _).symm.trans H; with_reducible exact H2_) | with_reducible exact H | (rw [hy166]; exact H) | exact H
            have Ny166 := Aside0.mk hy166
            clear hy166
            replace H := Option.bind_eq_some_iff.mp H
            obtain ⟨⟨t169, t170⟩, A160, H⟩ := H
            replace H : ((mooringsref01_Ints.f t159 l0).bind fun t173 => (if t152 = true then (if t160 = true then (if t173 = true then (if (t170 != t156) = true then (mooringslaw01_VariAll.j1 kj4 l2 true) else (if t170 = true then (if (strOfNums t151).size + (strOfNums t155).size ≤ 9223372036854775807 then (mooringslaw01_VariAll.j1 kj4 l2 ((strOfNums t169).toList != ((strOfNums t151) ++ (strOfNums t155)).toList)) else (none)) else (mooringslaw01_VariAll.j1 kj4 l2 false))) else (mooringslaw01_VariAll.j1 kj4 l2 true)) else (mooringslaw01_VariAll.j1 kj4 l2 true)) else (if (t170 != false) = true then (mooringslaw01_VariAll.j1 kj4 l2 true) else (if t170 = true then (if (strOfNums t151).size + (strOfNums t155).size ≤ 9223372036854775807 then (mooringslaw01_VariAll.j1 kj4 l2 ((strOfNums t169).toList != ((strOfNums t151) ++ (strOfNums t155)).toList)) else (none)) else (mooringslaw01_VariAll.j1 kj4 l2 false))))) = some r := H
            have A16 := Aside0.mk A160
            clear A160
            replace H := Option.bind_eq_some_iff.mp H
            obtain ⟨t173, A170, H⟩ := H
            replace H : (if t152 = true then (if t160 = true then (if t173 = true then (if (t170 != t156) = true then (mooringslaw01_VariAll.j1 kj4 l2 true) else (if t170 = true then (if (strOfNums t151).size + (strOfNums t155).size ≤ 9223372036854775807 then (mooringslaw01_VariAll.j1 kj4 l2 ((strOfNums t169).toList != ((strOfNums t151) ++ (strOfNums t155)).toList)) else (none)) else (mooringslaw01_VariAll.j1 kj4 l2 false))) else (mooringslaw01_VariAll.j1 kj4 l2 true)) else (mooringslaw01_VariAll.j1 kj4 l2 true)) else (if (t170 != false) = true then (mooringslaw01_VariAll.j1 kj4 l2 true) else (if t170 = true then (if (strOfNums t151).size + (strOfNums t155).size ≤ 9223372036854775807 then (mooringslaw01_VariAll.j1 kj4 l2 ((strOfNums t169).toList != ((strOfNums t151) ++ (strOfNums t155)).toList)) else (none)) else (mooringslaw01_VariAll.j1 kj4 l2 false)))) = some r := H
            have A17 := Aside0.mk A170
            clear A170
            have HC18 := Aside0.mk H
            clear H
            go_upto_region 9 with (first | ((with_reducible refine gate_callee (f := 12) rfl ?_); refine goesL_ (some 42) rfl rfl Try.func12 (by kernel_rfl) rfl #[.slice A0 l0.length c0] rfl (by (try simp only [List.map_toArray, List.map_cons, List.map_nil]); first | done | rfl | (simp only [List.length_drop, List.length_take]; rfl)) ?_; (with_reducible refine (vari_All.calls _ _ l0 t151 t152 _ ?side1 ?side2 A11.out).mono ?_); (case side1 => repeat (first | exact (Kd.C_below HR0.out HB.out) | (with_reducible refine Kd.C_alloc ?_ _) | (with_reducible refine Kd.C_drewN ?_ _) | (with_reducible refine Kd.C_drew ?_))); (case side2 => exact HC0.out); rintro e w19 ⟨v153, rfl, ho0, hb⟩; refine ⟨_, rfl, ?_⟩; have n0_ := Aside0.mk (Kd.R_lower ho0 (below_size (by repeat (first | (with_reducible first | exact HB.out | apply below_alloc | apply pw_below_drewN | apply below_drew1) | exact HB.out)))); have n1_ := Aside0.mk (below_step (by repeat (first | (with_reducible first | exact HB.out | apply below_alloc | apply pw_below_drewN | apply below_drew1) | exact HB.out)) hb); clear HB; have HO154 := n0_; have HB := n1_; clear n0_ n1_; (try clear hb); (try clear hb2); (try clear hk); (try clear hi); (try clear ho0)) | ((with_reducible refine gate_callee (f := 12) rfl ?_); refine goesL_ (some 47) rfl rfl Try.func12 (by kernel_rfl) rfl #[.slice A1 l1.length c1] rfl (by (try simp only [List.map_toArray, List.map_cons, List.map_nil]); first | done | rfl | (simp only [List.length_drop, List.length_take]; rfl)) ?_; (with_reducible refine (vari_All.calls _ _ l1 t155 t156 _ ?side1 ?side2 A12.out).mono ?_); (case side1 => repeat (first | exact (Kd.C_below HR1.out HB.out) | (with_reducible refine Kd.C_alloc ?_ _) | (with_reducible refine Kd.C_drewN ?_ _) | (with_reducible refine Kd.C_drew ?_))); (case side2 => exact HC1.out); rintro e w20 ⟨v157, rfl, ho0, hb⟩; refine ⟨_, rfl, ?_⟩; have n0_ := Aside0.mk (Kd.R_elder' (by (with_reducible repeat (first | apply Kd.R_alloc | apply Kd.R_drewN | apply Kd.R_drew)); exact HO154.out) (Kd.R_base ho0) hb); have n1_ := Aside0.mk (Kd.R_lower (Kd.R_new' ho0 (Kd.R_lt (by (with_reducible repeat (first | apply Kd.R_alloc | apply Kd.R_drewN | apply Kd.R_drew)); exact HO154.out))) (below_size (by repeat (first | (with_reducible first | exact HB.out | apply below_alloc | apply pw_below_drewN | apply below_drew1) | exact HB.out)))); have n2_ := Aside0.mk (below_step (by repeat (first | (with_reducible first | exact HB.out | apply below_alloc | apply pw_below_drewN | apply below_drew1) | exact HB.out)) hb); clear HO154; clear HB; have HO154 := n0_; have HO158 := n1_; have HB := n2_; clear n0_ n1_ n2_; (try clear hb); (try clear hb2); (try clear hk); (try clear hi); (try clear ho0); obtain ⟨Ao21, co21, eo21⟩ := Kd.R_slice HO154.out; subst eo21) | ((with_reducible refine gate_callee (f := 14) rfl ?_); refine goesL_ (some 52) rfl rfl Try.func14 (by kernel_rfl) rfl #[.slice Ao21 t151.length co21] rfl (by (try simp only [List.map_toArray, List.map_cons, List.map_nil]); first | done | rfl | (simp only [List.length_drop, List.length_take]; rfl)) ?_; (with_reducible refine (vari_Read.calls _ _ t151 t159 t160 _ ?side1 ?side2 A13.out).mono ?_); (case side1 => repeat (first | exact (Kd.R_reads' HO154.out).2.2 | (with_reducible refine Kd.C_alloc ?_ _) | (with_reducible refine Kd.C_drewN ?_ _) | (with_reducible refine Kd.C_drew ?_))); (case side2 => exact (Kd.R_reads' HO154.out).2.1); rintro e w22 ⟨v161, rfl, ho0, hb⟩; refine ⟨_, rfl, ?_⟩; have n0_ := Aside0.mk (Kd.R_below (by (with_reducible repeat (first | apply Kd.R_alloc | apply Kd.R_drewN | apply Kd.R_drew)); exact HO154.out) hb); have n1_ := Aside0.mk (Kd.R_below (by (with_reducible repeat (first | apply Kd.R_alloc | apply Kd.R_drewN | apply Kd.R_drew)); exact HO158.out) hb); have n2_ := Aside0.mk (Kd.R_lower ho0 (below_size (by repeat (first | (with_reducible first | exact HB.out | apply below_alloc | apply pw_below_drewN | apply below_drew1) | exact HB.out)))); have n3_ := Aside0.mk (below_step (by repeat (first | (with_reducible first | exact HB.out | apply below_alloc | apply pw_below_drewN | apply below_drew1) | exact HB.out)) hb); clear HO154; clear HO158; clear HB; have HO154 := n0_; have HO158 := n1_; have HO162 := n2_; have HB := n3_; clear n0_ n1_ n2_ n3_; (try clear hb); (try clear hb2); (try clear hk); (try clear hi); (try clear ho0)) | ((with_reducible refine gate_builtin (b := .append) (xs := #[.const (.slice none 0 0), .tmp 56]) rfl ?_); (try (refine gate_guard (by rfl) ?_; dsimp only)); at_builtin; refine Kd.R_append_rows (Kd.int .i64) (w0 := w) w.heap.size rfl (.const (.slice none 0 0)) (.tmp 56) 23 3 (.int .i64 0) 8 rfl Try.underlying23 info3 rfl (by decide) (by omega) (.slice none 0 0) ([] : List Int) l0 _ _ _ (fun k_ => some k_ ≠ (v161 : Value).ownBlock) (fun _ => False) rfl rfl ?aO ?aR (fun _ _ h => h) (fun _ h => h.elim) ?aF ?aB ?aS ?aL ?_; (case aR => repeat (first | exact (Kd.C_below HR0.out HB.out) | (with_reducible refine Kd.C_alloc ?_ _) | (with_reducible refine Kd.C_drewN ?_ _) | (with_reducible refine Kd.C_drew ?_))); (case aB => exact (by repeat (first | (with_reducible first | exact HB.out | apply below_alloc | apply pw_below_drewN | apply below_drew1) | exact HB.out))); (case aF => exact (fun k_ hk => Kd.fresh' (Kd.R_lt (by (with_reducible repeat (first | apply Kd.R_alloc | apply Kd.R_drewN | apply Kd.R_drew)); exact HO162.out)) k_ hk)); (case aO => exact ((Kd.R_nil _ _ _ _ (fun k_ => some k_ ≠ (v161 : Value).ownBlock)))); (case aS => exact (below_size (by repeat (first | (with_reducible first | exact HB.out | apply below_alloc | apply pw_below_drewN | apply below_drew1) | exact HB.out)))); (case aL => have := LMc14.out; omega); intro v164 w23 ho hb hg hat; rw [← Ny163.out] at ho; have n0_ := Aside0.mk (Kd.R_grown (by (with_reducible repeat (first | apply Kd.R_alloc | apply Kd.R_drewN | apply Kd.R_drew)); exact HO154.out) hg (fun _ _ => by simp [Value.ownBlock])); have n1_ := Aside0.mk (Kd.R_grown (by (with_reducible repeat (first | apply Kd.R_alloc | apply Kd.R_drewN | apply Kd.R_drew)); exact HO158.out) hg (fun _ _ => by simp [Value.ownBlock])); have n2_ := Aside0.mk (Kd.R_after (Kd.R_apart_nil (by (with_reducible repeat (first | apply Kd.R_alloc | apply Kd.R_drewN | apply Kd.R_drew)); exact HO162.out)) hg hat); have n3_ := Aside0.mk (hb); have n4_ := Aside0.mk (ho); clear HO154; clear HO158; clear HO162; clear HB; have HO154 := n0_; have HO158 := n1_; have HO162 := n2_; have HB := n3_; have HO165 := n4_; clear n0_ n1_ n2_ n3_ n4_; clear ho hb hg hat) | ((with_reducible refine gate_builtin (b := .append) (xs := #[.tmp 57, .tmp 58]) rfl ?_); (try (refine gate_guard (by rfl) ?_; dsimp only)); at_builtin; refine Kd.R_append_rows (Kd.int .i64) (w0 := w) w.heap.size rfl (.tmp 57) (.tmp 58) 23 3 (.int .i64 0) 8 rfl Try.underlying23 info3 rfl (by decide) (by omega) v164 y163 l1 _ _ _ (fun k_ => some k_ ≠ (v161 : Value).ownBlock) (fun _ => False) rfl rfl ?aO ?aR (fun _ _ h => h) (fun _ h => h.elim) ?aF ?aB ?aS ?aL ?_; (case aR => repeat (first | exact (Kd.C_below HR1.out HB.out) | (with_reducible refine Kd.C_alloc ?_ _) | (with_reducible refine Kd.C_drewN ?_ _) | (with_reducible refine Kd.C_drew ?_))); (case aB => exact (by repeat (first | (with_reducible first | exact HB.out | apply below_alloc | apply pw_below_drewN | apply below_drew1) | exact HB.out))); (case aF => exact (fun k_ hk => Kd.fresh' (Kd.R_lt (by (with_reducible repeat (first | apply Kd.R_alloc | apply Kd.R_drewN | apply Kd.R_drew)); exact HO162.out)) k_ hk)); (case aO => exact (by (with_reducible repeat (first | apply Kd.R_alloc | apply Kd.R_drewN | apply Kd.R_drew)); exact HO165.out)); (case aS => exact (below_size (by repeat (first | (with_reducible first | exact HB.out | apply below_alloc | apply pw_below_drewN | apply below_drew1) | exact HB.out)))); (case aL => have := LMc15.out; omega); intro v167 w24 ho hb hg hat; rw [← Ny166.out] at ho; have n0_ := Aside0.mk (Kd.R_over' (by (with_reducible repeat (first | apply Kd.R_alloc | apply Kd.R_drewN | apply Kd.R_drew)); exact HO154.out) (Kd.R_typed (by (with_reducible repeat (first | apply Kd.R_alloc | apply Kd.R_drewN | apply Kd.R_drew)); exact HO165.out)) (by decide) hg); have n1_ := Aside0.mk (Kd.R_over' (by (with_reducible repeat (first | apply Kd.R_alloc | apply Kd.R_drewN | apply Kd.R_drew)); exact HO158.out) (Kd.R_typed (by (with_reducible repeat (first | apply Kd.R_alloc | apply Kd.R_drewN | apply Kd.R_drew)); exact HO165.out)) (by decide) hg); have n2_ := Aside0.mk (Kd.R_after (ok := (fun _ => True)) (by (with_reducible repeat (first | apply Kd.R_alloc | apply Kd.R_drewN | apply Kd.R_drew)); exact HO162.out) hg hat); have n3_ := Aside0.mk (hb); have n4_ := Aside0.mk (ho); clear HO154; clear HO158; clear HO162; clear HB; clear HO165; have HO154 := n0_; have HO158 := n1_; have HO162 := n2_; have HB := n3_; have HO168 := n4_; clear n0_ n1_ n2_ n3_ n4_; clear ho hb hg hat; obtain ⟨Ao25, co25, eo25⟩ := Kd.R_slice HO168.out; subst eo25) | ((with_reducible refine gate_callee (f := 12) rfl ?_); refine goesL_ (some 60) rfl rfl Try.func12 (by kernel_rfl) rfl #[.slice Ao25 y166.length co25] rfl (by (try simp only [List.map_toArray, List.map_cons, List.map_nil]); first | done | rfl | (simp only [List.length_drop, List.length_take]; rfl)) ?_; (with_reducible refine (vari_All.calls _ _ y166 t169 t170 _ ?side1 ?side2 A16.out).mono ?_); (case side1 => repeat (first | exact (Kd.R_reads' HO168.out).2.2 | (with_reducible refine Kd.C_alloc ?_ _) | (with_reducible refine Kd.C_drewN ?_ _) | (with_reducible refine Kd.C_drew ?_))); (case side2 => exact (Kd.R_reads' HO168.out).2.1); rintro e w26 ⟨v171, rfl, ho0, hb⟩; refine ⟨_, rfl, ?_⟩; have n0_ := Aside0.mk (Kd.R_elder' (by (with_reducible repeat (first | apply Kd.R_alloc | apply Kd.R_drewN | apply Kd.R_drew)); exact HO154.out) (Kd.R_base ho0) hb); have n1_ := Aside0.mk (Kd.R_elder' (by (with_reducible repeat (first | apply Kd.R_alloc | apply Kd.R_drewN | apply Kd.R_drew)); exact HO158.out) (Kd.R_base ho0) hb); have n2_ := Aside0.mk (Kd.R_below (by (with_reducible repeat (first | apply Kd.R_alloc | apply Kd.R_drewN | apply Kd.R_drew)); exact HO162.out) hb); have n3_ := Aside0.mk (Kd.R_below (by (with_reducible repeat (first | apply Kd.R_alloc | apply Kd.R_drewN | apply Kd.R_drew)); exact HO168.out) hb); have n4_ := Aside0.mk (Kd.R_lower (Kd.R_new' (Kd.R_new' ho0 (Kd.R_lt (by (with_reducible repeat (first | apply Kd.R_alloc | apply Kd.R_drewN | apply Kd.R_drew)); exact HO154.out))) (Kd.R_lt (by (with_reducible repeat (first | apply Kd.R_alloc | apply Kd.R_drewN | apply Kd.R_drew)); exact HO158.out))) (below_size (by repeat (first | (with_reducible first | exact HB.out | apply below_alloc | apply pw_below_drewN | apply below_drew1) | exact HB.out)))); have n5_ := Aside0.mk (below_step (by repeat (first | (with_reducible first | exact HB.out | apply below_alloc | apply pw_below_drewN | apply below_drew1) | exact HB.out)) hb); clear HO154; clear HO158; clear HO162; clear HO168; clear HB; have HO154 := n0_; have HO158 := n1_; have HO162 := n2_; have HO168 := n3_; have HO172 := n4_; have HB := n5_; clear n0_ n1_ n2_ n3_ n4_ n5_; (try clear hb); (try clear hb2); (try clear hk); (try clear hi); (try clear ho0); obtain ⟨Ao27, co27, eo27⟩ := Kd.R_slice HO162.out; subst eo27) | ((with_reducible refine gate_callee (f := 16) rfl ?_); refine goesL_ (some 65) rfl rfl Try.func16 (by kernel_rfl) rfl #[.slice Ao27 t159.length co27, .slice A0 l0.length c0] rfl (by (try simp only [List.map_toArray, List.map_cons, List.map_nil]); first | done | rfl | (simp only [List.length_drop, List.length_take]; rfl)) ?_; (with_reducible refine (mooringsref01_Ints.calls _ _ t159 _ _ l0 t173 _ ?side1 ?side2 ?side3 ?side4 A17.out).mono ?_); (case side1 => repeat (first | exact (Kd.R_reads' HO162.out).2.2 | (with_reducible refine Kd.C_alloc ?_ _) | (with_reducible refine Kd.C_drewN ?_ _) | (with_reducible refine Kd.C_drew ?_))); (case side2 => exact (Kd.R_reads' HO162.out).2.1); (case side3 => repeat (first | exact (Kd.C_below HR0.out HB.out) | (with_reducible refine Kd.C_alloc ?_ _) | (with_reducible refine Kd.C_drewN ?_ _) | (with_reducible refine Kd.C_drew ?_))); (case side4 => exact HC0.out); rintro e w28 ⟨rfl, hb⟩; refine ⟨_, rfl, ?_⟩; have n0_ := Aside0.mk (Kd.R_below (by (with_reducible repeat (first | apply Kd.R_alloc | apply Kd.R_drewN | apply Kd.R_drew)); exact HO154.out) hb); have n1_ := Aside0.mk (Kd.R_below (by (with_reducible repeat (first | apply Kd.R_alloc | apply Kd.R_drewN | apply Kd.R_drew)); exact HO158.out) hb); have n2_ := Aside0.mk (Kd.R_below (by (with_reducible repeat (first | apply Kd.R_alloc | apply Kd.R_drewN | apply Kd.R_drew)); exact HO162.out) hb); have n3_ := Aside0.mk (Kd.R_below (by (with_reducible repeat (first | apply Kd.R_alloc | apply Kd.R_drewN | apply Kd.R_drew)); exact HO168.out) hb); have n4_ := Aside0.mk (Kd.R_below (by (with_reducible repeat (first | apply Kd.R_alloc | apply Kd.R_drewN | apply Kd.R_drew)); exact HO172.out) hb); have n5_ := Aside0.mk (below_step (by repeat (first | (with_reducible first | exact HB.out | apply below_alloc | apply pw_below_drewN | apply below_drew1) | exact HB.out)) hb); clear HO154; clear HO158; clear HO162; clear HO168; clear HO172; clear HB; have HO154 := n0_; have HO158 := n1_; have HO162 := n2_; have HO168 := n3_; have HO172 := n4_; have HB := n5_; clear n0_ n1_ n2_ n3_ n4_ n5_; (try clear hb); (try clear hb2); (try clear hk); (try clear hi)))
            (try simp only [Act.put, List.setIfInBounds_toArray, List.set_cons_zero, List.set_cons_succ])
            go_cut [95] (fun v95 wc => ∃ (kq : Nat) (x95_17 : Bool), v95 = .bool x95_17 ∧ Aside0 (mooringslaw01_VariAll.j1 kq l2 x95_17 = some r) ∧ Aside0 (kq ≤ kj4) ∧ Aside0 (Below w.heap.size w wc))
            case first =>
              have H := HC18.out
              clear HC18
              by_cases c29 : t152 = true
              · subst c29
                have H1 : (if t160 = true then (if t173 = true then (if (t170 != t156) = true then (mooringslaw01_VariAll.j1 kj4 l2 true) else (if t170 = true then (if (strOfNums t151).size + (strOfNums t155).size ≤ 9223372036854775807 then (mooringslaw01_VariAll.j1 kj4 l2 ((strOfNums t169).toList != ((strOfNums t151) ++ (strOfNums t155)).toList)) else (none)) else (mooringslaw01_VariAll.j1 kj4 l2 false))) else (mooringslaw01_VariAll.j1 kj4 l2 true)) else (mooringslaw01_VariAll.j1 kj4 l2 true)) = some r := by rw [if_pos rfl] at H; exact H
                clear H
                have H := H1
                clear H1
                by_cases c30 : t160 = true
                · subst c30
                  have H1 : (if t173 = true then (if (t170 != t156) = true then (mooringslaw01_VariAll.j1 kj4 l2 true) else (if t170 = true then (if (strOfNums t151).size + (strOfNums t155).size ≤ 9223372036854775807 then (mooringslaw01_VariAll.j1 kj4 l2 ((strOfNums t169).toList != ((strOfNums t151) ++ (strOfNums t155)).toList)) else (none)) else (mooringslaw01_VariAll.j1 kj4 l2 false))) else (mooringslaw01_VariAll.j1 kj4 l2 true)) = some r := by rw [if_pos rfl] at H; exact H
                  clear H
                  have H := H1
                  clear H1
                  by_cases c31 : t173 = true
                  · subst c31
                    have H1 : (if (t170 != t156) = true then (mooringslaw01_VariAll.j1 kj4 l2 true) else (if t170 = true then (if (strOfNums t151).size + (strOfNums t155).size ≤ 9223372036854775807 then (mooringslaw01_VariAll.j1 kj4 l2 ((strOfNums t169).toList != ((strOfNums t151) ++ (strOfNums t155)).toList)) else (none)) else (mooringslaw01_VariAll.j1 kj4 l2 false))) = some r := by rw [if_pos rfl] at H; exact H
                    clear H
                    have H := H1
                    clear H1
                    by_cases c32 : (t170 != t156) = true
                    · rw [if_pos c32] at H
                      have c32b0 : (t170 != t156) = true := c32
                      (try (have c32b1 : decide (t170 = t156) = false := by simpa using c32))
                      (try (have c32b2 : (t170 == t156) = false := by simpa using c32))
                      (try (have c32b3 : ¬ (t170 = t156) := by simpa using c32))
                      clear c32
                      (first | rw [c32b0] | (simp only [i64_w, i32_w]; rw [c32b0]) | skip)
                      have H' := Aside0.mk H
                      clear H
                      go_wp2
                      go_meet
                      case rel => exact ⟨_, (true), (by first | rfl | (simp; done) | (simp [*]; done)), H', ⟨by have := HJ4.out; first | omega | exact Nat.le_refl _⟩, ⟨by repeat (first | (with_reducible first | exact HB.out | apply below_alloc | apply pw_below_drewN | apply below_drew1) | exact HB.out)⟩⟩
                    · rw [if_neg c32] at H
                      have c32b0 : (t170 != t156) = false := by simpa using c32
                      (try (have c32b1 : decide (t170 = t156) = true := by simpa using c32))
                      (try (have c32b2 : (t170 == t156) = true := by simpa using c32))
                      clear c32
                      (first | rw [c32b0] | (simp only [i64_w, i32_w]; rw [c32b0]) | skip)
                      by_cases c33 : t170 = true
                      · subst c33
                        have H1 : (if (strOfNums t151).size + (strOfNums t155).size ≤ 9223372036854775807 then (mooringslaw01_VariAll.j1 kj4 l2 ((strOfNums t169).toList != ((strOfNums t151) ++ (strOfNums t155)).toList)) else (none)) = some r := by rw [if_pos rfl] at H; exact H
                        clear H
                        have H := H1
                        clear H1
                        by_cases c34 : (strOfNums t151).size + (strOfNums t155).size ≤ 9223372036854775807
                        · rw [if_pos c34] at H
                          have c34b0 := eq_true c34
                          have c34b1 : decide ((strOfNums t151).size + (strOfNums t155).size ≤ 9223372036854775807) = true := decide_eq_true c34
                          try have c34b2 : (9223372036854775807 < (strOfNums t151).size + (strOfNums t155).size) = False := eq_false (Nat.not_lt.2 c34)
                          have H' := Aside0.mk H
                          clear H
                          have hcv35 := own_string (P := Try.prog) Try.underlying22 Try.underlying5 Try.underlying9 (Kd.own_of_R HO172.out)
                          have hcv36 := own_string (P := Try.prog) Try.underlying22 Try.underlying5 Try.underlying9 (Kd.own_of_R HO154.out)
                          have hcv37 := own_string (P := Try.prog) Try.underlying22 Try.underlying5 Try.underlying9 (Kd.own_of_R HO158.out)
                          go_wp2
                          go_meet
                          case rel => exact ⟨_, (((strOfNums t169).toList != ((strOfNums t151) ++ (strOfNums t155)).toList)), (by first | rfl | (simp; done) | (simp [*]; done)), H', ⟨by have := HJ4.out; first | omega | exact Nat.le_refl _⟩, ⟨by repeat (first | (with_reducible first | exact HB.out | apply below_alloc | apply pw_below_drewN | apply below_drew1) | exact HB.out)⟩⟩
                        · rw [if_neg c34] at H
                          exact absurd H (by simp)
                      · replace c33 := Bool.eq_false_iff.mpr c33
                        subst c33
                        have H1 : (mooringslaw01_VariAll.j1 kj4 l2 false) = some r := by rw [if_neg (show ¬ (false = true) by decide)] at H; exact H
                        clear H
                        have H := H1
                        clear H1
                        have H' := Aside0.mk H
                        clear H
                        go_wp2
                        go_meet
                        case rel => exact ⟨_, (false), (by first | rfl | (simp; done) | (simp [*]; done)), H', ⟨by have := HJ4.out; first | omega | exact Nat.le_refl _⟩, ⟨by repeat (first | (with_reducible first | exact HB.out | apply below_alloc | apply pw_below_drewN | apply below_drew1) | exact HB.out)⟩⟩
                  · replace c31 := Bool.eq_false_iff.mpr c31
                    subst c31
                    have H1 : (mooringslaw01_VariAll.j1 kj4 l2 true) = some r := by rw [if_neg (show ¬ (false = true) by decide)] at H; exact H
                    clear H
                    have H := H1
                    clear H1
                    have H' := Aside0.mk H
                    clear H
                    go_wp2
                    go_meet
                    case rel => exact ⟨_, (true), (by first | rfl | (simp; done) | (simp [*]; done)), H', ⟨by have := HJ4.out; first | omega | exact Nat.le_refl _⟩, ⟨by repeat (first | (with_reducible first | exact HB.out | apply below_alloc | apply pw_below_drewN | apply below_drew1) | exact HB.out)⟩⟩
                · replace c30 := Bool.eq_false_iff.mpr c30
                  subst c30
                  have H1 : (mooringslaw01_VariAll.j1 kj4 l2 true) = some r := by rw [if_neg (show ¬ (false = true) by decide)] at H; exact H
                  clear H
                  have H := H1
                  clear H1
                  have H' := Aside0.mk H
                  clear H
                  go_wp2
                  go_meet
                  case rel => exact ⟨_, (true), (by first | rfl | (simp; done) | (simp [*]; done)), H', ⟨by have := HJ4.out; first | omega | exact Nat.le_refl _⟩, ⟨by repeat (first | (with_reducible first | exact HB.out | apply below_alloc | apply pw_below_drewN | apply below_drew1) | exact HB.out)⟩⟩
              · replace c29 := Bool.eq_false_iff.mpr c29
                subst c29
                have H1 : (if (t170 != false) = true then (mooringslaw01_VariAll.j1 kj4 l2 true) else (if t170 = true then (if (strOfNums t151).size + (strOfNums t155).size ≤ 9223372036854775807 then (mooringslaw01_VariAll.j1 kj4 l2 ((strOfNums t169).toList != ((strOfNums t151) ++ (strOfNums t155)).toList)) else (none)) else (mooringslaw01_VariAll.j1 kj4 l2 false))) = some r := by rw [if_neg (show ¬ (false = true) by decide)] at H; exact H
                clear H
                have H := H1
                clear H1
                by_cases c38 : (t170 != false) = true
                · rw [if_pos c38] at H
                  have c38b0 : (t170 != false) = true := c38
                  (try (have c38b1 : decide (t170 = false) = false := by simpa using c38))
                  (try (have c38b2 : (t170 == false) = false := by simpa using c38))
                  (try (have c38b3 : ¬ (t170 = false) := by simpa using c38))
                  clear c38
                  have H' := Aside0.mk H
                  clear H
                  go_wp2
                  go_meet
                  case rel => exact ⟨_, (true), (by first | rfl | (simp; done) | (simp [*]; done)), H', ⟨by have := HJ4.out; first | omega | exact Nat.le_refl _⟩, ⟨by repeat (first | (with_reducible first | exact HB.out | apply below_alloc | apply pw_below_drewN | apply below_drew1) | exact HB.out)⟩⟩
                · rw [if_neg c38] at H
                  have c38b0 : (t170 != false) = false := by simpa using c38
                  (try (have c38b1 : decide (t170 = false) = true := by simpa using c38))
                  (try (have c38b2 : (t170 == false) = true := by simpa using c38))
                  clear c38
                  by_cases c39 : t170 = true
                  · subst c39
                    have H1 : (if (strOfNums t151).size + (strOfNums t155).size ≤ 9223372036854775807 then (mooringslaw01_VariAll.j1 kj4 l2 ((strOfNums t169).toList != ((strOfNums t151) ++ (strOfNums t155)).toList)) else (none)) = some r := by rw [if_pos rfl] at H; exact H
                    clear H
                    have H := H1
                    clear H1
                    by_cases c40 : (strOfNums t151).size + (strOfNums t155).size ≤ 9223372036854775807
                    · rw [if_pos c40] at H
                      have c40b0 := eq_true c40
                      have c40b1 : decide ((strOfNums t151).size + (strOfNums t155).size ≤ 9223372036854775807) = true := decide_eq_true c40
                      try have c40b2 : (9223372036854775807 < (strOfNums t151).size + (strOfNums t155).size) = False := eq_false (Nat.not_lt.2 c40)
                      have H' := Aside0.mk H
                      clear H
                      have hcv41 := own_string (P := Try.prog) Try.underlying22 Try.underlying5 Try.underlying9 (Kd.own_of_R HO172.out)
                      have hcv42 := own_string (P := Try.prog) Try.underlying22 Try.underlying5 Try.underlying9 (Kd.own_of_R HO154.out)
                      have hcv43 := own_string (P := Try.prog) Try.underlying22 Try.underlying5 Try.underlying9 (Kd.own_of_R HO158.out)
                      go_wp2
                      go_meet
                      case rel => exact ⟨_, (((strOfNums t169).toList != ((strOfNums t151) ++ (strOfNums t155)).toList)), (by first | rfl | (simp; done) | (simp [*]; done)), H', ⟨by have := HJ4.out; first | omega | exact Nat.le_refl _⟩, ⟨by repeat (first | (with_reducible first | exact HB.out | apply below_alloc | apply pw_below_drewN | apply below_drew1) | exact HB.out)⟩⟩
                    · rw [if_neg c40] at H
                      exact absurd H (by simp)
                  · replace c39 := Bool.eq_false_iff.mpr c39
                    subst c39
                    have H1 : (mooringslaw01_VariAll.j1 kj4 l2 false) = some r := by rw [if_neg (show ¬ (false = true) by decide)] at H; exact H
                    clear H
                    have H := H1
                    clear H1
                    have H' := Aside0.mk H
                    clear H
                    go_wp2
                    go_meet
                    case rel => exact ⟨_, (false), (by first | rfl | (simp; done) | (simp [*]; done)), H', ⟨by have := HJ4.out; first | omega | exact Nat.le_refl _⟩, ⟨by repeat (first | (with_reducible first | exact HB.out | apply below_alloc | apply pw_below_drewN | apply below_drew1) | exact HB.out)⟩⟩
            case rest =>
              clear HC18
              try clear c1
              try clear c2
              try clear p2
              try clear c3
              try clear hcv3
              try clear c4
              try clear hcv4
              try clear c5
              try clear c7
              try clear c8
              try clear c8b0
              try clear c8b1
              try clear c9
              try clear c9b0
              try clear c9b1
              try clear c10
              try clear c12
              try clear c14
              try clear c15
              try clear c16
              try clear c29
              try clear c30
              try clear c31
              try clear c32
              try clear c32b0
              try clear c32b1
              try clear c32b2
              try clear c33
              try clear c34
              try clear c34b0
              try clear c34b1
              try clear c34b2
              try clear hcv35
              try clear hcv36
              try clear hcv37
              try clear c38
              try clear c38b0
              try clear c38b1
              try clear c38b2
              try clear c39
              try clear c40
              try clear c40b0
              try clear c40b1
              try clear c40b2
              try clear hcv41
              try clear hcv42
              try clear hcv43
              try clear p2
              obtain ⟨kq, x95_17, rfl, HA, HJ17, HB⟩ := hcut
              cases kq with
              | zero => exact absurd HA.out (by simp [mooringslaw01_VariAll.j1])
              | succ kj17 =>
                have H := HA.out
                clear HA
                simp only [mooringslaw01_VariAll.j1] at H
                by_cases c44 : x95_17 = true
                · subst c44
                  have H1 : (some false) = some r := by rw [if_pos rfl] at H; exact H
                  clear H
                  have H := H1
                  clear H1
                  obtain rfl := Option.some.inj H
                  go_wp2
                  go_ret
                  exact ⟨by first | rfl | (simp [errW_none, errW_some] <;> rfl) | (simp [*, errW_none, errW_some] <;> rfl), by repeat (first | (with_reducible first | exact HB.out | apply below_alloc | apply pw_below_drewN | apply below_drew1) | exact HB.out)⟩
                · replace c44 := Bool.eq_false_iff.mpr c44
                  subst c44
                  have H1 : ((vari_Read.f l2).bind fun bt174 => ((vari_All.f bt174.1).bind fun bt178 => (if bt174.2 = true then (if bt178.2 = true then (some ((strOfNums bt178.1).toList == (strOfNums l2).toList)) else (some false)) else (some true)))) = some r := by rw [if_neg (show ¬ (false = true) by decide)] at H; exact H
                  clear H
                  have H := H1
                  clear H1
                  replace H := Option.bind_eq_some_iff.mp H
                  obtain ⟨⟨t174, t175⟩, A450, H⟩ := H
                  replace H : ((vari_All.f t174).bind fun bt178 => (if t175 = true then (if bt178.2 = true then (some ((strOfNums bt178.1).toList == (strOfNums l2).toList)) else (some false)) else (some true))) = some r := H
                  have A45 := Aside0.mk A450
                  clear A450
                  replace H := Option.bind_eq_some_iff.mp H
                  obtain ⟨⟨t178, t179⟩, A460, H⟩ := H
                  replace H : (if t175 = true then (if t179 = true then (some ((strOfNums t178).toList == (strOfNums l2).toList)) else (some false)) else (some true)) = some r := H
                  have A46 := Aside0.mk A460
                  clear A460
                  by_cases c47 : t175 = true
                  · subst c47
                    have H1 : (if t179 = true then (some ((strOfNums t178).toList == (strOfNums l2).toList)) else (some false)) = some r := by rw [if_pos rfl] at H; exact H
                    clear H
                    have H := H1
                    clear H1
                    by_cases c48 : t179 = true
                    · subst c48
                      have H1 : (some ((strOfNums t178).toList == (strOfNums l2).toList)) = some r := by rw [if_pos rfl] at H; exact H
                      clear H
                      have H := H1
                      clear H1
                      obtain rfl := Option.some.inj H
                      go_wp2_with (first | ((with_reducible refine gate_callee (f := 14) rfl ?_); refine goesL_ (some 98) rfl rfl Try.func14 (by kernel_rfl) rfl #[.slice A2 l2.length c2] rfl (by (try simp only [List.map_toArray, List.map_cons, List.map_nil]); first | done | rfl | (simp only [List.length_drop, List.length_take]; rfl)) ?_; (with_reducible refine (vari_Read.calls _ _ l2 t174 true _ ?side1 ?side2 A45.out).mono ?_); (case side1 => repeat (first | exact (Kd.C_below HR2.out HB.out) | (with_reducible refine Kd.C_alloc ?_ _) | (with_reducible refine Kd.C_drewN ?_ _) | (with_reducible refine Kd.C_drew ?_))); (case side2 => exact HC2.out); rintro e w49 ⟨v176, rfl, ho0, hb⟩; refine ⟨_, rfl, ?_⟩; have n0_ := Aside0.mk (Kd.R_lower ho0 (below_size (by repeat (first | (with_reducible first | exact HB.out | apply below_alloc | apply pw_below_drewN | apply below_drew1) | exact HB.out)))); have n1_ := Aside0.mk (below_step (by repeat (first | (with_reducible first | exact HB.out | apply below_alloc | apply pw_below_drewN | apply below_drew1) | exact HB.out)) hb); clear HB; have HO177 := n0_; have HB := n1_; clear n0_ n1_; (try clear hb); (try clear hb2); (try clear hk); (try clear hi); (try clear ho0); obtain ⟨Ao50, co50, eo50⟩ := Kd.R_slice HO177.out; subst eo50) | ((with_reducible refine gate_callee (f := 12) rfl ?_); refine goesL_ (some 103) rfl rfl Try.func12 (by kernel_rfl) rfl #[.slice Ao50 t174.length co50] rfl (by (try simp only [List.map_toArray, List.map_cons, List.map_nil]); first | done | rfl | (simp only [List.length_drop, List.length_take]; rfl)) ?_; (with_reducible refine (vari_All.calls _ _ t174 t178 true _ ?side1 ?side2 A46.out).mono ?_); (case side1 => repeat (first | exact (Kd.R_reads' HO177.out).2.2 | (with_reducible refine Kd.C_alloc ?_ _) | (with_reducible refine Kd.C_drewN ?_ _) | (with_reducible refine Kd.C_drew ?_))); (case side2 => exact (Kd.R_reads' HO177.out).2.1); rintro e w51 ⟨v180, rfl, ho0, hb⟩; refine ⟨_, rfl, ?_⟩; have n0_ := Aside0.mk (Kd.R_below (by (with_reducible repeat (first | apply Kd.R_alloc | apply Kd.R_drewN | apply Kd.R_drew)); exact HO177.out) hb); have n1_ := Aside0.mk (Kd.R_lower ho0 (below_size (by repeat (first | (with_reducible first | exact HB.out | apply below_alloc | apply pw_below_drewN | apply below_drew1) | exact HB.out)))); have n2_ := Aside0.mk (below_step (by repeat (first | (with_reducible first | exact HB.out | apply below_alloc | apply pw_below_drewN | apply below_drew1) | exact HB.out)) hb); clear HO177; clear HB; have HO177 := n0_; have HO181 := n1_; have HB := n2_; clear n0_ n1_ n2_; (try clear hb); (try clear hb2); (try clear hk); (try clear hi); (try clear ho0); have hcv52 := own_string (P := Try.prog) Try.underlying22 Try.underlying5 Try.underlying9 (Kd.own_of_R HO181.out); have hcv53 := Kd.C_string (P := Try.prog) (A := A2) (c := c2) Try.underlying22 Try.underlying5 Try.underlying9 (Kd.C_below HR2.out HB.out)))
                      go_ret
                      exact ⟨by first | rfl | (simp [errW_none, errW_some] <;> rfl) | (simp [*, errW_none, errW_some] <;> rfl), by repeat (first | (with_reducible first | exact HB.out | apply below_alloc | apply pw_below_drewN | apply below_drew1) | exact HB.out)⟩
                    · replace c48 := Bool.eq_false_iff.mpr c48
                      subst c48
                      have H1 : (some false) = some r := by rw [if_neg (show ¬ (false = true) by decide)] at H; exact H
                      clear H
                      have H := H1
                      clear H1
                      obtain rfl := Option.some.inj H
                      go_wp2_with (first | ((with_reducible refine gate_callee (f := 14) rfl ?_); refine goesL_ (some 98) rfl rfl Try.func14 (by kernel_rfl) rfl #[.slice A2 l2.length c2] rfl (by (try simp only [List.map_toArray, List.map_cons, List.map_nil]); first | done | rfl | (simp only [List.length_drop, List.length_take]; rfl)) ?_; (with_reducible refine (vari_Read.calls _ _ l2 t174 true _ ?side1 ?side2 A45.out).mono ?_); (case side1 => repeat (first | exact (Kd.C_below HR2.out HB.out) | (with_reducible refine Kd.C_alloc ?_ _) | (with_reducible refine Kd.C_drewN ?_ _) | (with_reducible refine Kd.C_drew ?_))); (case side2 => exact HC2.out); rintro e w54 ⟨v176, rfl, ho0, hb⟩; refine ⟨_, rfl, ?_⟩; have n0_ := Aside0.mk (Kd.R_lower ho0 (below_size (by repeat (first | (with_reducible first | exact HB.out | apply below_alloc | apply pw_below_drewN | apply below_drew1) | exact HB.out)))); have n1_ := Aside0.mk (below_step (by repeat (first | (with_reducible first | exact HB.out | apply below_alloc | apply pw_below_drewN | apply below_drew1) | exact HB.out)) hb); clear HB; have HO177 := n0_; have HB := n1_; clear n0_ n1_; (try clear hb); (try clear hb2); (try clear hk); (try clear hi); (try clear ho0); obtain ⟨Ao55, co55, eo55⟩ := Kd.R_slice HO177.out; subst eo55) | ((with_reducible refine gate_callee (f := 12) rfl ?_); refine goesL_ (some 103) rfl rfl Try.func12 (by kernel_rfl) rfl #[.slice Ao55 t174.length co55] rfl (by (try simp only [List.map_toArray, List.map_cons, List.map_nil]); first | done | rfl | (simp only [List.length_drop, List.length_take]; rfl)) ?_; (with_reducible refine (vari_All.calls _ _ t174 t178 false _ ?side1 ?side2 A46.out).mono ?_); (case side1 => repeat (first | exact (Kd.R_reads' HO177.out).2.2 | (with_reducible refine Kd.C_alloc ?_ _) | (with_reducible refine Kd.C_drewN ?_ _) | (with_reducible refine Kd.C_drew ?_))); (case side2 => exact (Kd.R_reads' HO177.out).2.1); rintro e w56 ⟨v180, rfl, ho0, hb⟩; refine ⟨_, rfl, ?_⟩; have n0_ := Aside0.mk (Kd.R_below (by (with_reducible repeat (first | apply Kd.R_alloc | apply Kd.R_drewN | apply Kd.R_drew)); exact HO177.out) hb); have n1_ := Aside0.mk (Kd.R_lower ho0 (below_size (by repeat (first | (with_reducible first | exact HB.out | apply below_alloc | apply pw_below_drewN | apply below_drew1) | exact HB.out)))); have n2_ := Aside0.mk (below_step (by repeat (first | (with_reducible first | exact HB.out | apply below_alloc | apply pw_below_drewN | apply below_drew1) | exact HB.out)) hb); clear HO177; clear HB; have HO177 := n0_; have HO181 := n1_; have HB := n2_; clear n0_ n1_ n2_; (try clear hb); (try clear hb2); (try clear hk); (try clear hi); (try clear ho0)))
                      go_ret
                      exact ⟨by first | rfl | (simp [errW_none, errW_some] <;> rfl) | (simp [*, errW_none, errW_some] <;> rfl), by repeat (first | (with_reducible first | exact HB.out | apply below_alloc | apply pw_below_drewN | apply below_drew1) | exact HB.out)⟩
                  · replace c47 := Bool.eq_false_iff.mpr c47
                    subst c47
                    have H1 : (some true) = some r := by rw [if_neg (show ¬ (false = true) by decide)] at H; exact H
                    clear H
                    have H := H1
                    clear H1
                    obtain rfl := Option.some.inj H
                    go_wp2_with (first | ((with_reducible refine gate_callee (f := 14) rfl ?_); refine goesL_ (some 98) rfl rfl Try.func14 (by kernel_rfl) rfl #[.slice A2 l2.length c2] rfl (by (try simp only [List.map_toArray, List.map_cons, List.map_nil]); first | done | rfl | (simp only [List.length_drop, List.length_take]; rfl)) ?_; (with_reducible refine (vari_Read.calls _ _ l2 t174 false _ ?side1 ?side2 A45.out).mono ?_); (case side1 => repeat (first | exact (Kd.C_below HR2.out HB.out) | (with_reducible refine Kd.C_alloc ?_ _) | (with_reducible refine Kd.C_drewN ?_ _) | (with_reducible refine Kd.C_drew ?_))); (case side2 => exact HC2.out); rintro e w57 ⟨v176, rfl, ho0, hb⟩; refine ⟨_, rfl, ?_⟩; have n0_ := Aside0.mk (Kd.R_lower ho0 (below_size (by repeat (first | (with_reducible first | exact HB.out | apply below_alloc | apply pw_below_drewN | apply below_drew1) | exact HB.out)))); have n1_ := Aside0.mk (below_step (by repeat (first | (with_reducible first | exact HB.out | apply below_alloc | apply pw_below_drewN | apply below_drew1) | exact HB.out)) hb); clear HB; have HO177 := n0_; have HB := n1_; clear n0_ n1_; (try clear hb); (try clear hb2); (try clear hk); (try clear hi); (try clear ho0); obtain ⟨Ao58, co58, eo58⟩ := Kd.R_slice HO177.out; subst eo58) | ((with_reducible refine gate_callee (f := 12) rfl ?_); refine goesL_ (some 103) rfl rfl Try.func12 (by kernel_rfl) rfl #[.slice Ao58 t174.length co58] rfl (by (try simp only [List.map_toArray, List.map_cons, List.map_nil]); first | done | rfl | (simp only [List.length_drop, List.length_take]; rfl)) ?_; (with_reducible refine (vari_All.calls _ _ t174 t178 t179 _ ?side1 ?side2 A46.out).mono ?_); (case side1 => repeat (first | exact (Kd.R_reads' HO177.out).2.2 | (with_reducible refine Kd.C_alloc ?_ _) | (with_reducible refine Kd.C_drewN ?_ _) | (with_reducible refine Kd.C_drew ?_))); (case side2 => exact (Kd.R_reads' HO177.out).2.1); rintro e w59 ⟨v180, rfl, ho0, hb⟩; refine ⟨_, rfl, ?_⟩; have n0_ := Aside0.mk (Kd.R_below (by (with_reducible repeat (first | apply Kd.R_alloc | apply Kd.R_drewN | apply Kd.R_drew)); exact HO177.out) hb); have n1_ := Aside0.mk (Kd.R_lower ho0 (below_size (by repeat (first | (with_reducible first | exact HB.out | apply below_alloc | apply pw_below_drewN | apply below_drew1) | exact HB.out)))); have n2_ := Aside0.mk (below_step (by repeat (first | (with_reducible first | exact HB.out | apply below_alloc | apply pw_below_drewN | apply below_drew1) | exact HB.out)) hb); clear HO177; clear HB; have HO177 := n0_; have HO181 := n1_; have HB := n2_; clear n0_ n1_ n2_; (try clear hb); (try clear hb2); (try clear hk); (try clear hi); (try clear ho0)))
                    go_ret
                    exact ⟨by first | rfl | (simp [errW_none, errW_some] <;> rfl) | (simp [*, errW_none, errW_some] <;> rfl), by repeat (first | (with_reducible first | exact HB.out | apply below_alloc | apply pw_below_drewN | apply below_drew1) | exact HB.out)⟩
          · rw [if_neg c15] at H
            exact absurd H (by simp)
        · rw [if_neg c14] at H
          exact absurd H (by simp)

/-- THE ONE PURE STATEMENT of mooringslaw01_VariAll: yours. -/
def mooringslaw01_VariAll.Pure : Prop := ∀ (l0 : List Int) (l1 : List Int) (l2 : List Int), l0.length ≤ maxLen → l0.length * 8 ≤ 140737488351232 → (∀ x ∈ l0, (Lit.int .i64 x).wf = true) → l1.length ≤ maxLen → l1.length * 8 ≤ 140737488351232 → (∀ x ∈ l1, (Lit.int .i64 x).wf = true) → l2.length ≤ maxLen → l2.length * 1 ≤ 140737488351232 → (∀ x ∈ l2, (Lit.int .u8 x).wf = true) → ∃ k, mooringslaw01_VariAll.f k l0 l1 l2 = some true
theorem mooringslaw01_VariAll.walk (P : mooringslaw01_VariAll.Pure) (a0 : Option Addr) (len0 cap0 : Nat) (z0 : List Int) (a1 : Option Addr) (len1 cap1 : Nat) (z1 : List Int) (a2 : Option Addr) (len2 cap2 : Nat) (z2 : List Int) (w : World) (w0 : (a0 = none ∧ len0 = 0 ∧ cap0 = 0 ∧ z0 = []) ∨ ∃ x, a0 = some x ∧ len0 ≤ cap0 ∧ cap0 ≤ maxLen ∧ z0.length = cap0 ∧ (∀ i, i < z0.length → w.cell? (x.add i) = some (.int .i64 (z0.getD i 0))) ∧ ∀ n ∈ z0, (Lit.int .i64 n).wf = true) (y0 : len0 * 8 ≤ 140737488351232) (w1 : (a1 = none ∧ len1 = 0 ∧ cap1 = 0 ∧ z1 = []) ∨ ∃ x, a1 = some x ∧ len1 ≤ cap1 ∧ cap1 ≤ maxLen ∧ z1.length = cap1 ∧ (∀ i, i < z1.length → w.cell? (x.add i) = some (.int .i64 (z1.getD i 0))) ∧ ∀ n ∈ z1, (Lit.int .i64 n).wf = true) (y1 : len1 * 8 ≤ 140737488351232) (w2 : (a2 = none ∧ len2 = 0 ∧ cap2 = 0 ∧ z2 = []) ∨ ∃ x, a2 = some x ∧ len2 ≤ cap2 ∧ cap2 ≤ maxLen ∧ z2.length = cap2 ∧ (∀ i, i < z2.length → w.cell? (x.add i) = some (.int .u8 (z2.getD i 0))) ∧ ∀ n ∈ z2, (Lit.int .u8 n).wf = true) (y2 : len2 * 1 ≤ 140737488351232) :
    Calls Try.prog 5 #[.slice a0 len0 cap0, .slice a1 len1 cap1, .slice a2 len2 cap2] w fun e w' => e = .returned (.bool true) ∧ Below w.heap.size w w' := by
  obtain ⟨l0, rfl, hr0, hm0, hw0, hc0⟩ := ReadsInt.ofRowC w0
  obtain ⟨l1, rfl, hr1, hm1, hw1, hc1⟩ := ReadsInt.ofRowC w1
  obtain ⟨l2, rfl, hr2, hm2, hw2, hc2⟩ := ReadsInt.ofRowC w2
  obtain ⟨k, h⟩ := P l0 l1 l2 hm0 y0 hw0 hm1 y1 hw1 hm2 y2 hw2
  refine (mooringslaw01_VariAll.calls k _ _ l0 _ _ l1 _ _ l2 true w (Kd.C_of_reads (d := (0 : Int)) (h1 := fun _ => rfl) hr0) hc0 (Kd.C_of_reads (d := (0 : Int)) (h1 := fun _ => rfl) hr1) hc1 (Kd.C_of_reads (d := (0 : Int)) (h1 := fun _ => rfl) hr2) hc2 h).mono ?_
  rintro e w' ⟨rfl, hd⟩
  exact ⟨rfl, hd⟩

end Go.Proofs.Ytngohjjepjpdlaa.L
