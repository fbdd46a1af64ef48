/- Functions and laws of the program moorings: contracts of the Go functions, and, in a text named ..Law.., that the law returns true at every input that its row lets in. No conditions but those stated. Written for this claim by a run of the printer with some functions given (wip/myprint.sh). -/
import Derived.Test.YtodjlacbjcbafaaBx0
import Derived.Test.YtodjlacbjcbafaaBx1
import Derived.Test.YtodjlacbjcbafaaBx3
namespace Go.Proofs.Ytodjlacbjcbafaa.B
open Go.RowKit Go.Proofs.YtodjlacbjcbafaaW.PrintWords Go.Proofs.YtodjlacbjcbafaaW.PrintLast Go.Proofs.YtodjlacbjcbafaaW.PrintMore
attribute [local go_sem] max2_int min2_int max_two min_two max_three min_three max_four min_four   -- for this text's walks alone
set_option linter.unusedVariables false
set_option linter.unusedSimpArgs false

attribute [local go_sem high] eqA32
/-! ### event_May: function 17 -/
mutual
def event_May.j0 : Nat → Bool → Int → Int → Int → Int → Int → Int → Int → Int → Bool → Option (Bool)
  | 0, _, _, _, _, _, _, _, _, _, _ => none
  | k + 1, x19, x106000, x106001, x106002, x106003, x106004, x106005, x106006, x106007, x106008 => if x19 = true then (some false) else (if x106000 = 0 then (event_May.j1 k x106000 (x106000 == 0) x106000 x106001 x106002 x106003 x106004 x106005 x106006 x106007 x106008 0 0 2 0 0 0 0 0 false 0 0 0 0 0 0 0 0 false) else (event_May.j1 k x106000 (x106000 == 1) x106000 x106001 x106002 x106003 x106004 x106005 x106006 x106007 x106008 0 0 2 0 0 0 0 0 false 0 0 0 0 0 0 0 0 false))
def event_May.j1 : Nat → Int → Bool → Int → Int → Int → Int → Int → Int → Int → Int → Bool → Int → Int → Int → Int → Int → Int → Int → Int → Bool → Int → Int → Int → Int → Int → Int → Int → Int → Bool → Option (Bool)
  | 0, _, _, _, _, _, _, _, _, _, _, _, _, _, _, _, _, _, _, _, _, _, _, _, _, _, _, _, _, _ => none
  | k + 1, x23, x24, x106000, x106001, x106002, x106003, x106004, x106005, x106006, x106007, x106008, x108000, x108001, x108002, x108003, x108004, x108005, x108006, x108007, x108008, x109000, x109001, x109002, x109003, x109004, x109005, x109006, x109007, x109008 => if x24 = true then ((event_in.f x106002 0 31).bind fun t109 => (if t109 = true then ((event_in.f x106003 x109003 3).bind fun t110 => (if t110 = true then ((event_in.f x106004 0 7).bind fun t111 => (some t111)) else (some false))) else (some false))) else (if x23 = 2 then ((event_in.f x106002 0 3).bind fun t112 => (if t112 = true then ((event_in.f x106003 1 4).bind fun t113 => (if t113 = true then ((event_in.f x106004 0 x108004).bind fun t114 => (some t114)) else (some false))) else (some false))) else (if x23 = 4 then ((event_in.f x106002 0 x108002).bind fun t115 => (if t115 = true then ((event_in.f x106003 1 4).bind fun t116 => (if t116 = true then ((event_in.f x106004 0 x108004).bind fun t117 => (some t117)) else (some false))) else (some false))) else (if x23 = 3 then (event_May.j2 k x23 (x23 == 3) x106000 x106001 x106002 x106003 x106004 x106005 x106006 x106007 x106008 x108000 x108001 x108002 x108003 x108004 x108005 x108006 x108007 x108008 x109000 x109001 x109002 x109003 x109004 x109005 x109006 x109007 x109008) else (event_May.j2 k x23 (x23 == 5) x106000 x106001 x106002 x106003 x106004 x106005 x106006 x106007 x106008 x108000 x108001 x108002 x108003 x108004 x108005 x108006 x108007 x108008 x109000 x109001 x109002 x109003 x109004 x109005 x109006 x109007 x109008))))
def event_May.j2 : Nat → Int → Bool → Int → Int → Int → Int → Int → Int → Int → Int → Bool → Int → Int → Int → Int → Int → Int → Int → Int → Bool → Int → Int → Int → Int → Int → Int → Int → Int → Bool → Option (Bool)
  | 0, _, _, _, _, _, _, _, _, _, _, _, _, _, _, _, _, _, _, _, _, _, _, _, _, _, _, _, _, _ => none
  | k + 1, x23, x37, x106000, x106001, x106002, x106003, x106004, x106005, x106006, x106007, x106008, x108000, x108001, x108002, x108003, x108004, x108005, x108006, x108007, x108008, x109000, x109001, x109002, x109003, x109004, x109005, x109006, x109007, x109008 => if x37 = true then ((event_in.f x106002 0 x108002).bind fun t118 => (if t118 = true then ((event_in.f x106003 x109003 x108003).bind fun t119 => (if t119 = true then ((event_in.f x106004 0 x108004).bind fun t120 => (some t120)) else (some false))) else (some false))) else (if x23 = 6 then ((alloc_MayPolicy.f x106005 x106006 x106007 x106008).bind fun t121 => (if t121 = true then ((event_in.f x106002 0 0).bind fun t122 => (if t122 = true then ((event_in.f x106003 x109003 x108003).bind fun t123 => (if t123 = true then ((event_in.f x106004 0 x108004).bind fun t124 => (some t124)) else (some false))) else (some false))) else (some false))) else (some false))
end
def event_May.f (k : Nat) (a0_0 : Int) (a0_1 : Int) (a0_2 : Int) (a0_3 : Int) (a0_4 : Int) (a0_5 : Int) (a0_6 : Int) (a0_7 : Int) (a0_8 : Bool) : Option (Bool) := (event_in.f a0_1 0 1073741824).bind fun t106 => (if t106 = true then (if a0_0 = 6 then (event_May.j0 k false a0_0 a0_1 a0_2 a0_3 a0_4 a0_5 a0_6 a0_7 a0_8) else (event_May.j0 k (!(a0_5 == 0) || (!(a0_6 == 0) || (!(a0_7 == 0) || (a0_8)))) a0_0 a0_1 a0_2 a0_3 a0_4 a0_5 a0_6 a0_7 a0_8)) else (event_May.j0 k true a0_0 a0_1 a0_2 a0_3 a0_4 a0_5 a0_6 a0_7 a0_8))
theorem event_May.mono_l : ∀ k, (∀ y0 y1 y2 y3 y4 y5 y6 y7 y8 y9, LeO (event_May.j0 k y0 y1 y2 y3 y4 y5 y6 y7 y8 y9) (event_May.j0 (k + 1) y0 y1 y2 y3 y4 y5 y6 y7 y8 y9)) ∧ (∀ y0 y1 y2 y3 y4 y5 y6 y7 y8 y9 y10 y11 y12 y13 y14 y15 y16 y17 y18 y19 y20 y21 y22 y23 y24 y25 y26 y27 y28, LeO (event_May.j1 k y0 y1 y2 y3 y4 y5 y6 y7 y8 y9 y10 y11 y12 y13 y14 y15 y16 y17 y18 y19 y20 y21 y22 y23 y24 y25 y26 y27 y28) (event_May.j1 (k + 1) y0 y1 y2 y3 y4 y5 y6 y7 y8 y9 y10 y11 y12 y13 y14 y15 y16 y17 y18 y19 y20 y21 y22 y23 y24 y25 y26 y27 y28)) ∧ (∀ y0 y1 y2 y3 y4 y5 y6 y7 y8 y9 y10 y11 y12 y13 y14 y15 y16 y17 y18 y19 y20 y21 y22 y23 y24 y25 y26 y27 y28, LeO (event_May.j2 k y0 y1 y2 y3 y4 y5 y6 y7 y8 y9 y10 y11 y12 y13 y14 y15 y16 y17 y18 y19 y20 y21 y22 y23 y24 y25 y26 y27 y28) (event_May.j2 (k + 1) y0 y1 y2 y3 y4 y5 y6 y7 y8 y9 y10 y11 y12 y13 y14 y15 y16 y17 y18 y19 y20 y21 y22 y23 y24 y25 y26 y27 y28))
  | 0 => ⟨fun _ _ _ _ _ _ _ _ _ _ r h => by simp [event_May.j0] at h, fun _ _ _ _ _ _ _ _ _ _ _ _ _ _ _ _ _ _ _ _ _ _ _ _ _ _ _ _ _ r h => by simp [event_May.j1] at h, fun _ _ _ _ _ _ _ _ _ _ _ _ _ _ _ _ _ _ _ _ _ _ _ _ _ _ _ _ _ r h => by simp [event_May.j2] at h⟩
  | k + 1 => by
    obtain ⟨ih0, ih1, ih2⟩ := event_May.mono_l k
    refine ⟨?_, ?_, ?_⟩
    · intro y0 y1 y2 y3 y4 y5 y6 y7 y8 y9
      unfold event_May.j0
      repeat' first
      | (with_reducible exact ih0 _ _ _ _ _ _ _ _ _ _)
      | (with_reducible exact ih1 _ _ _ _ _ _ _ _ _ _ _ _ _ _ _ _ _ _ _ _ _ _ _ _ _ _ _ _ _)
      | (with_reducible exact ih2 _ _ _ _ _ _ _ _ _ _ _ _ _ _ _ _ _ _ _ _ _ _ _ _ _ _ _ _ _)
      | (with_reducible exact LeO.refl _)
      | (with_reducible exact LeO.none _)
      | (with_reducible refine LeO.ite ?_ ?_)
      | (with_reducible refine LeO.bind ?_ (fun _ => ?_))
      | exact ih0 _ _ _ _ _ _ _ _ _ _
      | exact ih1 _ _ _ _ _ _ _ _ _ _ _ _ _ _ _ _ _ _ _ _ _ _ _ _ _ _ _ _ _
      | exact ih2 _ _ _ _ _ _ _ _ _ _ _ _ _ _ _ _ _ _ _ _ _ _ _ _ _ _ _ _ _
      | exact LeO.none _
      | refine LeO.ite ?_ ?_
      | refine LeO.bind ?_ (fun _ => ?_)
    · intro y0 y1 y2 y3 y4 y5 y6 y7 y8 y9 y10 y11 y12 y13 y14 y15 y16 y17 y18 y19 y20 y21 y22 y23 y24 y25 y26 y27 y28
      unfold event_May.j1
      repeat' first
      | (with_reducible exact ih0 _ _ _ _ _ _ _ _ _ _)
      | (with_reducible exact ih1 _ _ _ _ _ _ _ _ _ _ _ _ _ _ _ _ _ _ _ _ _ _ _ _ _ _ _ _ _)
      | (with_reducible exact ih2 _ _ _ _ _ _ _ _ _ _ _ _ _ _ _ _ _ _ _ _ _ _ _ _ _ _ _ _ _)
      | (with_reducible exact LeO.refl _)
      | (with_reducible exact LeO.none _)
      | (with_reducible refine LeO.ite ?_ ?_)
      | (with_reducible refine LeO.bind ?_ (fun _ => ?_))
      | exact ih0 _ _ _ _ _ _ _ _ _ _
      | exact ih1 _ _ _ _ _ _ _ _ _ _ _ _ _ _ _ _ _ _ _ _ _ _ _ _ _ _ _ _ _
      | exact ih2 _ _ _ _ _ _ _ _ _ _ _ _ _ _ _ _ _ _ _ _ _ _ _ _ _ _ _ _ _
      | exact LeO.none _
      | refine LeO.ite ?_ ?_
      | refine LeO.bind ?_ (fun _ => ?_)
    · intro y0 y1 y2 y3 y4 y5 y6 y7 y8 y9 y10 y11 y12 y13 y14 y15 y16 y17 y18 y19 y20 y21 y22 y23 y24 y25 y26 y27 y28
      unfold event_May.j2
      repeat' first
      | (with_reducible exact ih0 _ _ _ _ _ _ _ _ _ _)
      | (with_reducible exact ih1 _ _ _ _ _ _ _ _ _ _ _ _ _ _ _ _ _ _ _ _ _ _ _ _ _ _ _ _ _)
      | (with_reducible exact ih2 _ _ _ _ _ _ _ _ _ _ _ _ _ _ _ _ _ _ _ _ _ _ _ _ _ _ _ _ _)
      | (with_reducible exact LeO.refl _)
      | (with_reducible exact LeO.none _)
      | (with_reducible refine LeO.ite ?_ ?_)
      | (with_reducible refine LeO.bind ?_ (fun _ => ?_))
      | exact ih0 _ _ _ _ _ _ _ _ _ _
      | exact ih1 _ _ _ _ _ _ _ _ _ _ _ _ _ _ _ _ _ _ _ _ _ _ _ _ _ _ _ _ _
      | exact ih2 _ _ _ _ _ _ _ _ _ _ _ _ _ _ _ _ _ _ _ _ _ _ _ _ _ _ _ _ _
      | exact LeO.none _
      | refine LeO.ite ?_ ?_
      | refine LeO.bind ?_ (fun _ => ?_)
theorem event_May.mono : ∀ a0 a1 a2 a3 a4 a5 a6 a7 a8 k, LeO (event_May.f k a0 a1 a2 a3 a4 a5 a6 a7 a8) (event_May.f (k + 1) a0 a1 a2 a3 a4 a5 a6 a7 a8) := by
  intro a0 a1 a2 a3 a4 a5 a6 a7 a8 k
  obtain ⟨ih0, ih1, ih2⟩ := event_May.mono_l k
  unfold event_May.f
  repeat' first
      | (with_reducible exact ih0 _ _ _ _ _ _ _ _ _ _)
      | (with_reducible exact ih1 _ _ _ _ _ _ _ _ _ _ _ _ _ _ _ _ _ _ _ _ _ _ _ _ _ _ _ _ _)
      | (with_reducible exact ih2 _ _ _ _ _ _ _ _ _ _ _ _ _ _ _ _ _ _ _ _ _ _ _ _ _ _ _ _ _)
      | (with_reducible exact LeO.refl _)
      | (with_reducible exact LeO.none _)
      | (with_reducible refine LeO.ite ?_ ?_)
      | (with_reducible refine LeO.bind ?_ (fun _ => ?_))
      | exact ih0 _ _ _ _ _ _ _ _ _ _
      | exact ih1 _ _ _ _ _ _ _ _ _ _ _ _ _ _ _ _ _ _ _ _ _ _ _ _ _ _ _ _ _
      | exact ih2 _ _ _ _ _ _ _ _ _ _ _ _ _ _ _ _ _ _ _ _ _ _ _ _ _ _ _ _ _
      | exact LeO.none _
      | refine LeO.ite ?_ ?_
      | refine LeO.bind ?_ (fun _ => ?_)
set_option maxHeartbeats 8000000 in
set_option maxRecDepth 100000 in
theorem event_May.calls (k : Nat) (a0_0 : Int) (a0_1 : Int) (a0_2 : Int) (a0_3 : Int) (a0_4 : Int) (a0_5 : Int) (a0_6 : Int) (a0_7 : Int) (a0_8 : Bool) (r : Bool) (w : World) (h : event_May.f k a0_0 a0_1 a0_2 a0_3 a0_4 a0_5 a0_6 a0_7 a0_8 = some r) :
    Calls Try.prog 17 #[.agg #[.int .i64 a0_0, .int .i64 a0_1, .int .i64 a0_2, .int .i64 a0_3, .int .i64 a0_4, .int .i64 a0_5, .int .i64 a0_6, .int .i64 a0_7, .bool a0_8]] w fun e w' => e = .returned (.bool r) ∧ Below w.heap.size w w' := by
  have hu34 := Try.underlying34
  have hu32 := Try.underlying32
  have HB := Aside0.mk (Below.refl w.heap.size w)
  have H : ((event_in.f a0_1 0 1073741824).bind fun t106 => (if t106 = true then (if a0_0 = 6 then (event_May.j0 k false a0_0 a0_1 a0_2 a0_3 a0_4 a0_5 a0_6 a0_7 a0_8) else (event_May.j0 k (!(a0_5 == 0) || (!(a0_6 == 0) || (!(a0_7 == 0) || (a0_8)))) a0_0 a0_1 a0_2 a0_3 a0_4 a0_5 a0_6 a0_7 a0_8)) else (event_May.j0 k true a0_0 a0_1 a0_2 a0_3 a0_4 a0_5 a0_6 a0_7 a0_8))) = some r := h
  clear h
  have HC2 := Aside0.mk H
  clear H
  go_enter Try.func17, Try.ntmps17
  go_upto_region 1 with (first | ((with_reducible refine gate_dst (N := 1) rfl ?_); refine box_event ?hg (N := 1) ?hd (cs := #[.int .i64 a0_0, .int .i64 a0_1, .int .i64 a0_2, .int .i64 a0_3, .int .i64 a0_4, .int .i64 a0_5, .int .i64 a0_6, .int .i64 a0_7, .bool a0_8]) (t := 34) ?hr ?_; (case hd => rfl); (case hg => rfl); (case hr => first | (go_simp; done) | (go_simp; rfl)); intro gb105 hg w3 hbox hb; have n0_ := Aside0.mk (below_step (by repeat (first | (with_reducible first | exact HB.out | apply below_alloc | apply pw_below_drewN | apply below_drew1) | exact HB.out)) hb); have n1_ := Aside0.mk (hbox); have n2_ := Aside0.mk ((by rw [hg]; exact (below_size (by repeat (first | (with_reducible first | exact HB.out | apply below_alloc | apply pw_below_drewN | apply below_drew1) | exact HB.out))) : w.heap.size ≤ gb105)); have n3_ := Aside0.mk ((by rw [hg]; exact (below_size (by repeat (first | (with_reducible first | exact HB.out | apply below_alloc | apply pw_below_drewN | apply below_drew1) | exact HB.out))) : w.heap.size ≤ gb105)); clear HB; have HB := n0_; have BK105 := n1_; have GW105 := n2_; have GE105 := n3_; clear n0_ n1_ n2_ n3_; clear hb hbox hg))
  (try simp only [Act.put, List.setIfInBounds_toArray, List.set_cons_zero, List.set_cons_succ])
  go_cut [19] (fun v19 wc => ∃ (kq : Nat) (x19_1 : Bool), v19 = .bool x19_1 ∧ Aside0 (event_May.j0 kq x19_1 a0_0 a0_1 a0_2 a0_3 a0_4 a0_5 a0_6 a0_7 a0_8 = some r) ∧ Aside0 (kq ≤ k) ∧ Aside0 (wc.heap[gb105]? = some (.cells #[.int .i64 a0_0, .int .i64 a0_1, .int .i64 a0_2, .int .i64 a0_3, .int .i64 a0_4, .int .i64 a0_5, .int .i64 a0_6, .int .i64 a0_7, .bool a0_8] 34 (0, 0))) ∧ Aside0 (Below w.heap.size w wc))
  case first =>
    have H := HC2.out
    clear HC2
    replace H := Option.bind_eq_some_iff.mp H
    obtain ⟨t106, A40, H⟩ := H
    replace H : (if t106 = true then (if a0_0 = 6 then (event_May.j0 k false a0_0 a0_1 a0_2 a0_3 a0_4 a0_5 a0_6 a0_7 a0_8) else (event_May.j0 k (!(a0_5 == 0) || (!(a0_6 == 0) || (!(a0_7 == 0) || (a0_8)))) a0_0 a0_1 a0_2 a0_3 a0_4 a0_5 a0_6 a0_7 a0_8)) else (event_May.j0 k true a0_0 a0_1 a0_2 a0_3 a0_4 a0_5 a0_6 a0_7 a0_8)) = some r := H
    have A4 := Aside0.mk A40
    clear A40
    by_cases c5 : t106 = true
    · subst c5
      have H1 : (if a0_0 = 6 then (event_May.j0 k false a0_0 a0_1 a0_2 a0_3 a0_4 a0_5 a0_6 a0_7 a0_8) else (event_May.j0 k (!(a0_5 == 0) || (!(a0_6 == 0) || (!(a0_7 == 0) || (a0_8)))) a0_0 a0_1 a0_2 a0_3 a0_4 a0_5 a0_6 a0_7 a0_8)) = some r := by rw [if_pos rfl] at H; exact H
      clear H
      have H := H1
      clear H1
      by_cases c6 : a0_0 = 6
      · rw [if_pos c6] at H
        have c6b0 : (a0_0 == 6) = true := beq_iff_eq.mpr c6
        have c6b1 : (a0_0 != 6) = false := bne_eq_false_iff_eq.mpr c6
        clear c6
        (first | rw [c6b0] | (simp only [i64_w, i32_w]; rw [c6b0]) | skip)
        have H' := Aside0.mk H
        clear H
        have hcz7_0 : w3.cell? ⟨gb105, 0, none⟩ = some (.int .i64 a0_0) := (blk_cell BK105.out 0).trans rfl
        have hcz7_1 : w3.cell? ⟨gb105, 1, none⟩ = some (.int .i64 a0_1) := (blk_cell BK105.out 1).trans rfl
        have hcz7_2 : w3.cell? ⟨gb105, 2, none⟩ = some (.int .i64 a0_2) := (blk_cell BK105.out 2).trans rfl
        have hcz7_3 : w3.cell? ⟨gb105, 3, none⟩ = some (.int .i64 a0_3) := (blk_cell BK105.out 3).trans rfl
        have hcz7_4 : w3.cell? ⟨gb105, 4, none⟩ = some (.int .i64 a0_4) := (blk_cell BK105.out 4).trans rfl
        have hcz7_5 : w3.cell? ⟨gb105, 5, none⟩ = some (.int .i64 a0_5) := (blk_cell BK105.out 5).trans rfl
        have hcz7_6 : w3.cell? ⟨gb105, 6, none⟩ = some (.int .i64 a0_6) := (blk_cell BK105.out 6).trans rfl
        have hcz7_7 : w3.cell? ⟨gb105, 7, none⟩ = some (.int .i64 a0_7) := (blk_cell BK105.out 7).trans rfl
        have hcz7_8 : w3.cell? ⟨gb105, 8, none⟩ = some (.bool a0_8) := (blk_cell BK105.out 8).trans rfl
        have hfz7_0 := blk_frozen BK105.out 0
        have hfz7_1 := blk_frozen BK105.out 1
        have hfz7_2 := blk_frozen BK105.out 2
        have hfz7_3 := blk_frozen BK105.out 3
        have hfz7_4 := blk_frozen BK105.out 4
        have hfz7_5 := blk_frozen BK105.out 5
        have hfz7_6 := blk_frozen BK105.out 6
        have hfz7_7 := blk_frozen BK105.out 7
        have hfz7_8 := blk_frozen BK105.out 8
        go_wp2_with (first | ((with_reducible refine gate_callee (f := 19) rfl ?_); refine goesL_ (some 7) rfl rfl Try.func19 (by kernel_rfl) rfl #[.int .i64 a0_1, .int .i64 0, .int .i64 1073741824] rfl (by (try simp only [List.map_toArray, List.map_cons, List.map_nil]); first | done | rfl | (simp only [List.length_drop, List.length_take]; rfl)) ?_; (with_reducible refine (event_in.calls a0_1 0 1073741824 true _ A4.out).mono ?_); rintro e w' ⟨rfl, ⟨nd, rfl⟩⟩; refine ⟨_, rfl, ?_⟩))
        go_meet
        case rel => exact ⟨_, (false), (by first | rfl | (simp; done) | (simp [*]; done)), H', ⟨by first | omega | exact Nat.le_refl _⟩, ⟨by (with_reducible repeat (first | refine blk_drewN ?_ _ | refine blk_drew ?_ | refine blk_alloc ?_ _)); exact BK105.out⟩, ⟨by repeat (first | (with_reducible first | exact HB.out | apply below_alloc | apply pw_below_drewN | apply below_drew1 | refine below_set ?_ GE105.out) | exact HB.out)⟩⟩
      · rw [if_neg c6] at H
        have c6b0 : (a0_0 == 6) = false := beq_eq_false_iff_ne.mpr c6
        have c6b1 : (a0_0 != 6) = true := bne_iff_ne.mpr c6
        (first | rw [c6b0] | (simp only [i64_w, i32_w]; rw [c6b0]) | skip)
        have H' := Aside0.mk H
        clear H
        have hcz8_0 : w3.cell? ⟨gb105, 0, none⟩ = some (.int .i64 a0_0) := (blk_cell BK105.out 0).trans rfl
        have hcz8_1 : w3.cell? ⟨gb105, 1, none⟩ = some (.int .i64 a0_1) := (blk_cell BK105.out 1).trans rfl
        have hcz8_2 : w3.cell? ⟨gb105, 2, none⟩ = some (.int .i64 a0_2) := (blk_cell BK105.out 2).trans rfl
        have hcz8_3 : w3.cell? ⟨gb105, 3, none⟩ = some (.int .i64 a0_3) := (blk_cell BK105.out 3).trans rfl
        have hcz8_4 : w3.cell? ⟨gb105, 4, none⟩ = some (.int .i64 a0_4) := (blk_cell BK105.out 4).trans rfl
        have hcz8_5 : w3.cell? ⟨gb105, 5, none⟩ = some (.int .i64 a0_5) := (blk_cell BK105.out 5).trans rfl
        have hcz8_6 : w3.cell? ⟨gb105, 6, none⟩ = some (.int .i64 a0_6) := (blk_cell BK105.out 6).trans rfl
        have hcz8_7 : w3.cell? ⟨gb105, 7, none⟩ = some (.int .i64 a0_7) := (blk_cell BK105.out 7).trans rfl
        have hcz8_8 : w3.cell? ⟨gb105, 8, none⟩ = some (.bool a0_8) := (blk_cell BK105.out 8).trans rfl
        have hfz8_0 := blk_frozen BK105.out 0
        have hfz8_1 := blk_frozen BK105.out 1
        have hfz8_2 := blk_frozen BK105.out 2
        have hfz8_3 := blk_frozen BK105.out 3
        have hfz8_4 := blk_frozen BK105.out 4
        have hfz8_5 := blk_frozen BK105.out 5
        have hfz8_6 := blk_frozen BK105.out 6
        have hfz8_7 := blk_frozen BK105.out 7
        have hfz8_8 := blk_frozen BK105.out 8
        go_wp2_with (first | ((with_reducible refine gate_callee (f := 19) rfl ?_); refine goesL_ (some 7) rfl rfl Try.func19 (by kernel_rfl) rfl #[.int .i64 a0_1, .int .i64 0, .int .i64 1073741824] rfl (by (try simp only [List.map_toArray, List.map_cons, List.map_nil]); first | done | rfl | (simp only [List.length_drop, List.length_take]; rfl)) ?_; (with_reducible refine (event_in.calls a0_1 0 1073741824 true _ A4.out).mono ?_); rintro e w' ⟨rfl, ⟨nd, rfl⟩⟩; refine ⟨_, rfl, ?_⟩))
        go_meet
        case rel => exact ⟨_, ((!(a0_5 == 0) || (!(a0_6 == 0) || (!(a0_7 == 0) || (a0_8))))), (by first | rfl | (simp; done) | (simp [*]; done)), H', ⟨by first | omega | exact Nat.le_refl _⟩, ⟨by (with_reducible repeat (first | refine blk_drewN ?_ _ | refine blk_drew ?_ | refine blk_alloc ?_ _)); exact BK105.out⟩, ⟨by repeat (first | (with_reducible first | exact HB.out | apply below_alloc | apply pw_below_drewN | apply below_drew1 | refine below_set ?_ GE105.out) | exact HB.out)⟩⟩
    · replace c5 := Bool.eq_false_iff.mpr c5
      subst c5
      have H1 : (event_May.j0 k true a0_0 a0_1 a0_2 a0_3 a0_4 a0_5 a0_6 a0_7 a0_8) = some r := by rw [if_neg (show ¬ (false = true) by decide)] at H; exact H
      clear H
      have H := H1
      clear H1
      have H' := Aside0.mk H
      clear H
      have hcz9_0 : w3.cell? ⟨gb105, 0, none⟩ = some (.int .i64 a0_0) := (blk_cell BK105.out 0).trans rfl
      have hcz9_1 : w3.cell? ⟨gb105, 1, none⟩ = some (.int .i64 a0_1) := (blk_cell BK105.out 1).trans rfl
      have hcz9_2 : w3.cell? ⟨gb105, 2, none⟩ = some (.int .i64 a0_2) := (blk_cell BK105.out 2).trans rfl
      have hcz9_3 : w3.cell? ⟨gb105, 3, none⟩ = some (.int .i64 a0_3) := (blk_cell BK105.out 3).trans rfl
      have hcz9_4 : w3.cell? ⟨gb105, 4, none⟩ = some (.int .i64 a0_4) := (blk_cell BK105.out 4).trans rfl
      have hcz9_5 : w3.cell? ⟨gb105, 5, none⟩ = some (.int .i64 a0_5) := (blk_cell BK105.out 5).trans rfl
      have hcz9_6 : w3.cell? ⟨gb105, 6, none⟩ = some (.int .i64 a0_6) := (blk_cell BK105.out 6).trans rfl
      have hcz9_7 : w3.cell? ⟨gb105, 7, none⟩ = some (.int .i64 a0_7) := (blk_cell BK105.out 7).trans rfl
      have hcz9_8 : w3.cell? ⟨gb105, 8, none⟩ = some (.bool a0_8) := (blk_cell BK105.out 8).trans rfl
      have hfz9_0 := blk_frozen BK105.out 0
      have hfz9_1 := blk_frozen BK105.out 1
      have hfz9_2 := blk_frozen BK105.out 2
      have hfz9_3 := blk_frozen BK105.out 3
      have hfz9_4 := blk_frozen BK105.out 4
      have hfz9_5 := blk_frozen BK105.out 5
      have hfz9_6 := blk_frozen BK105.out 6
      have hfz9_7 := blk_frozen BK105.out 7
      have hfz9_8 := blk_frozen BK105.out 8
      go_wp2_with (first | ((with_reducible refine gate_callee (f := 19) rfl ?_); refine goesL_ (some 7) rfl rfl Try.func19 (by kernel_rfl) rfl #[.int .i64 a0_1, .int .i64 0, .int .i64 1073741824] rfl (by (try simp only [List.map_toArray, List.map_cons, List.map_nil]); first | done | rfl | (simp only [List.length_drop, List.length_take]; rfl)) ?_; (with_reducible refine (event_in.calls a0_1 0 1073741824 false _ A4.out).mono ?_); rintro e w' ⟨rfl, ⟨nd, rfl⟩⟩; refine ⟨_, rfl, ?_⟩))
      go_meet
      case rel => exact ⟨_, (true), (by first | rfl | (simp; done) | (simp [*]; done)), H', ⟨by first | omega | exact Nat.le_refl _⟩, ⟨by (with_reducible repeat (first | refine blk_drewN ?_ _ | refine blk_drew ?_ | refine blk_alloc ?_ _)); exact BK105.out⟩, ⟨by repeat (first | (with_reducible first | exact HB.out | apply below_alloc | apply pw_below_drewN | apply below_drew1 | refine below_set ?_ GE105.out) | exact HB.out)⟩⟩
  case rest =>
    clear HC2
    try clear c1
    try clear p2
    try clear c5
    try clear c6
    try clear c6b0
    try clear c6b1
    try clear hcz7_0
    try clear hcz7_1
    try clear hcz7_2
    try clear hcz7_3
    try clear hcz7_4
    try clear hcz7_5
    try clear hcz7_6
    try clear hcz7_7
    try clear hcz7_8
    try clear hcz8_0
    try clear hcz8_1
    try clear hcz8_2
    try clear hcz8_3
    try clear hcz8_4
    try clear hcz8_5
    try clear hcz8_6
    try clear hcz8_7
    try clear hcz8_8
    try clear hcz9_0
    try clear hcz9_1
    try clear hcz9_2
    try clear hcz9_3
    try clear hcz9_4
    try clear hcz9_5
    try clear hcz9_6
    try clear hcz9_7
    try clear hcz9_8
    try clear hfz7_0
    try clear hfz7_1
    try clear hfz7_2
    try clear hfz7_3
    try clear hfz7_4
    try clear hfz7_5
    try clear hfz7_6
    try clear hfz7_7
    try clear hfz7_8
    try clear hfz8_0
    try clear hfz8_1
    try clear hfz8_2
    try clear hfz8_3
    try clear hfz8_4
    try clear hfz8_5
    try clear hfz8_6
    try clear hfz8_7
    try clear hfz8_8
    try clear hfz9_0
    try clear hfz9_1
    try clear hfz9_2
    try clear hfz9_3
    try clear hfz9_4
    try clear hfz9_5
    try clear hfz9_6
    try clear hfz9_7
    try clear hfz9_8
    obtain ⟨kq, x19_1, rfl, HA, HJ1, BK105, HB⟩ := hcut
    cases kq with
    | zero => exact absurd HA.out (by simp [event_May.j0])
    | succ kj1 =>
      have H := HA.out
      clear HA
      simp only [event_May.j0] at H
      by_cases c10 : x19_1 = true
      · subst c10
        have H1 : (some false) = some r := by rw [if_pos rfl] at H; exact H
        clear H
        have H := H1
        clear H1
        obtain rfl := Option.some.inj H
        go_wp2
        go_ret
        exact ⟨by first | rfl | (simp [errW_none, errW_some] <;> rfl) | (simp [*, errW_none, errW_some] <;> rfl), by repeat (first | (with_reducible first | exact HB.out | apply below_alloc | apply pw_below_drewN | apply below_drew1 | refine below_set ?_ GE105.out) | exact HB.out)⟩
      · replace c10 := Bool.eq_false_iff.mpr c10
        subst c10
        have H1 : (if a0_0 = 0 then (event_May.j1 kj1 a0_0 (a0_0 == 0) a0_0 a0_1 a0_2 a0_3 a0_4 a0_5 a0_6 a0_7 a0_8 0 0 2 0 0 0 0 0 false 0 0 0 0 0 0 0 0 false) else (event_May.j1 kj1 a0_0 (a0_0 == 1) a0_0 a0_1 a0_2 a0_3 a0_4 a0_5 a0_6 a0_7 a0_8 0 0 2 0 0 0 0 0 false 0 0 0 0 0 0 0 0 false)) = some r := by rw [if_neg (show ¬ (false = true) by decide)] at H; exact H
        clear H
        have H := H1
        clear H1
        have HC11 := Aside0.mk H
        clear H
        go_upto_if 24 with (first | ((with_reducible refine gate_dst (N := 3) rfl ?_); refine box_event ?hg (N := 3) ?hd (cs := #[.int .i64 0, .int .i64 0, .int .i64 0, .int .i64 0, .int .i64 0, .int .i64 0, .int .i64 0, .int .i64 0, .bool false]) (t := 34) ?hr ?_; (case hd => rfl); (case hg => rfl); (case hr => first | (go_simp; done) | (go_simp; rfl)); intro gb107 hg w12 hbox hb; have n0_ := Aside0.mk (blk_below (g := gb105) (o := .cells #[.int .i64 a0_0, .int .i64 a0_1, .int .i64 a0_2, .int .i64 a0_3, .int .i64 a0_4, .int .i64 a0_5, .int .i64 a0_6, .int .i64 a0_7, .bool a0_8] 34 (0, 0)) (by (with_reducible repeat (first | refine blk_drewN ?_ _ | refine blk_drew ?_ | refine blk_alloc ?_ _)); exact BK105.out) hb); have n1_ := Aside0.mk (below_step (by repeat (first | (with_reducible first | exact HB.out | apply below_alloc | apply pw_below_drewN | apply below_drew1 | refine below_set ?_ GE105.out) | exact HB.out)) hb); have n2_ := Aside0.mk (hbox); have n3_ := Aside0.mk ((by rw [hg]; exact (below_size (by repeat (first | (with_reducible first | exact HB.out | apply below_alloc | apply pw_below_drewN | apply below_drew1 | refine below_set ?_ GE105.out) | exact HB.out))) : w.heap.size ≤ gb107)); have n4_ := Aside0.mk ((by rw [hg]; exact (below_size (by repeat (first | (with_reducible first | exact HB.out | apply below_alloc | apply pw_below_drewN | apply below_drew1 | refine below_set ?_ GE105.out) | exact HB.out))) : w.heap.size ≤ gb107)); have n5_ := Aside0.mk ((by rw [hg]; exact Nat.ne_of_lt (blk_lt (g := gb105) (o := .cells #[.int .i64 a0_0, .int .i64 a0_1, .int .i64 a0_2, .int .i64 a0_3, .int .i64 a0_4, .int .i64 a0_5, .int .i64 a0_6, .int .i64 a0_7, .bool a0_8] 34 (0, 0)) (by (with_reducible repeat (first | refine blk_drewN ?_ _ | refine blk_drew ?_ | refine blk_alloc ?_ _)); exact BK105.out)) : gb105 ≠ gb107)); have n6_ := Aside0.mk ((by rw [hg]; exact Nat.ne_of_gt (blk_lt (g := gb105) (o := .cells #[.int .i64 a0_0, .int .i64 a0_1, .int .i64 a0_2, .int .i64 a0_3, .int .i64 a0_4, .int .i64 a0_5, .int .i64 a0_6, .int .i64 a0_7, .bool a0_8] 34 (0, 0)) (by (with_reducible repeat (first | refine blk_drewN ?_ _ | refine blk_drew ?_ | refine blk_alloc ?_ _)); exact BK105.out)) : gb107 ≠ gb105)); clear BK105; clear HB; have BK105 := n0_; have HB := n1_; have BK107 := n2_; have GW107 := n3_; have GE107 := n4_; have NB105_107 := n5_; have NB107_105 := n6_; clear n0_ n1_ n2_ n3_ n4_ n5_ n6_; clear hb hbox hg; have hnb13 := NB107_105.out; have hnc13 := NB105_107.out; have hcz14_0 : w12.cell? ⟨gb107, 0, none⟩ = some (.int .i64 0) := (blk_cell BK107.out 0).trans rfl; have hcz14_1 : w12.cell? ⟨gb107, 1, none⟩ = some (.int .i64 0) := (blk_cell BK107.out 1).trans rfl; have hcz14_2 : w12.cell? ⟨gb107, 2, none⟩ = some (.int .i64 0) := (blk_cell BK107.out 2).trans rfl; have hcz14_3 : w12.cell? ⟨gb107, 3, none⟩ = some (.int .i64 0) := (blk_cell BK107.out 3).trans rfl; have hcz14_4 : w12.cell? ⟨gb107, 4, none⟩ = some (.int .i64 0) := (blk_cell BK107.out 4).trans rfl; have hcz14_5 : w12.cell? ⟨gb107, 5, none⟩ = some (.int .i64 0) := (blk_cell BK107.out 5).trans rfl; have hcz14_6 : w12.cell? ⟨gb107, 6, none⟩ = some (.int .i64 0) := (blk_cell BK107.out 6).trans rfl; have hcz14_7 : w12.cell? ⟨gb107, 7, none⟩ = some (.int .i64 0) := (blk_cell BK107.out 7).trans rfl; have hcz14_8 : w12.cell? ⟨gb107, 8, none⟩ = some (.bool false) := (blk_cell BK107.out 8).trans rfl; have hfz14_0 := blk_frozen BK107.out 0; have hfz14_1 := blk_frozen BK107.out 1; have hfz14_2 := blk_frozen BK107.out 2; have hfz14_3 := blk_frozen BK107.out 3; have hfz14_4 := blk_frozen BK107.out 4; have hfz14_5 := blk_frozen BK107.out 5; have hfz14_6 := blk_frozen BK107.out 6; have hfz14_7 := blk_frozen BK107.out 7; have hfz14_8 := blk_frozen BK107.out 8) | ((with_reducible refine gate_dst (N := 4) rfl ?_); refine box_event ?hg (N := 4) ?hd (cs := #[.int .i64 0, .int .i64 0, .int .i64 0, .int .i64 0, .int .i64 0, .int .i64 0, .int .i64 0, .int .i64 0, .bool false]) (t := 34) ?hr ?_; (case hd => rfl); (case hg => rfl); (case hr => first | (go_simp; done) | (go_simp; rfl)); intro gb108 hg w15 hbox hb; have n0_ := Aside0.mk (blk_below (g := gb105) (o := .cells #[.int .i64 a0_0, .int .i64 a0_1, .int .i64 a0_2, .int .i64 a0_3, .int .i64 a0_4, .int .i64 a0_5, .int .i64 a0_6, .int .i64 a0_7, .bool a0_8] 34 (0, 0)) (by (with_reducible repeat (first | refine blk_drewN ?_ _ | refine blk_drew ?_ | refine blk_alloc ?_ _)); refine blk_far ?_ NB105_107.out _; (with_reducible repeat (first | refine blk_drewN ?_ _ | refine blk_drew ?_ | refine blk_alloc ?_ _)); refine blk_far ?_ NB105_107.out _; (with_reducible repeat (first | refine blk_drewN ?_ _ | refine blk_drew ?_ | refine blk_alloc ?_ _)); refine blk_far ?_ NB105_107.out _; (with_reducible repeat (first | refine blk_drewN ?_ _ | refine blk_drew ?_ | refine blk_alloc ?_ _)); refine blk_far ?_ NB105_107.out _; (with_reducible repeat (first | refine blk_drewN ?_ _ | refine blk_drew ?_ | refine blk_alloc ?_ _)); refine blk_far ?_ NB105_107.out _; (with_reducible repeat (first | refine blk_drewN ?_ _ | refine blk_drew ?_ | refine blk_alloc ?_ _)); refine blk_far ?_ NB105_107.out _; (with_reducible repeat (first | refine blk_drewN ?_ _ | refine blk_drew ?_ | refine blk_alloc ?_ _)); refine blk_far ?_ NB105_107.out _; (with_reducible repeat (first | refine blk_drewN ?_ _ | refine blk_drew ?_ | refine blk_alloc ?_ _)); refine blk_far ?_ NB105_107.out _; (with_reducible repeat (first | refine blk_drewN ?_ _ | refine blk_drew ?_ | refine blk_alloc ?_ _)); refine blk_far ?_ NB105_107.out _; (with_reducible repeat (first | refine blk_drewN ?_ _ | refine blk_drew ?_ | refine blk_alloc ?_ _)); exact BK105.out) hb); have n1_ := Aside0.mk (blk_below (g := gb107) (o := .cells #[.int .i64 0, .int .i64 0, .int .i64 2, .int .i64 0, .int .i64 0, .int .i64 0, .int .i64 0, .int .i64 0, .bool false] 34 (0, 0)) (by (with_reducible repeat (first | refine blk_drewN ?_ _ | refine blk_drew ?_ | refine blk_alloc ?_ _)); refine blk_put (cs := #[.int .i64 0, .int .i64 0, .int .i64 2, .int .i64 0, .int .i64 0, .int .i64 0, .int .i64 0, .int .i64 0, .bool false]) ?_ 8 _ rfl; (with_reducible repeat (first | refine blk_drewN ?_ _ | refine blk_drew ?_ | refine blk_alloc ?_ _)); refine blk_put (cs := #[.int .i64 0, .int .i64 0, .int .i64 2, .int .i64 0, .int .i64 0, .int .i64 0, .int .i64 0, .int .i64 0, .bool false]) ?_ 7 _ rfl; (with_reducible repeat (first | refine blk_drewN ?_ _ | refine blk_drew ?_ | refine blk_alloc ?_ _)); refine blk_put (cs := #[.int .i64 0, .int .i64 0, .int .i64 2, .int .i64 0, .int .i64 0, .int .i64 0, .int .i64 0, .int .i64 0, .bool false]) ?_ 6 _ rfl; (with_reducible repeat (first | refine blk_drewN ?_ _ | refine blk_drew ?_ | refine blk_alloc ?_ _)); refine blk_put (cs := #[.int .i64 0, .int .i64 0, .int .i64 2, .int .i64 0, .int .i64 0, .int .i64 0, .int .i64 0, .int .i64 0, .bool false]) ?_ 5 _ rfl; (with_reducible repeat (first | refine blk_drewN ?_ _ | refine blk_drew ?_ | refine blk_alloc ?_ _)); refine blk_put (cs := #[.int .i64 0, .int .i64 0, .int .i64 2, .int .i64 0, .int .i64 0, .int .i64 0, .int .i64 0, .int .i64 0, .bool false]) ?_ 4 _ rfl; (with_reducible repeat (first | refine blk_drewN ?_ _ | refine blk_drew ?_ | refine blk_alloc ?_ _)); refine blk_put (cs := #[.int .i64 0, .int .i64 0, .int .i64 2, .int .i64 0, .int .i64 0, .int .i64 0, .int .i64 0, .int .i64 0, .bool false]) ?_ 3 _ rfl; (with_reducible repeat (first | refine blk_drewN ?_ _ | refine blk_drew ?_ | refine blk_alloc ?_ _)); refine blk_put (cs := #[.int .i64 0, .int .i64 0, .int .i64 0, .int .i64 0, .int .i64 0, .int .i64 0, .int .i64 0, .int .i64 0, .bool false]) ?_ 2 _ rfl; (with_reducible repeat (first | refine blk_drewN ?_ _ | refine blk_drew ?_ | refine blk_alloc ?_ _)); refine blk_put (cs := #[.int .i64 0, .int .i64 0, .int .i64 0, .int .i64 0, .int .i64 0, .int .i64 0, .int .i64 0, .int .i64 0, .bool false]) ?_ 1 _ rfl; (with_reducible repeat (first | refine blk_drewN ?_ _ | refine blk_drew ?_ | refine blk_alloc ?_ _)); refine blk_put (cs := #[.int .i64 0, .int .i64 0, .int .i64 0, .int .i64 0, .int .i64 0, .int .i64 0, .int .i64 0, .int .i64 0, .bool false]) ?_ 0 _ rfl; (with_reducible repeat (first | refine blk_drewN ?_ _ | refine blk_drew ?_ | refine blk_alloc ?_ _)); exact BK107.out) hb); have n2_ := Aside0.mk (below_step (by repeat (first | (with_reducible first | exact HB.out | apply below_alloc | apply pw_below_drewN | apply below_drew1 | refine below_set ?_ GE105.out | refine below_set ?_ GE107.out) | exact HB.out)) hb); have n3_ := Aside0.mk (hbox); have n4_ := Aside0.mk ((by rw [hg]; exact (below_size (by repeat (first | (with_reducible first | exact HB.out | apply below_alloc | apply pw_below_drewN | apply below_drew1 | refine below_set ?_ GE105.out | refine below_set ?_ GE107.out) | exact HB.out))) : w.heap.size ≤ gb108)); have n5_ := Aside0.mk ((by rw [hg]; exact (below_size (by repeat (first | (with_reducible first | exact HB.out | apply below_alloc | apply pw_below_drewN | apply below_drew1 | refine below_set ?_ GE105.out | refine below_set ?_ GE107.out) | exact HB.out))) : w.heap.size ≤ gb108)); have n6_ := Aside0.mk ((by rw [hg]; exact Nat.ne_of_lt (blk_lt (g := gb105) (o := .cells #[.int .i64 a0_0, .int .i64 a0_1, .int .i64 a0_2, .int .i64 a0_3, .int .i64 a0_4, .int .i64 a0_5, .int .i64 a0_6, .int .i64 a0_7, .bool a0_8] 34 (0, 0)) (by (with_reducible repeat (first | refine blk_drewN ?_ _ | refine blk_drew ?_ | refine blk_alloc ?_ _)); refine blk_far ?_ NB105_107.out _; (with_reducible repeat (first | refine blk_drewN ?_ _ | refine blk_drew ?_ | refine blk_alloc ?_ _)); refine blk_far ?_ NB105_107.out _; (with_reducible repeat (first | refine blk_drewN ?_ _ | refine blk_drew ?_ | refine blk_alloc ?_ _)); refine blk_far ?_ NB105_107.out _; (with_reducible repeat (first | refine blk_drewN ?_ _ | refine blk_drew ?_ | refine blk_alloc ?_ _)); refine blk_far ?_ NB105_107.out _; (with_reducible repeat (first | refine blk_drewN ?_ _ | refine blk_drew ?_ | refine blk_alloc ?_ _)); refine blk_far ?_ NB105_107.out _; (with_reducible repeat (first | refine blk_drewN ?_ _ | refine blk_drew ?_ | refine blk_alloc ?_ _)); refine blk_far ?_ NB105_107.out _; (with_reducible repeat (first | refine blk_drewN ?_ _ | refine blk_drew ?_ | refine blk_alloc ?_ _)); refine blk_far ?_ NB105_107.out _; (with_reducible repeat (first | refine blk_drewN ?_ _ | refine blk_drew ?_ | refine blk_alloc ?_ _)); refine blk_far ?_ NB105_107.out _; (with_reducible repeat (first | refine blk_drewN ?_ _ | refine blk_drew ?_ | refine blk_alloc ?_ _)); refine blk_far ?_ NB105_107.out _; (with_reducible repeat (first | refine blk_drewN ?_ _ | refine blk_drew ?_ | refine blk_alloc ?_ _)); exact BK105.out)) : gb105 ≠ gb108)); have n7_ := Aside0.mk ((by rw [hg]; exact Nat.ne_of_gt (blk_lt (g := gb105) (o := .cells #[.int .i64 a0_0, .int .i64 a0_1, .int .i64 a0_2, .int .i64 a0_3, .int .i64 a0_4, .int .i64 a0_5, .int .i64 a0_6, .int .i64 a0_7, .bool a0_8] 34 (0, 0)) (by (with_reducible repeat (first | refine blk_drewN ?_ _ | refine blk_drew ?_ | refine blk_alloc ?_ _)); refine blk_far ?_ NB105_107.out _; (with_reducible repeat (first | refine blk_drewN ?_ _ | refine blk_drew ?_ | refine blk_alloc ?_ _)); refine blk_far ?_ NB105_107.out _; (with_reducible repeat (first | refine blk_drewN ?_ _ | refine blk_drew ?_ | refine blk_alloc ?_ _)); refine blk_far ?_ NB105_107.out _; (with_reducible repeat (first | refine blk_drewN ?_ _ | refine blk_drew ?_ | refine blk_alloc ?_ _)); refine blk_far ?_ NB105_107.out _; (with_reducible repeat (first | refine blk_drewN ?_ _ | refine blk_drew ?_ | refine blk_alloc ?_ _)); refine blk_far ?_ NB105_107.out _; (with_reducible repeat (first | refine blk_drewN ?_ _ | refine blk_drew ?_ | refine blk_alloc ?_ _)); refine blk_far ?_ NB105_107.out _; (with_reducible repeat (first | refine blk_drewN ?_ _ | refine blk_drew ?_ | refine blk_alloc ?_ _)); refine blk_far ?_ NB105_107.out _; (with_reducible repeat (first | refine blk_drewN ?_ _ | refine blk_drew ?_ | refine blk_alloc ?_ _)); refine blk_far ?_ NB105_107.out _; (with_reducible repeat (first | refine blk_drewN ?_ _ | refine blk_drew ?_ | refine blk_alloc ?_ _)); refine blk_far ?_ NB105_107.out _; (with_reducible repeat (first | refine blk_drewN ?_ _ | refine blk_drew ?_ | refine blk_alloc ?_ _)); exact BK105.out)) : gb108 ≠ gb105)); have n8_ := Aside0.mk ((by rw [hg]; exact Nat.ne_of_lt (blk_lt (g := gb107) (o := .cells #[.int .i64 0, .int .i64 0, .int .i64 2, .int .i64 0, .int .i64 0, .int .i64 0, .int .i64 0, .int .i64 0, .bool false] 34 (0, 0)) (by (with_reducible repeat (first | refine blk_drewN ?_ _ | refine blk_drew ?_ | refine blk_alloc ?_ _)); refine blk_put (cs := #[.int .i64 0, .int .i64 0, .int .i64 2, .int .i64 0, .int .i64 0, .int .i64 0, .int .i64 0, .int .i64 0, .bool false]) ?_ 8 _ rfl; (with_reducible repeat (first | refine blk_drewN ?_ _ | refine blk_drew ?_ | refine blk_alloc ?_ _)); refine blk_put (cs := #[.int .i64 0, .int .i64 0, .int .i64 2, .int .i64 0, .int .i64 0, .int .i64 0, .int .i64 0, .int .i64 0, .bool false]) ?_ 7 _ rfl; (with_reducible repeat (first | refine blk_drewN ?_ _ | refine blk_drew ?_ | refine blk_alloc ?_ _)); refine blk_put (cs := #[.int .i64 0, .int .i64 0, .int .i64 2, .int .i64 0, .int .i64 0, .int .i64 0, .int .i64 0, .int .i64 0, .bool false]) ?_ 6 _ rfl; (with_reducible repeat (first | refine blk_drewN ?_ _ | refine blk_drew ?_ | refine blk_alloc ?_ _)); refine blk_put (cs := #[.int .i64 0, .int .i64 0, .int .i64 2, .int .i64 0, .int .i64 0, .int .i64 0, .int .i64 0, .int .i64 0, .bool false]) ?_ 5 _ rfl; (with_reducible repeat (first | refine blk_drewN ?_ _ | refine blk_drew ?_ | refine blk_alloc ?_ _)); refine blk_put (cs := #[.int .i64 0, .int .i64 0, .int .i64 2, .int .i64 0, .int .i64 0, .int .i64 0, .int .i64 0, .int .i64 0, .bool false]) ?_ 4 _ rfl; (with_reducible repeat (first | refine blk_drewN ?_ _ | refine blk_drew ?_ | refine blk_alloc ?_ _)); refine blk_put (cs := #[.int .i64 0, .int .i64 0, .int .i64 2, .int .i64 0, .int .i64 0, .int .i64 0, .int .i64 0, .int .i64 0, .bool false]) ?_ 3 _ rfl; (with_reducible repeat (first | refine blk_drewN ?_ _ | refine blk_drew ?_ | refine blk_alloc ?_ _)); refine blk_put (cs := #[.int .i64 0, .int .i64 0, .int .i64 0, .int .i64 0, .int .i64 0, .int .i64 0, .int .i64 0, .int .i64 0, .bool false]) ?_ 2 _ rfl; (with_reducible repeat (first | refine blk_drewN ?_ _ | refine blk_drew ?_ | refine blk_alloc ?_ _)); refine blk_put (cs := #[.int .i64 0, .int .i64 0, .int .i64 0, .int .i64 0, .int .i64 0, .int .i64 0, .int .i64 0, .int .i64 0, .bool false]) ?_ 1 _ rfl; (with_reducible repeat (first | refine blk_drewN ?_ _ | refine blk_drew ?_ | refine blk_alloc ?_ _)); refine blk_put (cs := #[.int .i64 0, .int .i64 0, .int .i64 0, .int .i64 0, .int .i64 0, .int .i64 0, .int .i64 0, .int .i64 0, .bool false]) ?_ 0 _ rfl; (with_reducible repeat (first | refine blk_drewN ?_ _ | refine blk_drew ?_ | refine blk_alloc ?_ _)); exact BK107.out)) : gb107 ≠ gb108)); have n9_ := Aside0.mk ((by rw [hg]; exact Nat.ne_of_gt (blk_lt (g := gb107) (o := .cells #[.int .i64 0, .int .i64 0, .int .i64 2, .int .i64 0, .int .i64 0, .int .i64 0, .int .i64 0, .int .i64 0, .bool false] 34 (0, 0)) (by (with_reducible repeat (first | refine blk_drewN ?_ _ | refine blk_drew ?_ | refine blk_alloc ?_ _)); refine blk_put (cs := #[.int .i64 0, .int .i64 0, .int .i64 2, .int .i64 0, .int .i64 0, .int .i64 0, .int .i64 0, .int .i64 0, .bool false]) ?_ 8 _ rfl; (with_reducible repeat (first | refine blk_drewN ?_ _ | refine blk_drew ?_ | refine blk_alloc ?_ _)); refine blk_put (cs := #[.int .i64 0, .int .i64 0, .int .i64 2, .int .i64 0, .int .i64 0, .int .i64 0, .int .i64 0, .int .i64 0, .bool false]) ?_ 7 _ rfl; (with_reducible repeat (first | refine blk_drewN ?_ _ | refine blk_drew ?_ | refine blk_alloc ?_ _)); refine blk_put (cs := #[.int .i64 0, .int .i64 0, .int .i64 2, .int .i64 0, .int .i64 0, .int .i64 0, .int .i64 0, .int .i64 0, .bool false]) ?_ 6 _ rfl; (with_reducible repeat (first | refine blk_drewN ?_ _ | refine blk_drew ?_ | refine blk_alloc ?_ _)); refine blk_put (cs := #[.int .i64 0, .int .i64 0, .int .i64 2, .int .i64 0, .int .i64 0, .int .i64 0, .int .i64 0, .int .i64 0, .bool false]) ?_ 5 _ rfl; (with_reducible repeat (first | refine blk_drewN ?_ _ | refine blk_drew ?_ | refine blk_alloc ?_ _)); refine blk_put (cs := #[.int .i64 0, .int .i64 0, .int .i64 2, .int .i64 0, .int .i64 0, .int .i64 0, .int .i64 0, .int .i64 0, .bool false]) ?_ 4 _ rfl; (with_reducible repeat (first | refine blk_drewN ?_ _ | refine blk_drew ?_ | refine blk_alloc ?_ _)); refine blk_put (cs := #[.int .i64 0, .int .i64 0, .int .i64 2, .int .i64 0, .int .i64 0, .int .i64 0, .int .i64 0, .int .i64 0, .bool false]) ?_ 3 _ rfl; (with_reducible repeat (first | refine blk_drewN ?_ _ | refine blk_drew ?_ | refine blk_alloc ?_ _)); refine blk_put (cs := #[.int .i64 0, .int .i64 0, .int .i64 0, .int .i64 0, .int .i64 0, .int .i64 0, .int .i64 0, .int .i64 0, .bool false]) ?_ 2 _ rfl; (with_reducible repeat (first | refine blk_drewN ?_ _ | refine blk_drew ?_ | refine blk_alloc ?_ _)); refine blk_put (cs := #[.int .i64 0, .int .i64 0, .int .i64 0, .int .i64 0, .int .i64 0, .int .i64 0, .int .i64 0, .int .i64 0, .bool false]) ?_ 1 _ rfl; (with_reducible repeat (first | refine blk_drewN ?_ _ | refine blk_drew ?_ | refine blk_alloc ?_ _)); refine blk_put (cs := #[.int .i64 0, .int .i64 0, .int .i64 0, .int .i64 0, .int .i64 0, .int .i64 0, .int .i64 0, .int .i64 0, .bool false]) ?_ 0 _ rfl; (with_reducible repeat (first | refine blk_drewN ?_ _ | refine blk_drew ?_ | refine blk_alloc ?_ _)); exact BK107.out)) : gb108 ≠ gb107)); clear BK105; clear BK107; clear HB; have BK105 := n0_; have BK107 := n1_; have HB := n2_; have BK108 := n3_; have GW108 := n4_; have GE108 := n5_; have NB105_108 := n6_; have NB108_105 := n7_; have NB107_108 := n8_; have NB108_107 := n9_; clear n0_ n1_ n2_ n3_ n4_ n5_ n6_ n7_ n8_ n9_; clear hb hbox hg; have hnb16 := NB108_105.out; have hnc16 := NB105_108.out; have hnb17 := NB108_107.out; have hnc17 := NB107_108.out; have hcz18_0 : w15.cell? ⟨gb108, 0, none⟩ = some (.int .i64 0) := (blk_cell BK108.out 0).trans rfl; have hcz18_1 : w15.cell? ⟨gb108, 1, none⟩ = some (.int .i64 0) := (blk_cell BK108.out 1).trans rfl; have hcz18_2 : w15.cell? ⟨gb108, 2, none⟩ = some (.int .i64 0) := (blk_cell BK108.out 2).trans rfl; have hcz18_3 : w15.cell? ⟨gb108, 3, none⟩ = some (.int .i64 0) := (blk_cell BK108.out 3).trans rfl; have hcz18_4 : w15.cell? ⟨gb108, 4, none⟩ = some (.int .i64 0) := (blk_cell BK108.out 4).trans rfl; have hcz18_5 : w15.cell? ⟨gb108, 5, none⟩ = some (.int .i64 0) := (blk_cell BK108.out 5).trans rfl; have hcz18_6 : w15.cell? ⟨gb108, 6, none⟩ = some (.int .i64 0) := (blk_cell BK108.out 6).trans rfl; have hcz18_7 : w15.cell? ⟨gb108, 7, none⟩ = some (.int .i64 0) := (blk_cell BK108.out 7).trans rfl; have hcz18_8 : w15.cell? ⟨gb108, 8, none⟩ = some (.bool false) := (blk_cell BK108.out 8).trans rfl; have hfz18_0 := blk_frozen BK108.out 0; have hfz18_1 := blk_frozen BK108.out 1; have hfz18_2 := blk_frozen BK108.out 2; have hfz18_3 := blk_frozen BK108.out 3; have hfz18_4 := blk_frozen BK108.out 4; have hfz18_5 := blk_frozen BK108.out 5; have hfz18_6 := blk_frozen BK108.out 6; have hfz18_7 := blk_frozen BK108.out 7; have hfz18_8 := blk_frozen BK108.out 8; have hcz19_0 : w15.cell? ⟨gb105, 0, none⟩ = some (.int .i64 a0_0) := (blk_cell BK105.out 0).trans rfl; have hcz19_1 : w15.cell? ⟨gb105, 1, none⟩ = some (.int .i64 a0_1) := (blk_cell BK105.out 1).trans rfl; have hcz19_2 : w15.cell? ⟨gb105, 2, none⟩ = some (.int .i64 a0_2) := (blk_cell BK105.out 2).trans rfl; have hcz19_3 : w15.cell? ⟨gb105, 3, none⟩ = some (.int .i64 a0_3) := (blk_cell BK105.out 3).trans rfl; have hcz19_4 : w15.cell? ⟨gb105, 4, none⟩ = some (.int .i64 a0_4) := (blk_cell BK105.out 4).trans rfl; have hcz19_5 : w15.cell? ⟨gb105, 5, none⟩ = some (.int .i64 a0_5) := (blk_cell BK105.out 5).trans rfl; have hcz19_6 : w15.cell? ⟨gb105, 6, none⟩ = some (.int .i64 a0_6) := (blk_cell BK105.out 6).trans rfl; have hcz19_7 : w15.cell? ⟨gb105, 7, none⟩ = some (.int .i64 a0_7) := (blk_cell BK105.out 7).trans rfl; have hcz19_8 : w15.cell? ⟨gb105, 8, none⟩ = some (.bool a0_8) := (blk_cell BK105.out 8).trans rfl; have hfz19_0 := blk_frozen BK105.out 0; have hfz19_1 := blk_frozen BK105.out 1; have hfz19_2 := blk_frozen BK105.out 2; have hfz19_3 := blk_frozen BK105.out 3; have hfz19_4 := blk_frozen BK105.out 4; have hfz19_5 := blk_frozen BK105.out 5; have hfz19_6 := blk_frozen BK105.out 6; have hfz19_7 := blk_frozen BK105.out 7; have hfz19_8 := blk_frozen BK105.out 8))
        (try simp only [Act.put, List.setIfInBounds_toArray, List.set_cons_zero, List.set_cons_succ])
        go_cut [24] (fun v24 wc => ∃ (kq : Nat) (x24_10 : Bool), v24 = .bool x24_10 ∧ Aside0 (event_May.j1 kq a0_0 x24_10 a0_0 a0_1 a0_2 a0_3 a0_4 a0_5 a0_6 a0_7 a0_8 0 0 2 0 0 0 0 0 false 0 0 0 0 0 0 0 0 false = some r) ∧ Aside0 (kq ≤ kj1) ∧ Aside0 (wc.heap[gb105]? = some (.cells #[.int .i64 a0_0, .int .i64 a0_1, .int .i64 a0_2, .int .i64 a0_3, .int .i64 a0_4, .int .i64 a0_5, .int .i64 a0_6, .int .i64 a0_7, .bool a0_8] 34 (0, 0))) ∧ Aside0 (wc.heap[gb107]? = some (.cells #[.int .i64 0, .int .i64 0, .int .i64 2, .int .i64 0, .int .i64 0, .int .i64 0, .int .i64 0, .int .i64 0, .bool false] 34 (0, 0))) ∧ Aside0 (wc.heap[gb108]? = some (.cells #[.int .i64 0, .int .i64 0, .int .i64 0, .int .i64 0, .int .i64 0, .int .i64 0, .int .i64 0, .int .i64 0, .bool false] 34 (0, 0))) ∧ Aside0 (Below w.heap.size w wc))
        case first =>
          have H := HC11.out
          clear HC11
          by_cases c20 : a0_0 = 0
          · rw [if_pos c20] at H
            have c20b0 : (a0_0 == 0) = true := beq_iff_eq.mpr c20
            have c20b1 : (a0_0 != 0) = false := bne_eq_false_iff_eq.mpr c20
            clear c20
            (first | rw [c20b0] | (simp only [i64_w, i32_w]; rw [c20b0]) | skip)
            have H' := Aside0.mk H
            clear H
            go_wp2
            go_meet
            case rel => exact ⟨_, ((a0_0 == 0)), (by first | rfl | (simp; done) | (simp [*]; done)), H', ⟨by have := HJ1.out; first | omega | exact Nat.le_refl _⟩, ⟨by (with_reducible repeat (first | refine blk_drewN ?_ _ | refine blk_drew ?_ | refine blk_alloc ?_ _)); refine blk_far ?_ NB105_108.out _; (with_reducible repeat (first | refine blk_drewN ?_ _ | refine blk_drew ?_ | refine blk_alloc ?_ _)); refine blk_far ?_ NB105_108.out _; (with_reducible repeat (first | refine blk_drewN ?_ _ | refine blk_drew ?_ | refine blk_alloc ?_ _)); refine blk_far ?_ NB105_108.out _; (with_reducible repeat (first | refine blk_drewN ?_ _ | refine blk_drew ?_ | refine blk_alloc ?_ _)); refine blk_far ?_ NB105_108.out _; (with_reducible repeat (first | refine blk_drewN ?_ _ | refine blk_drew ?_ | refine blk_alloc ?_ _)); refine blk_far ?_ NB105_108.out _; (with_reducible repeat (first | refine blk_drewN ?_ _ | refine blk_drew ?_ | refine blk_alloc ?_ _)); refine blk_far ?_ NB105_108.out _; (with_reducible repeat (first | refine blk_drewN ?_ _ | refine blk_drew ?_ | refine blk_alloc ?_ _)); refine blk_far ?_ NB105_108.out _; (with_reducible repeat (first | refine blk_drewN ?_ _ | refine blk_drew ?_ | refine blk_alloc ?_ _)); refine blk_far ?_ NB105_108.out _; (with_reducible repeat (first | refine blk_drewN ?_ _ | refine blk_drew ?_ | refine blk_alloc ?_ _)); refine blk_far ?_ NB105_108.out _; (with_reducible repeat (first | refine blk_drewN ?_ _ | refine blk_drew ?_ | refine blk_alloc ?_ _)); exact BK105.out⟩, ⟨by (with_reducible repeat (first | refine blk_drewN ?_ _ | refine blk_drew ?_ | refine blk_alloc ?_ _)); refine blk_far ?_ NB107_108.out _; (with_reducible repeat (first | refine blk_drewN ?_ _ | refine blk_drew ?_ | refine blk_alloc ?_ _)); refine blk_far ?_ NB107_108.out _; (with_reducible repeat (first | refine blk_drewN ?_ _ | refine blk_drew ?_ | refine blk_alloc ?_ _)); refine blk_far ?_ NB107_108.out _; (with_reducible repeat (first | refine blk_drewN ?_ _ | refine blk_drew ?_ | refine blk_alloc ?_ _)); refine blk_far ?_ NB107_108.out _; (with_reducible repeat (first | refine blk_drewN ?_ _ | refine blk_drew ?_ | refine blk_alloc ?_ _)); refine blk_far ?_ NB107_108.out _; (with_reducible repeat (first | refine blk_drewN ?_ _ | refine blk_drew ?_ | refine blk_alloc ?_ _)); refine blk_far ?_ NB107_108.out _; (with_reducible repeat (first | refine blk_drewN ?_ _ | refine blk_drew ?_ | refine blk_alloc ?_ _)); refine blk_far ?_ NB107_108.out _; (with_reducible repeat (first | refine blk_drewN ?_ _ | refine blk_drew ?_ | refine blk_alloc ?_ _)); refine blk_far ?_ NB107_108.out _; (with_reducible repeat (first | refine blk_drewN ?_ _ | refine blk_drew ?_ | refine blk_alloc ?_ _)); refine blk_far ?_ NB107_108.out _; (with_reducible repeat (first | refine blk_drewN ?_ _ | refine blk_drew ?_ | refine blk_alloc ?_ _)); exact BK107.out⟩, ⟨by (with_reducible repeat (first | refine blk_drewN ?_ _ | refine blk_drew ?_ | refine blk_alloc ?_ _)); refine blk_put (cs := #[.int .i64 0, .int .i64 0, .int .i64 0, .int .i64 0, .int .i64 0, .int .i64 0, .int .i64 0, .int .i64 0, .bool false]) ?_ 8 _ rfl; (with_reducible repeat (first | refine blk_drewN ?_ _ | refine blk_drew ?_ | refine blk_alloc ?_ _)); refine blk_put (cs := #[.int .i64 0, .int .i64 0, .int .i64 0, .int .i64 0, .int .i64 0, .int .i64 0, .int .i64 0, .int .i64 0, .bool false]) ?_ 7 _ rfl; (with_reducible repeat (first | refine blk_drewN ?_ _ | refine blk_drew ?_ | refine blk_alloc ?_ _)); refine blk_put (cs := #[.int .i64 0, .int .i64 0, .int .i64 0, .int .i64 0, .int .i64 0, .int .i64 0, .int .i64 0, .int .i64 0, .bool false]) ?_ 6 _ rfl; (with_reducible repeat (first | refine blk_drewN ?_ _ | refine blk_drew ?_ | refine blk_alloc ?_ _)); refine blk_put (cs := #[.int .i64 0, .int .i64 0, .int .i64 0, .int .i64 0, .int .i64 0, .int .i64 0, .int .i64 0, .int .i64 0, .bool false]) ?_ 5 _ rfl; (with_reducible repeat (first | refine blk_drewN ?_ _ | refine blk_drew ?_ | refine blk_alloc ?_ _)); refine blk_put (cs := #[.int .i64 0, .int .i64 0, .int .i64 0, .int .i64 0, .int .i64 0, .int .i64 0, .int .i64 0, .int .i64 0, .bool false]) ?_ 4 _ rfl; (with_reducible repeat (first | refine blk_drewN ?_ _ | refine blk_drew ?_ | refine blk_alloc ?_ _)); refine blk_put (cs := #[.int .i64 0, .int .i64 0, .int .i64 0, .int .i64 0, .int .i64 0, .int .i64 0, .int .i64 0, .int .i64 0, .bool false]) ?_ 3 _ rfl; (with_reducible repeat (first | refine blk_drewN ?_ _ | refine blk_drew ?_ | refine blk_alloc ?_ _)); refine blk_put (cs := #[.int .i64 0, .int .i64 0, .int .i64 0, .int .i64 0, .int .i64 0, .int .i64 0, .int .i64 0, .int .i64 0, .bool false]) ?_ 2 _ rfl; (with_reducible repeat (first | refine blk_drewN ?_ _ | refine blk_drew ?_ | refine blk_alloc ?_ _)); refine blk_put (cs := #[.int .i64 0, .int .i64 0, .int .i64 0, .int .i64 0, .int .i64 0, .int .i64 0, .int .i64 0, .int .i64 0, .bool false]) ?_ 1 _ rfl; (with_reducible repeat (first | refine blk_drewN ?_ _ | refine blk_drew ?_ | refine blk_alloc ?_ _)); refine blk_put (cs := #[.int .i64 0, .int .i64 0, .int .i64 0, .int .i64 0, .int .i64 0, .int .i64 0, .int .i64 0, .int .i64 0, .bool false]) ?_ 0 _ rfl; (with_reducible repeat (first | refine blk_drewN ?_ _ | refine blk_drew ?_ | refine blk_alloc ?_ _)); exact BK108.out⟩, ⟨by repeat (first | (with_reducible first | exact HB.out | apply below_alloc | apply pw_below_drewN | apply below_drew1 | refine below_set ?_ GE105.out | refine below_set ?_ GE107.out | refine below_set ?_ GE108.out) | exact HB.out)⟩⟩
          · rw [if_neg c20] at H
            have c20b0 : (a0_0 == 0) = false := beq_eq_false_iff_ne.mpr c20
            have c20b1 : (a0_0 != 0) = true := bne_iff_ne.mpr c20
            (first | rw [c20b0] | (simp only [i64_w, i32_w]; rw [c20b0]) | skip)
            have H' := Aside0.mk H
            clear H
            go_wp2
            go_meet
            case rel => exact ⟨_, ((a0_0 == 1)), (by first | rfl | (simp; done) | (simp [*]; done)), H', ⟨by have := HJ1.out; first | omega | exact Nat.le_refl _⟩, ⟨by (with_reducible repeat (first | refine blk_drewN ?_ _ | refine blk_drew ?_ | refine blk_alloc ?_ _)); refine blk_far ?_ NB105_108.out _; (with_reducible repeat (first | refine blk_drewN ?_ _ | refine blk_drew ?_ | refine blk_alloc ?_ _)); refine blk_far ?_ NB105_108.out _; (with_reducible repeat (first | refine blk_drewN ?_ _ | refine blk_drew ?_ | refine blk_alloc ?_ _)); refine blk_far ?_ NB105_108.out _; (with_reducible repeat (first | refine blk_drewN ?_ _ | refine blk_drew ?_ | refine blk_alloc ?_ _)); refine blk_far ?_ NB105_108.out _; (with_reducible repeat (first | refine blk_drewN ?_ _ | refine blk_drew ?_ | refine blk_alloc ?_ _)); refine blk_far ?_ NB105_108.out _; (with_reducible repeat (first | refine blk_drewN ?_ _ | refine blk_drew ?_ | refine blk_alloc ?_ _)); refine blk_far ?_ NB105_108.out _; (with_reducible repeat (first | refine blk_drewN ?_ _ | refine blk_drew ?_ | refine blk_alloc ?_ _)); refine blk_far ?_ NB105_108.out _; (with_reducible repeat (first | refine blk_drewN ?_ _ | refine blk_drew ?_ | refine blk_alloc ?_ _)); refine blk_far ?_ NB105_108.out _; (with_reducible repeat (first | refine blk_drewN ?_ _ | refine blk_drew ?_ | refine blk_alloc ?_ _)); refine blk_far ?_ NB105_108.out _; (with_reducible repeat (first | refine blk_drewN ?_ _ | refine blk_drew ?_ | refine blk_alloc ?_ _)); exact BK105.out⟩, ⟨by (with_reducible repeat (first | refine blk_drewN ?_ _ | refine blk_drew ?_ | refine blk_alloc ?_ _)); refine blk_far ?_ NB107_108.out _; (with_reducible repeat (first | refine blk_drewN ?_ _ | refine blk_drew ?_ | refine blk_alloc ?_ _)); refine blk_far ?_ NB107_108.out _; (with_reducible repeat (first | refine blk_drewN ?_ _ | refine blk_drew ?_ | refine blk_alloc ?_ _)); refine blk_far ?_ NB107_108.out _; (with_reducible repeat (first | refine blk_drewN ?_ _ | refine blk_drew ?_ | refine blk_alloc ?_ _)); refine blk_far ?_ NB107_108.out _; (with_reducible repeat (first | refine blk_drewN ?_ _ | refine blk_drew ?_ | refine blk_alloc ?_ _)); refine blk_far ?_ NB107_108.out _; (with_reducible repeat (first | refine blk_drewN ?_ _ | refine blk_drew ?_ | refine blk_alloc ?_ _)); refine blk_far ?_ NB107_108.out _; (with_reducible repeat (first | refine blk_drewN ?_ _ | refine blk_drew ?_ | refine blk_alloc ?_ _)); refine blk_far ?_ NB107_108.out _; (with_reducible repeat (first | refine blk_drewN ?_ _ | refine blk_drew ?_ | refine blk_alloc ?_ _)); refine blk_far ?_ NB107_108.out _; (with_reducible repeat (first | refine blk_drewN ?_ _ | refine blk_drew ?_ | refine blk_alloc ?_ _)); refine blk_far ?_ NB107_108.out _; (with_reducible repeat (first | refine blk_drewN ?_ _ | refine blk_drew ?_ | refine blk_alloc ?_ _)); exact BK107.out⟩, ⟨by (with_reducible repeat (first | refine blk_drewN ?_ _ | refine blk_drew ?_ | refine blk_alloc ?_ _)); refine blk_put (cs := #[.int .i64 0, .int .i64 0, .int .i64 0, .int .i64 0, .int .i64 0, .int .i64 0, .int .i64 0, .int .i64 0, .bool false]) ?_ 8 _ rfl; (with_reducible repeat (first | refine blk_drewN ?_ _ | refine blk_drew ?_ | refine blk_alloc ?_ _)); refine blk_put (cs := #[.int .i64 0, .int .i64 0, .int .i64 0, .int .i64 0, .int .i64 0, .int .i64 0, .int .i64 0, .int .i64 0, .bool false]) ?_ 7 _ rfl; (with_reducible repeat (first | refine blk_drewN ?_ _ | refine blk_drew ?_ | refine blk_alloc ?_ _)); refine blk_put (cs := #[.int .i64 0, .int .i64 0, .int .i64 0, .int .i64 0, .int .i64 0, .int .i64 0, .int .i64 0, .int .i64 0, .bool false]) ?_ 6 _ rfl; (with_reducible repeat (first | refine blk_drewN ?_ _ | refine blk_drew ?_ | refine blk_alloc ?_ _)); refine blk_put (cs := #[.int .i64 0, .int .i64 0, .int .i64 0, .int .i64 0, .int .i64 0, .int .i64 0, .int .i64 0, .int .i64 0, .bool false]) ?_ 5 _ rfl; (with_reducible repeat (first | refine blk_drewN ?_ _ | refine blk_drew ?_ | refine blk_alloc ?_ _)); refine blk_put (cs := #[.int .i64 0, .int .i64 0, .int .i64 0, .int .i64 0, .int .i64 0, .int .i64 0, .int .i64 0, .int .i64 0, .bool false]) ?_ 4 _ rfl; (with_reducible repeat (first | refine blk_drewN ?_ _ | refine blk_drew ?_ | refine blk_alloc ?_ _)); refine blk_put (cs := #[.int .i64 0, .int .i64 0, .int .i64 0, .int .i64 0, .int .i64 0, .int .i64 0, .int .i64 0, .int .i64 0, .bool false]) ?_ 3 _ rfl; (with_reducible repeat (first | refine blk_drewN ?_ _ | refine blk_drew ?_ | refine blk_alloc ?_ _)); refine blk_put (cs := #[.int .i64 0, .int .i64 0, .int .i64 0, .int .i64 0, .int .i64 0, .int .i64 0, .int .i64 0, .int .i64 0, .bool false]) ?_ 2 _ rfl; (with_reducible repeat (first | refine blk_drewN ?_ _ | refine blk_drew ?_ | refine blk_alloc ?_ _)); refine blk_put (cs := #[.int .i64 0, .int .i64 0, .int .i64 0, .int .i64 0, .int .i64 0, .int .i64 0, .int .i64 0, .int .i64 0, .bool false]) ?_ 1 _ rfl; (with_reducible repeat (first | refine blk_drewN ?_ _ | refine blk_drew ?_ | refine blk_alloc ?_ _)); refine blk_put (cs := #[.int .i64 0, .int .i64 0, .int .i64 0, .int .i64 0, .int .i64 0, .int .i64 0, .int .i64 0, .int .i64 0, .bool false]) ?_ 0 _ rfl; (with_reducible repeat (first | refine blk_drewN ?_ _ | refine blk_drew ?_ | refine blk_alloc ?_ _)); exact BK108.out⟩, ⟨by repeat (first | (with_reducible first | exact HB.out | apply below_alloc | apply pw_below_drewN | apply below_drew1 | refine below_set ?_ GE105.out | refine below_set ?_ GE107.out | refine below_set ?_ GE108.out) | exact HB.out)⟩⟩
        case rest =>
          clear HC11
          try clear c1
          try clear c2
          try clear p2
          try clear c5
          try clear c6
          try clear c6b0
          try clear c6b1
          try clear c10
          try clear c13
          try clear c16
          try clear c17
          try clear c19
          try clear c20
          try clear c20b0
          try clear c20b1
          try clear hcz14_0
          try clear hcz14_1
          try clear hcz14_2
          try clear hcz14_3
          try clear hcz14_4
          try clear hcz14_5
          try clear hcz14_6
          try clear hcz14_7
          try clear hcz14_8
          try clear hcz18_0
          try clear hcz18_1
          try clear hcz18_2
          try clear hcz18_3
          try clear hcz18_4
          try clear hcz18_5
          try clear hcz18_6
          try clear hcz18_7
          try clear hcz18_8
          try clear hcz19_0
          try clear hcz19_1
          try clear hcz19_2
          try clear hcz19_3
          try clear hcz19_4
          try clear hcz19_5
          try clear hcz19_6
          try clear hcz19_7
          try clear hcz19_8
          try clear hcz7_0
          try clear hcz7_1
          try clear hcz7_2
          try clear hcz7_3
          try clear hcz7_4
          try clear hcz7_5
          try clear hcz7_6
          try clear hcz7_7
          try clear hcz7_8
          try clear hcz8_0
          try clear hcz8_1
          try clear hcz8_2
          try clear hcz8_3
          try clear hcz8_4
          try clear hcz8_5
          try clear hcz8_6
          try clear hcz8_7
          try clear hcz8_8
          try clear hcz9_0
          try clear hcz9_1
          try clear hcz9_2
          try clear hcz9_3
          try clear hcz9_4
          try clear hcz9_5
          try clear hcz9_6
          try clear hcz9_7
          try clear hcz9_8
          try clear hfz14_0
          try clear hfz14_1
          try clear hfz14_2
          try clear hfz14_3
          try clear hfz14_4
          try clear hfz14_5
          try clear hfz14_6
          try clear hfz14_7
          try clear hfz14_8
          try clear hfz18_0
          try clear hfz18_1
          try clear hfz18_2
          try clear hfz18_3
          try clear hfz18_4
          try clear hfz18_5
          try clear hfz18_6
          try clear hfz18_7
          try clear hfz18_8
          try clear hfz19_0
          try clear hfz19_1
          try clear hfz19_2
          try clear hfz19_3
          try clear hfz19_4
          try clear hfz19_5
          try clear hfz19_6
          try clear hfz19_7
          try clear hfz19_8
          try clear hfz7_0
          try clear hfz7_1
          try clear hfz7_2
          try clear hfz7_3
          try clear hfz7_4
          try clear hfz7_5
          try clear hfz7_6
          try clear hfz7_7
          try clear hfz7_8
          try clear hfz8_0
          try clear hfz8_1
          try clear hfz8_2
          try clear hfz8_3
          try clear hfz8_4
          try clear hfz8_5
          try clear hfz8_6
          try clear hfz8_7
          try clear hfz8_8
          try clear hfz9_0
          try clear hfz9_1
          try clear hfz9_2
          try clear hfz9_3
          try clear hfz9_4
          try clear hfz9_5
          try clear hfz9_6
          try clear hfz9_7
          try clear hfz9_8
          try clear p2
          obtain ⟨kq, x24_10, rfl, HA, HJ10, BK105, BK107, BK108, HB⟩ := hcut
          cases kq with
          | zero => exact absurd HA.out (by simp [event_May.j1])
          | succ kj10 =>
            have H := HA.out
            clear HA
            simp only [event_May.j1] at H
            by_cases c21 : x24_10 = true
            · subst c21
              have H1 : ((event_in.f a0_2 0 31).bind fun t109 => (if t109 = true then ((event_in.f a0_3 0 3).bind fun t110 => (if t110 = true then ((event_in.f a0_4 0 7).bind fun t111 => (some t111)) else (some false))) else (some false))) = some r := by rw [if_pos rfl] at H; exact H
              clear H
              have H := H1
              clear H1
              replace H := Option.bind_eq_some_iff.mp H
              obtain ⟨t109, A220, H⟩ := H
              replace H : (if t109 = true then ((event_in.f a0_3 0 3).bind fun t110 => (if t110 = true then ((event_in.f a0_4 0 7).bind fun t111 => (some t111)) else (some false))) else (some false)) = some r := H
              have A22 := Aside0.mk A220
              clear A220
              by_cases c23 : t109 = true
              · subst c23
                have H1 : ((event_in.f a0_3 0 3).bind fun t110 => (if t110 = true then ((event_in.f a0_4 0 7).bind fun t111 => (some t111)) else (some false))) = some r := by rw [if_pos rfl] at H; exact H
                clear H
                have H := H1
                clear H1
                replace H := Option.bind_eq_some_iff.mp H
                obtain ⟨t110, A240, H⟩ := H
                replace H : (if t110 = true then ((event_in.f a0_4 0 7).bind fun t111 => (some t111)) else (some false)) = some r := H
                have A24 := Aside0.mk A240
                clear A240
                by_cases c25 : t110 = true
                · subst c25
                  have H1 : ((event_in.f a0_4 0 7).bind fun t111 => (some t111)) = some r := by rw [if_pos rfl] at H; exact H
                  clear H
                  have H := H1
                  clear H1
                  replace H := Option.bind_eq_some_iff.mp H
                  obtain ⟨t111, A260, H⟩ := H
                  replace H : (some t111) = some r := H
                  have A26 := Aside0.mk A260
                  clear A260
                  obtain rfl := Option.some.inj H
                  have hnb27 := NB107_105.out
                  have hnc27 := NB105_107.out
                  have hnb28 := NB107_108.out
                  have hnc28 := NB108_107.out
                  have hcz29_0 : wc.cell? ⟨gb107, 0, none⟩ = some (.int .i64 0) := (blk_cell BK107.out 0).trans rfl
                  have hcz29_1 : wc.cell? ⟨gb107, 1, none⟩ = some (.int .i64 0) := (blk_cell BK107.out 1).trans rfl
                  have hcz29_2 : wc.cell? ⟨gb107, 2, none⟩ = some (.int .i64 2) := (blk_cell BK107.out 2).trans rfl
                  have hcz29_3 : wc.cell? ⟨gb107, 3, none⟩ = some (.int .i64 0) := (blk_cell BK107.out 3).trans rfl
                  have hcz29_4 : wc.cell? ⟨gb107, 4, none⟩ = some (.int .i64 0) := (blk_cell BK107.out 4).trans rfl
                  have hcz29_5 : wc.cell? ⟨gb107, 5, none⟩ = some (.int .i64 0) := (blk_cell BK107.out 5).trans rfl
                  have hcz29_6 : wc.cell? ⟨gb107, 6, none⟩ = some (.int .i64 0) := (blk_cell BK107.out 6).trans rfl
                  have hcz29_7 : wc.cell? ⟨gb107, 7, none⟩ = some (.int .i64 0) := (blk_cell BK107.out 7).trans rfl
                  have hcz29_8 : wc.cell? ⟨gb107, 8, none⟩ = some (.bool false) := (blk_cell BK107.out 8).trans rfl
                  have hfz29_0 := blk_frozen BK107.out 0
                  have hfz29_1 := blk_frozen BK107.out 1
                  have hfz29_2 := blk_frozen BK107.out 2
                  have hfz29_3 := blk_frozen BK107.out 3
                  have hfz29_4 := blk_frozen BK107.out 4
                  have hfz29_5 := blk_frozen BK107.out 5
                  have hfz29_6 := blk_frozen BK107.out 6
                  have hfz29_7 := blk_frozen BK107.out 7
                  have hfz29_8 := blk_frozen BK107.out 8
                  have hnb30 := NB105_108.out
                  have hnc30 := NB108_105.out
                  have hcz31_0 : wc.cell? ⟨gb105, 0, none⟩ = some (.int .i64 a0_0) := (blk_cell BK105.out 0).trans rfl
                  have hcz31_1 : wc.cell? ⟨gb105, 1, none⟩ = some (.int .i64 a0_1) := (blk_cell BK105.out 1).trans rfl
                  have hcz31_2 : wc.cell? ⟨gb105, 2, none⟩ = some (.int .i64 a0_2) := (blk_cell BK105.out 2).trans rfl
                  have hcz31_3 : wc.cell? ⟨gb105, 3, none⟩ = some (.int .i64 a0_3) := (blk_cell BK105.out 3).trans rfl
                  have hcz31_4 : wc.cell? ⟨gb105, 4, none⟩ = some (.int .i64 a0_4) := (blk_cell BK105.out 4).trans rfl
                  have hcz31_5 : wc.cell? ⟨gb105, 5, none⟩ = some (.int .i64 a0_5) := (blk_cell BK105.out 5).trans rfl
                  have hcz31_6 : wc.cell? ⟨gb105, 6, none⟩ = some (.int .i64 a0_6) := (blk_cell BK105.out 6).trans rfl
                  have hcz31_7 : wc.cell? ⟨gb105, 7, none⟩ = some (.int .i64 a0_7) := (blk_cell BK105.out 7).trans rfl
                  have hcz31_8 : wc.cell? ⟨gb105, 8, none⟩ = some (.bool a0_8) := (blk_cell BK105.out 8).trans rfl
                  have hfz31_0 := blk_frozen BK105.out 0
                  have hfz31_1 := blk_frozen BK105.out 1
                  have hfz31_2 := blk_frozen BK105.out 2
                  have hfz31_3 := blk_frozen BK105.out 3
                  have hfz31_4 := blk_frozen BK105.out 4
                  have hfz31_5 := blk_frozen BK105.out 5
                  have hfz31_6 := blk_frozen BK105.out 6
                  have hfz31_7 := blk_frozen BK105.out 7
                  have hfz31_8 := blk_frozen BK105.out 8
                  go_wp2_with (first | ((with_reducible refine gate_callee (f := 19) rfl ?_); refine goesL_ (some 51) rfl rfl Try.func19 (by kernel_rfl) rfl #[.int .i64 a0_2, .int .i64 0, .int .i64 31] rfl (by (try simp only [List.map_toArray, List.map_cons, List.map_nil]); first | done | rfl | (simp only [List.length_drop, List.length_take]; rfl)) ?_; (with_reducible refine (event_in.calls a0_2 0 31 true _ A22.out).mono ?_); rintro e w' ⟨rfl, ⟨nd, rfl⟩⟩; refine ⟨_, rfl, ?_⟩; have hcz32_0 : wc.cell? ⟨gb108, 0, none⟩ = some (.int .i64 0) := (blk_cell BK108.out 0).trans rfl; have hcz32_1 : wc.cell? ⟨gb108, 1, none⟩ = some (.int .i64 0) := (blk_cell BK108.out 1).trans rfl; have hcz32_2 : wc.cell? ⟨gb108, 2, none⟩ = some (.int .i64 0) := (blk_cell BK108.out 2).trans rfl; have hcz32_3 : wc.cell? ⟨gb108, 3, none⟩ = some (.int .i64 0) := (blk_cell BK108.out 3).trans rfl; have hcz32_4 : wc.cell? ⟨gb108, 4, none⟩ = some (.int .i64 0) := (blk_cell BK108.out 4).trans rfl; have hcz32_5 : wc.cell? ⟨gb108, 5, none⟩ = some (.int .i64 0) := (blk_cell BK108.out 5).trans rfl; have hcz32_6 : wc.cell? ⟨gb108, 6, none⟩ = some (.int .i64 0) := (blk_cell BK108.out 6).trans rfl; have hcz32_7 : wc.cell? ⟨gb108, 7, none⟩ = some (.int .i64 0) := (blk_cell BK108.out 7).trans rfl; have hcz32_8 : wc.cell? ⟨gb108, 8, none⟩ = some (.bool false) := (blk_cell BK108.out 8).trans rfl; have hfz32_0 := blk_frozen BK108.out 0; have hfz32_1 := blk_frozen BK108.out 1; have hfz32_2 := blk_frozen BK108.out 2; have hfz32_3 := blk_frozen BK108.out 3; have hfz32_4 := blk_frozen BK108.out 4; have hfz32_5 := blk_frozen BK108.out 5; have hfz32_6 := blk_frozen BK108.out 6; have hfz32_7 := blk_frozen BK108.out 7; have hfz32_8 := blk_frozen BK108.out 8) | (go_at_call 19; (with_reducible refine (event_in.calls a0_3 0 3 true _ A24.out).mono ?_); rintro e w' ⟨rfl, ⟨nd, rfl⟩⟩) | (go_at_call 19; (with_reducible refine (event_in.calls a0_4 0 7 t111 _ A26.out).mono ?_); rintro e w' ⟨rfl, ⟨nd, rfl⟩⟩))
                  go_ret
                  exact ⟨by first | rfl | (simp [errW_none, errW_some] <;> rfl) | (simp [*, errW_none, errW_some] <;> rfl), by repeat (first | (with_reducible first | exact HB.out | apply below_alloc | apply pw_below_drewN | apply below_drew1 | refine below_set ?_ GE105.out | refine below_set ?_ GE107.out | refine below_set ?_ GE108.out) | exact HB.out)⟩
                · replace c25 := Bool.eq_false_iff.mpr c25
                  subst c25
                  have H1 : (some false) = some r := by rw [if_neg (show ¬ (false = true) by decide)] at H; exact H
                  clear H
                  have H := H1
                  clear H1
                  obtain rfl := Option.some.inj H
                  have hnb33 := NB107_105.out
                  have hnc33 := NB105_107.out
                  have hnb34 := NB107_108.out
                  have hnc34 := NB108_107.out
                  have hcz35_0 : wc.cell? ⟨gb107, 0, none⟩ = some (.int .i64 0) := (blk_cell BK107.out 0).trans rfl
                  have hcz35_1 : wc.cell? ⟨gb107, 1, none⟩ = some (.int .i64 0) := (blk_cell BK107.out 1).trans rfl
                  have hcz35_2 : wc.cell? ⟨gb107, 2, none⟩ = some (.int .i64 2) := (blk_cell BK107.out 2).trans rfl
                  have hcz35_3 : wc.cell? ⟨gb107, 3, none⟩ = some (.int .i64 0) := (blk_cell BK107.out 3).trans rfl
                  have hcz35_4 : wc.cell? ⟨gb107, 4, none⟩ = some (.int .i64 0) := (blk_cell BK107.out 4).trans rfl
                  have hcz35_5 : wc.cell? ⟨gb107, 5, none⟩ = some (.int .i64 0) := (blk_cell BK107.out 5).trans rfl
                  have hcz35_6 : wc.cell? ⟨gb107, 6, none⟩ = some (.int .i64 0) := (blk_cell BK107.out 6).trans rfl
                  have hcz35_7 : wc.cell? ⟨gb107, 7, none⟩ = some (.int .i64 0) := (blk_cell BK107.out 7).trans rfl
                  have hcz35_8 : wc.cell? ⟨gb107, 8, none⟩ = some (.bool false) := (blk_cell BK107.out 8).trans rfl
                  have hfz35_0 := blk_frozen BK107.out 0
                  have hfz35_1 := blk_frozen BK107.out 1
                  have hfz35_2 := blk_frozen BK107.out 2
                  have hfz35_3 := blk_frozen BK107.out 3
                  have hfz35_4 := blk_frozen BK107.out 4
                  have hfz35_5 := blk_frozen BK107.out 5
                  have hfz35_6 := blk_frozen BK107.out 6
                  have hfz35_7 := blk_frozen BK107.out 7
                  have hfz35_8 := blk_frozen BK107.out 8
                  have hnb36 := NB105_108.out
                  have hnc36 := NB108_105.out
                  have hcz37_0 : wc.cell? ⟨gb105, 0, none⟩ = some (.int .i64 a0_0) := (blk_cell BK105.out 0).trans rfl
                  have hcz37_1 : wc.cell? ⟨gb105, 1, none⟩ = some (.int .i64 a0_1) := (blk_cell BK105.out 1).trans rfl
                  have hcz37_2 : wc.cell? ⟨gb105, 2, none⟩ = some (.int .i64 a0_2) := (blk_cell BK105.out 2).trans rfl
                  have hcz37_3 : wc.cell? ⟨gb105, 3, none⟩ = some (.int .i64 a0_3) := (blk_cell BK105.out 3).trans rfl
                  have hcz37_4 : wc.cell? ⟨gb105, 4, none⟩ = some (.int .i64 a0_4) := (blk_cell BK105.out 4).trans rfl
                  have hcz37_5 : wc.cell? ⟨gb105, 5, none⟩ = some (.int .i64 a0_5) := (blk_cell BK105.out 5).trans rfl
                  have hcz37_6 : wc.cell? ⟨gb105, 6, none⟩ = some (.int .i64 a0_6) := (blk_cell BK105.out 6).trans rfl
                  have hcz37_7 : wc.cell? ⟨gb105, 7, none⟩ = some (.int .i64 a0_7) := (blk_cell BK105.out 7).trans rfl
                  have hcz37_8 : wc.cell? ⟨gb105, 8, none⟩ = some (.bool a0_8) := (blk_cell BK105.out 8).trans rfl
                  have hfz37_0 := blk_frozen BK105.out 0
                  have hfz37_1 := blk_frozen BK105.out 1
                  have hfz37_2 := blk_frozen BK105.out 2
                  have hfz37_3 := blk_frozen BK105.out 3
                  have hfz37_4 := blk_frozen BK105.out 4
                  have hfz37_5 := blk_frozen BK105.out 5
                  have hfz37_6 := blk_frozen BK105.out 6
                  have hfz37_7 := blk_frozen BK105.out 7
                  have hfz37_8 := blk_frozen BK105.out 8
                  go_wp2_with (first | ((with_reducible refine gate_callee (f := 19) rfl ?_); refine goesL_ (some 51) rfl rfl Try.func19 (by kernel_rfl) rfl #[.int .i64 a0_2, .int .i64 0, .int .i64 31] rfl (by (try simp only [List.map_toArray, List.map_cons, List.map_nil]); first | done | rfl | (simp only [List.length_drop, List.length_take]; rfl)) ?_; (with_reducible refine (event_in.calls a0_2 0 31 true _ A22.out).mono ?_); rintro e w' ⟨rfl, ⟨nd, rfl⟩⟩; refine ⟨_, rfl, ?_⟩; have hcz38_0 : wc.cell? ⟨gb108, 0, none⟩ = some (.int .i64 0) := (blk_cell BK108.out 0).trans rfl; have hcz38_1 : wc.cell? ⟨gb108, 1, none⟩ = some (.int .i64 0) := (blk_cell BK108.out 1).trans rfl; have hcz38_2 : wc.cell? ⟨gb108, 2, none⟩ = some (.int .i64 0) := (blk_cell BK108.out 2).trans rfl; have hcz38_3 : wc.cell? ⟨gb108, 3, none⟩ = some (.int .i64 0) := (blk_cell BK108.out 3).trans rfl; have hcz38_4 : wc.cell? ⟨gb108, 4, none⟩ = some (.int .i64 0) := (blk_cell BK108.out 4).trans rfl; have hcz38_5 : wc.cell? ⟨gb108, 5, none⟩ = some (.int .i64 0) := (blk_cell BK108.out 5).trans rfl; have hcz38_6 : wc.cell? ⟨gb108, 6, none⟩ = some (.int .i64 0) := (blk_cell BK108.out 6).trans rfl; have hcz38_7 : wc.cell? ⟨gb108, 7, none⟩ = some (.int .i64 0) := (blk_cell BK108.out 7).trans rfl; have hcz38_8 : wc.cell? ⟨gb108, 8, none⟩ = some (.bool false) := (blk_cell BK108.out 8).trans rfl; have hfz38_0 := blk_frozen BK108.out 0; have hfz38_1 := blk_frozen BK108.out 1; have hfz38_2 := blk_frozen BK108.out 2; have hfz38_3 := blk_frozen BK108.out 3; have hfz38_4 := blk_frozen BK108.out 4; have hfz38_5 := blk_frozen BK108.out 5; have hfz38_6 := blk_frozen BK108.out 6; have hfz38_7 := blk_frozen BK108.out 7; have hfz38_8 := blk_frozen BK108.out 8) | (go_at_call 19; (with_reducible refine (event_in.calls a0_3 0 3 false _ A24.out).mono ?_); rintro e w' ⟨rfl, ⟨nd, rfl⟩⟩))
                  go_ret
                  exact ⟨by first | rfl | (simp [errW_none, errW_some] <;> rfl) | (simp [*, errW_none, errW_some] <;> rfl), by repeat (first | (with_reducible first | exact HB.out | apply below_alloc | apply pw_below_drewN | apply below_drew1 | refine below_set ?_ GE105.out | refine below_set ?_ GE107.out | refine below_set ?_ GE108.out) | exact HB.out)⟩
              · replace c23 := Bool.eq_false_iff.mpr c23
                subst c23
                have H1 : (some false) = some r := by rw [if_neg (show ¬ (false = true) by decide)] at H; exact H
                clear H
                have H := H1
                clear H1
                obtain rfl := Option.some.inj H
                have hnb39 := NB107_105.out
                have hnc39 := NB105_107.out
                have hnb40 := NB107_108.out
                have hnc40 := NB108_107.out
                have hcz41_0 : wc.cell? ⟨gb107, 0, none⟩ = some (.int .i64 0) := (blk_cell BK107.out 0).trans rfl
                have hcz41_1 : wc.cell? ⟨gb107, 1, none⟩ = some (.int .i64 0) := (blk_cell BK107.out 1).trans rfl
                have hcz41_2 : wc.cell? ⟨gb107, 2, none⟩ = some (.int .i64 2) := (blk_cell BK107.out 2).trans rfl
                have hcz41_3 : wc.cell? ⟨gb107, 3, none⟩ = some (.int .i64 0) := (blk_cell BK107.out 3).trans rfl
                have hcz41_4 : wc.cell? ⟨gb107, 4, none⟩ = some (.int .i64 0) := (blk_cell BK107.out 4).trans rfl
                have hcz41_5 : wc.cell? ⟨gb107, 5, none⟩ = some (.int .i64 0) := (blk_cell BK107.out 5).trans rfl
                have hcz41_6 : wc.cell? ⟨gb107, 6, none⟩ = some (.int .i64 0) := (blk_cell BK107.out 6).trans rfl
                have hcz41_7 : wc.cell? ⟨gb107, 7, none⟩ = some (.int .i64 0) := (blk_cell BK107.out 7).trans rfl
                have hcz41_8 : wc.cell? ⟨gb107, 8, none⟩ = some (.bool false) := (blk_cell BK107.out 8).trans rfl
                have hfz41_0 := blk_frozen BK107.out 0
                have hfz41_1 := blk_frozen BK107.out 1
                have hfz41_2 := blk_frozen BK107.out 2
                have hfz41_3 := blk_frozen BK107.out 3
                have hfz41_4 := blk_frozen BK107.out 4
                have hfz41_5 := blk_frozen BK107.out 5
                have hfz41_6 := blk_frozen BK107.out 6
                have hfz41_7 := blk_frozen BK107.out 7
                have hfz41_8 := blk_frozen BK107.out 8
                have hnb42 := NB105_108.out
                have hnc42 := NB108_105.out
                have hcz43_0 : wc.cell? ⟨gb105, 0, none⟩ = some (.int .i64 a0_0) := (blk_cell BK105.out 0).trans rfl
                have hcz43_1 : wc.cell? ⟨gb105, 1, none⟩ = some (.int .i64 a0_1) := (blk_cell BK105.out 1).trans rfl
                have hcz43_2 : wc.cell? ⟨gb105, 2, none⟩ = some (.int .i64 a0_2) := (blk_cell BK105.out 2).trans rfl
                have hcz43_3 : wc.cell? ⟨gb105, 3, none⟩ = some (.int .i64 a0_3) := (blk_cell BK105.out 3).trans rfl
                have hcz43_4 : wc.cell? ⟨gb105, 4, none⟩ = some (.int .i64 a0_4) := (blk_cell BK105.out 4).trans rfl
                have hcz43_5 : wc.cell? ⟨gb105, 5, none⟩ = some (.int .i64 a0_5) := (blk_cell BK105.out 5).trans rfl
                have hcz43_6 : wc.cell? ⟨gb105, 6, none⟩ = some (.int .i64 a0_6) := (blk_cell BK105.out 6).trans rfl
                have hcz43_7 : wc.cell? ⟨gb105, 7, none⟩ = some (.int .i64 a0_7) := (blk_cell BK105.out 7).trans rfl
                have hcz43_8 : wc.cell? ⟨gb105, 8, none⟩ = some (.bool a0_8) := (blk_cell BK105.out 8).trans rfl
                have hfz43_0 := blk_frozen BK105.out 0
                have hfz43_1 := blk_frozen BK105.out 1
                have hfz43_2 := blk_frozen BK105.out 2
                have hfz43_3 := blk_frozen BK105.out 3
                have hfz43_4 := blk_frozen BK105.out 4
                have hfz43_5 := blk_frozen BK105.out 5
                have hfz43_6 := blk_frozen BK105.out 6
                have hfz43_7 := blk_frozen BK105.out 7
                have hfz43_8 := blk_frozen BK105.out 8
                go_wp2_with (first | ((with_reducible refine gate_callee (f := 19) rfl ?_); refine goesL_ (some 51) rfl rfl Try.func19 (by kernel_rfl) rfl #[.int .i64 a0_2, .int .i64 0, .int .i64 31] rfl (by (try simp only [List.map_toArray, List.map_cons, List.map_nil]); first | done | rfl | (simp only [List.length_drop, List.length_take]; rfl)) ?_; (with_reducible refine (event_in.calls a0_2 0 31 false _ A22.out).mono ?_); rintro e w' ⟨rfl, ⟨nd, rfl⟩⟩; refine ⟨_, rfl, ?_⟩))
                go_ret
                exact ⟨by first | rfl | (simp [errW_none, errW_some] <;> rfl) | (simp [*, errW_none, errW_some] <;> rfl), by repeat (first | (with_reducible first | exact HB.out | apply below_alloc | apply pw_below_drewN | apply below_drew1 | refine below_set ?_ GE105.out | refine below_set ?_ GE107.out | refine below_set ?_ GE108.out) | exact HB.out)⟩
            · replace c21 := Bool.eq_false_iff.mpr c21
              subst c21
              have H1 : (if a0_0 = 2 then ((event_in.f a0_2 0 3).bind fun t112 => (if t112 = true then ((event_in.f a0_3 1 4).bind fun t113 => (if t113 = true then ((event_in.f a0_4 0 0).bind fun t114 => (some t114)) else (some false))) else (some false))) else (if a0_0 = 4 then ((event_in.f a0_2 0 2).bind fun t115 => (if t115 = true then ((event_in.f a0_3 1 4).bind fun t116 => (if t116 = true then ((event_in.f a0_4 0 0).bind fun t117 => (some t117)) else (some false))) else (some false))) else (if a0_0 = 3 then (event_May.j2 kj10 a0_0 (a0_0 == 3) a0_0 a0_1 a0_2 a0_3 a0_4 a0_5 a0_6 a0_7 a0_8 0 0 2 0 0 0 0 0 false 0 0 0 0 0 0 0 0 false) else (event_May.j2 kj10 a0_0 (a0_0 == 5) a0_0 a0_1 a0_2 a0_3 a0_4 a0_5 a0_6 a0_7 a0_8 0 0 2 0 0 0 0 0 false 0 0 0 0 0 0 0 0 false)))) = some r := by rw [if_neg (show ¬ (false = true) by decide)] at H; exact H
              clear H
              have H := H1
              clear H1
              by_cases c44 : a0_0 = 2
              · rw [if_pos c44] at H
                have c44b0 : (a0_0 == 2) = true := beq_iff_eq.mpr c44
                have c44b1 : (a0_0 != 2) = false := bne_eq_false_iff_eq.mpr c44
                clear c44
                replace H := Option.bind_eq_some_iff.mp H
                obtain ⟨t112, A450, H⟩ := H
                replace H : (if t112 = true then ((event_in.f a0_3 1 4).bind fun t113 => (if t113 = true then ((event_in.f a0_4 0 0).bind fun t114 => (some t114)) else (some false))) else (some false)) = some r := H
                have A45 := Aside0.mk A450
                clear A450
                by_cases c46 : t112 = true
                · subst c46
                  have H1 : ((event_in.f a0_3 1 4).bind fun t113 => (if t113 = true then ((event_in.f a0_4 0 0).bind fun t114 => (some t114)) else (some false))) = some r := by rw [if_pos rfl] at H; exact H
                  clear H
                  have H := H1
                  clear H1
                  replace H := Option.bind_eq_some_iff.mp H
                  obtain ⟨t113, A470, H⟩ := H
                  replace H : (if t113 = true then ((event_in.f a0_4 0 0).bind fun t114 => (some t114)) else (some false)) = some r := H
                  have A47 := Aside0.mk A470
                  clear A470
                  by_cases c48 : t113 = true
                  · subst c48
                    have H1 : ((event_in.f a0_4 0 0).bind fun t114 => (some t114)) = some r := by rw [if_pos rfl] at H; exact H
                    clear H
                    have H := H1
                    clear H1
                    replace H := Option.bind_eq_some_iff.mp H
                    obtain ⟨t114, A490, H⟩ := H
                    replace H : (some t114) = some r := H
                    have A49 := Aside0.mk A490
                    clear A490
                    obtain rfl := Option.some.inj H
                    have hnb50 := NB108_105.out
                    have hnc50 := NB105_108.out
                    have hnb51 := NB108_107.out
                    have hnc51 := NB107_108.out
                    have hcz52_0 : wc.cell? ⟨gb108, 0, none⟩ = some (.int .i64 0) := (blk_cell BK108.out 0).trans rfl
                    have hcz52_1 : wc.cell? ⟨gb108, 1, none⟩ = some (.int .i64 0) := (blk_cell BK108.out 1).trans rfl
                    have hcz52_2 : wc.cell? ⟨gb108, 2, none⟩ = some (.int .i64 0) := (blk_cell BK108.out 2).trans rfl
                    have hcz52_3 : wc.cell? ⟨gb108, 3, none⟩ = some (.int .i64 0) := (blk_cell BK108.out 3).trans rfl
                    have hcz52_4 : wc.cell? ⟨gb108, 4, none⟩ = some (.int .i64 0) := (blk_cell BK108.out 4).trans rfl
                    have hcz52_5 : wc.cell? ⟨gb108, 5, none⟩ = some (.int .i64 0) := (blk_cell BK108.out 5).trans rfl
                    have hcz52_6 : wc.cell? ⟨gb108, 6, none⟩ = some (.int .i64 0) := (blk_cell BK108.out 6).trans rfl
                    have hcz52_7 : wc.cell? ⟨gb108, 7, none⟩ = some (.int .i64 0) := (blk_cell BK108.out 7).trans rfl
                    have hcz52_8 : wc.cell? ⟨gb108, 8, none⟩ = some (.bool false) := (blk_cell BK108.out 8).trans rfl
                    have hfz52_0 := blk_frozen BK108.out 0
                    have hfz52_1 := blk_frozen BK108.out 1
                    have hfz52_2 := blk_frozen BK108.out 2
                    have hfz52_3 := blk_frozen BK108.out 3
                    have hfz52_4 := blk_frozen BK108.out 4
                    have hfz52_5 := blk_frozen BK108.out 5
                    have hfz52_6 := blk_frozen BK108.out 6
                    have hfz52_7 := blk_frozen BK108.out 7
                    have hfz52_8 := blk_frozen BK108.out 8
                    have hnb53 := NB107_105.out
                    have hnc53 := NB105_107.out
                    have hcz54_0 : wc.cell? ⟨gb107, 0, none⟩ = some (.int .i64 0) := (blk_cell BK107.out 0).trans rfl
                    have hcz54_1 : wc.cell? ⟨gb107, 1, none⟩ = some (.int .i64 0) := (blk_cell BK107.out 1).trans rfl
                    have hcz54_2 : wc.cell? ⟨gb107, 2, none⟩ = some (.int .i64 2) := (blk_cell BK107.out 2).trans rfl
                    have hcz54_3 : wc.cell? ⟨gb107, 3, none⟩ = some (.int .i64 0) := (blk_cell BK107.out 3).trans rfl
                    have hcz54_4 : wc.cell? ⟨gb107, 4, none⟩ = some (.int .i64 0) := (blk_cell BK107.out 4).trans rfl
                    have hcz54_5 : wc.cell? ⟨gb107, 5, none⟩ = some (.int .i64 0) := (blk_cell BK107.out 5).trans rfl
                    have hcz54_6 : wc.cell? ⟨gb107, 6, none⟩ = some (.int .i64 0) := (blk_cell BK107.out 6).trans rfl
                    have hcz54_7 : wc.cell? ⟨gb107, 7, none⟩ = some (.int .i64 0) := (blk_cell BK107.out 7).trans rfl
                    have hcz54_8 : wc.cell? ⟨gb107, 8, none⟩ = some (.bool false) := (blk_cell BK107.out 8).trans rfl
                    have hfz54_0 := blk_frozen BK107.out 0
                    have hfz54_1 := blk_frozen BK107.out 1
                    have hfz54_2 := blk_frozen BK107.out 2
                    have hfz54_3 := blk_frozen BK107.out 3
                    have hfz54_4 := blk_frozen BK107.out 4
                    have hfz54_5 := blk_frozen BK107.out 5
                    have hfz54_6 := blk_frozen BK107.out 6
                    have hfz54_7 := blk_frozen BK107.out 7
                    have hfz54_8 := blk_frozen BK107.out 8
                    have hcz55_0 : wc.cell? ⟨gb105, 0, none⟩ = some (.int .i64 a0_0) := (blk_cell BK105.out 0).trans rfl
                    have hcz55_1 : wc.cell? ⟨gb105, 1, none⟩ = some (.int .i64 a0_1) := (blk_cell BK105.out 1).trans rfl
                    have hcz55_2 : wc.cell? ⟨gb105, 2, none⟩ = some (.int .i64 a0_2) := (blk_cell BK105.out 2).trans rfl
                    have hcz55_3 : wc.cell? ⟨gb105, 3, none⟩ = some (.int .i64 a0_3) := (blk_cell BK105.out 3).trans rfl
                    have hcz55_4 : wc.cell? ⟨gb105, 4, none⟩ = some (.int .i64 a0_4) := (blk_cell BK105.out 4).trans rfl
                    have hcz55_5 : wc.cell? ⟨gb105, 5, none⟩ = some (.int .i64 a0_5) := (blk_cell BK105.out 5).trans rfl
                    have hcz55_6 : wc.cell? ⟨gb105, 6, none⟩ = some (.int .i64 a0_6) := (blk_cell BK105.out 6).trans rfl
                    have hcz55_7 : wc.cell? ⟨gb105, 7, none⟩ = some (.int .i64 a0_7) := (blk_cell BK105.out 7).trans rfl
                    have hcz55_8 : wc.cell? ⟨gb105, 8, none⟩ = some (.bool a0_8) := (blk_cell BK105.out 8).trans rfl
                    have hfz55_0 := blk_frozen BK105.out 0
                    have hfz55_1 := blk_frozen BK105.out 1
                    have hfz55_2 := blk_frozen BK105.out 2
                    have hfz55_3 := blk_frozen BK105.out 3
                    have hfz55_4 := blk_frozen BK105.out 4
                    have hfz55_5 := blk_frozen BK105.out 5
                    have hfz55_6 := blk_frozen BK105.out 6
                    have hfz55_7 := blk_frozen BK105.out 7
                    have hfz55_8 := blk_frozen BK105.out 8
                    go_wp2_with (first | ((with_reducible refine gate_callee (f := 19) rfl ?_); refine goesL_ (some 51) rfl rfl Try.func19 (by kernel_rfl) rfl #[.int .i64 a0_2, .int .i64 0, .int .i64 3] rfl (by (try simp only [List.map_toArray, List.map_cons, List.map_nil]); first | done | rfl | (simp only [List.length_drop, List.length_take]; rfl)) ?_; (with_reducible refine (event_in.calls a0_2 0 3 true _ A45.out).mono ?_); rintro e w' ⟨rfl, ⟨nd, rfl⟩⟩; refine ⟨_, rfl, ?_⟩) | (go_at_call 19; (with_reducible refine (event_in.calls a0_3 1 4 true _ A47.out).mono ?_); rintro e w' ⟨rfl, ⟨nd, rfl⟩⟩) | (go_at_call 19; (with_reducible refine (event_in.calls a0_4 0 0 t114 _ A49.out).mono ?_); rintro e w' ⟨rfl, ⟨nd, rfl⟩⟩))
                    go_ret
                    exact ⟨by first | rfl | (simp [errW_none, errW_some] <;> rfl) | (simp [*, errW_none, errW_some] <;> rfl), by repeat (first | (with_reducible first | exact HB.out | apply below_alloc | apply pw_below_drewN | apply below_drew1 | refine below_set ?_ GE105.out | refine below_set ?_ GE107.out | refine below_set ?_ GE108.out) | exact HB.out)⟩
                  · replace c48 := Bool.eq_false_iff.mpr c48
                    subst c48
                    have H1 : (some false) = some r := by rw [if_neg (show ¬ (false = true) by decide)] at H; exact H
                    clear H
                    have H := H1
                    clear H1
                    obtain rfl := Option.some.inj H
                    have hnb56 := NB108_105.out
                    have hnc56 := NB105_108.out
                    have hnb57 := NB108_107.out
                    have hnc57 := NB107_108.out
                    have hcz58_0 : wc.cell? ⟨gb108, 0, none⟩ = some (.int .i64 0) := (blk_cell BK108.out 0).trans rfl
                    have hcz58_1 : wc.cell? ⟨gb108, 1, none⟩ = some (.int .i64 0) := (blk_cell BK108.out 1).trans rfl
                    have hcz58_2 : wc.cell? ⟨gb108, 2, none⟩ = some (.int .i64 0) := (blk_cell BK108.out 2).trans rfl
                    have hcz58_3 : wc.cell? ⟨gb108, 3, none⟩ = some (.int .i64 0) := (blk_cell BK108.out 3).trans rfl
                    have hcz58_4 : wc.cell? ⟨gb108, 4, none⟩ = some (.int .i64 0) := (blk_cell BK108.out 4).trans rfl
                    have hcz58_5 : wc.cell? ⟨gb108, 5, none⟩ = some (.int .i64 0) := (blk_cell BK108.out 5).trans rfl
                    have hcz58_6 : wc.cell? ⟨gb108, 6, none⟩ = some (.int .i64 0) := (blk_cell BK108.out 6).trans rfl
                    have hcz58_7 : wc.cell? ⟨gb108, 7, none⟩ = some (.int .i64 0) := (blk_cell BK108.out 7).trans rfl
                    have hcz58_8 : wc.cell? ⟨gb108, 8, none⟩ = some (.bool false) := (blk_cell BK108.out 8).trans rfl
                    have hfz58_0 := blk_frozen BK108.out 0
                    have hfz58_1 := blk_frozen BK108.out 1
                    have hfz58_2 := blk_frozen BK108.out 2
                    have hfz58_3 := blk_frozen BK108.out 3
                    have hfz58_4 := blk_frozen BK108.out 4
                    have hfz58_5 := blk_frozen BK108.out 5
                    have hfz58_6 := blk_frozen BK108.out 6
                    have hfz58_7 := blk_frozen BK108.out 7
                    have hfz58_8 := blk_frozen BK108.out 8
                    have hnb59 := NB107_105.out
                    have hnc59 := NB105_107.out
                    have hcz60_0 : wc.cell? ⟨gb107, 0, none⟩ = some (.int .i64 0) := (blk_cell BK107.out 0).trans rfl
                    have hcz60_1 : wc.cell? ⟨gb107, 1, none⟩ = some (.int .i64 0) := (blk_cell BK107.out 1).trans rfl
                    have hcz60_2 : wc.cell? ⟨gb107, 2, none⟩ = some (.int .i64 2) := (blk_cell BK107.out 2).trans rfl
                    have hcz60_3 : wc.cell? ⟨gb107, 3, none⟩ = some (.int .i64 0) := (blk_cell BK107.out 3).trans rfl
                    have hcz60_4 : wc.cell? ⟨gb107, 4, none⟩ = some (.int .i64 0) := (blk_cell BK107.out 4).trans rfl
                    have hcz60_5 : wc.cell? ⟨gb107, 5, none⟩ = some (.int .i64 0) := (blk_cell BK107.out 5).trans rfl
                    have hcz60_6 : wc.cell? ⟨gb107, 6, none⟩ = some (.int .i64 0) := (blk_cell BK107.out 6).trans rfl
                    have hcz60_7 : wc.cell? ⟨gb107, 7, none⟩ = some (.int .i64 0) := (blk_cell BK107.out 7).trans rfl
                    have hcz60_8 : wc.cell? ⟨gb107, 8, none⟩ = some (.bool false) := (blk_cell BK107.out 8).trans rfl
                    have hfz60_0 := blk_frozen BK107.out 0
                    have hfz60_1 := blk_frozen BK107.out 1
                    have hfz60_2 := blk_frozen BK107.out 2
                    have hfz60_3 := blk_frozen BK107.out 3
                    have hfz60_4 := blk_frozen BK107.out 4
                    have hfz60_5 := blk_frozen BK107.out 5
                    have hfz60_6 := blk_frozen BK107.out 6
                    have hfz60_7 := blk_frozen BK107.out 7
                    have hfz60_8 := blk_frozen BK107.out 8
                    have hcz61_0 : wc.cell? ⟨gb105, 0, none⟩ = some (.int .i64 a0_0) := (blk_cell BK105.out 0).trans rfl
                    have hcz61_1 : wc.cell? ⟨gb105, 1, none⟩ = some (.int .i64 a0_1) := (blk_cell BK105.out 1).trans rfl
                    have hcz61_2 : wc.cell? ⟨gb105, 2, none⟩ = some (.int .i64 a0_2) := (blk_cell BK105.out 2).trans rfl
                    have hcz61_3 : wc.cell? ⟨gb105, 3, none⟩ = some (.int .i64 a0_3) := (blk_cell BK105.out 3).trans rfl
                    have hcz61_4 : wc.cell? ⟨gb105, 4, none⟩ = some (.int .i64 a0_4) := (blk_cell BK105.out 4).trans rfl
                    have hcz61_5 : wc.cell? ⟨gb105, 5, none⟩ = some (.int .i64 a0_5) := (blk_cell BK105.out 5).trans rfl
                    have hcz61_6 : wc.cell? ⟨gb105, 6, none⟩ = some (.int .i64 a0_6) := (blk_cell BK105.out 6).trans rfl
                    have hcz61_7 : wc.cell? ⟨gb105, 7, none⟩ = some (.int .i64 a0_7) := (blk_cell BK105.out 7).trans rfl
                    have hcz61_8 : wc.cell? ⟨gb105, 8, none⟩ = some (.bool a0_8) := (blk_cell BK105.out 8).trans rfl
                    have hfz61_0 := blk_frozen BK105.out 0
                    have hfz61_1 := blk_frozen BK105.out 1
                    have hfz61_2 := blk_frozen BK105.out 2
                    have hfz61_3 := blk_frozen BK105.out 3
                    have hfz61_4 := blk_frozen BK105.out 4
                    have hfz61_5 := blk_frozen BK105.out 5
                    have hfz61_6 := blk_frozen BK105.out 6
                    have hfz61_7 := blk_frozen BK105.out 7
                    have hfz61_8 := blk_frozen BK105.out 8
                    go_wp2_with (first | ((with_reducible refine gate_callee (f := 19) rfl ?_); refine goesL_ (some 51) rfl rfl Try.func19 (by kernel_rfl) rfl #[.int .i64 a0_2, .int .i64 0, .int .i64 3] rfl (by (try simp only [List.map_toArray, List.map_cons, List.map_nil]); first | done | rfl | (simp only [List.length_drop, List.length_take]; rfl)) ?_; (with_reducible refine (event_in.calls a0_2 0 3 true _ A45.out).mono ?_); rintro e w' ⟨rfl, ⟨nd, rfl⟩⟩; refine ⟨_, rfl, ?_⟩) | (go_at_call 19; (with_reducible refine (event_in.calls a0_3 1 4 false _ A47.out).mono ?_); rintro e w' ⟨rfl, ⟨nd, rfl⟩⟩))
                    go_ret
                    exact ⟨by first | rfl | (simp [errW_none, errW_some] <;> rfl) | (simp [*, errW_none, errW_some] <;> rfl), by repeat (first | (with_reducible first | exact HB.out | apply below_alloc | apply pw_below_drewN | apply below_drew1 | refine below_set ?_ GE105.out | refine below_set ?_ GE107.out | refine below_set ?_ GE108.out) | exact HB.out)⟩
                · replace c46 := Bool.eq_false_iff.mpr c46
                  subst c46
                  have H1 : (some false) = some r := by rw [if_neg (show ¬ (false = true) by decide)] at H; exact H
                  clear H
                  have H := H1
                  clear H1
                  obtain rfl := Option.some.inj H
                  have hnb62 := NB108_105.out
                  have hnc62 := NB105_108.out
                  have hnb63 := NB108_107.out
                  have hnc63 := NB107_108.out
                  have hcz64_0 : wc.cell? ⟨gb108, 0, none⟩ = some (.int .i64 0) := (blk_cell BK108.out 0).trans rfl
                  have hcz64_1 : wc.cell? ⟨gb108, 1, none⟩ = some (.int .i64 0) := (blk_cell BK108.out 1).trans rfl
                  have hcz64_2 : wc.cell? ⟨gb108, 2, none⟩ = some (.int .i64 0) := (blk_cell BK108.out 2).trans rfl
                  have hcz64_3 : wc.cell? ⟨gb108, 3, none⟩ = some (.int .i64 0) := (blk_cell BK108.out 3).trans rfl
                  have hcz64_4 : wc.cell? ⟨gb108, 4, none⟩ = some (.int .i64 0) := (blk_cell BK108.out 4).trans rfl
                  have hcz64_5 : wc.cell? ⟨gb108, 5, none⟩ = some (.int .i64 0) := (blk_cell BK108.out 5).trans rfl
                  have hcz64_6 : wc.cell? ⟨gb108, 6, none⟩ = some (.int .i64 0) := (blk_cell BK108.out 6).trans rfl
                  have hcz64_7 : wc.cell? ⟨gb108, 7, none⟩ = some (.int .i64 0) := (blk_cell BK108.out 7).trans rfl
                  have hcz64_8 : wc.cell? ⟨gb108, 8, none⟩ = some (.bool false) := (blk_cell BK108.out 8).trans rfl
                  have hfz64_0 := blk_frozen BK108.out 0
                  have hfz64_1 := blk_frozen BK108.out 1
                  have hfz64_2 := blk_frozen BK108.out 2
                  have hfz64_3 := blk_frozen BK108.out 3
                  have hfz64_4 := blk_frozen BK108.out 4
                  have hfz64_5 := blk_frozen BK108.out 5
                  have hfz64_6 := blk_frozen BK108.out 6
                  have hfz64_7 := blk_frozen BK108.out 7
                  have hfz64_8 := blk_frozen BK108.out 8
                  have hnb65 := NB107_105.out
                  have hnc65 := NB105_107.out
                  have hcz66_0 : wc.cell? ⟨gb107, 0, none⟩ = some (.int .i64 0) := (blk_cell BK107.out 0).trans rfl
                  have hcz66_1 : wc.cell? ⟨gb107, 1, none⟩ = some (.int .i64 0) := (blk_cell BK107.out 1).trans rfl
                  have hcz66_2 : wc.cell? ⟨gb107, 2, none⟩ = some (.int .i64 2) := (blk_cell BK107.out 2).trans rfl
                  have hcz66_3 : wc.cell? ⟨gb107, 3, none⟩ = some (.int .i64 0) := (blk_cell BK107.out 3).trans rfl
                  have hcz66_4 : wc.cell? ⟨gb107, 4, none⟩ = some (.int .i64 0) := (blk_cell BK107.out 4).trans rfl
                  have hcz66_5 : wc.cell? ⟨gb107, 5, none⟩ = some (.int .i64 0) := (blk_cell BK107.out 5).trans rfl
                  have hcz66_6 : wc.cell? ⟨gb107, 6, none⟩ = some (.int .i64 0) := (blk_cell BK107.out 6).trans rfl
                  have hcz66_7 : wc.cell? ⟨gb107, 7, none⟩ = some (.int .i64 0) := (blk_cell BK107.out 7).trans rfl
                  have hcz66_8 : wc.cell? ⟨gb107, 8, none⟩ = some (.bool false) := (blk_cell BK107.out 8).trans rfl
                  have hfz66_0 := blk_frozen BK107.out 0
                  have hfz66_1 := blk_frozen BK107.out 1
                  have hfz66_2 := blk_frozen BK107.out 2
                  have hfz66_3 := blk_frozen BK107.out 3
                  have hfz66_4 := blk_frozen BK107.out 4
                  have hfz66_5 := blk_frozen BK107.out 5
                  have hfz66_6 := blk_frozen BK107.out 6
                  have hfz66_7 := blk_frozen BK107.out 7
                  have hfz66_8 := blk_frozen BK107.out 8
                  have hcz67_0 : wc.cell? ⟨gb105, 0, none⟩ = some (.int .i64 a0_0) := (blk_cell BK105.out 0).trans rfl
                  have hcz67_1 : wc.cell? ⟨gb105, 1, none⟩ = some (.int .i64 a0_1) := (blk_cell BK105.out 1).trans rfl
                  have hcz67_2 : wc.cell? ⟨gb105, 2, none⟩ = some (.int .i64 a0_2) := (blk_cell BK105.out 2).trans rfl
                  have hcz67_3 : wc.cell? ⟨gb105, 3, none⟩ = some (.int .i64 a0_3) := (blk_cell BK105.out 3).trans rfl
                  have hcz67_4 : wc.cell? ⟨gb105, 4, none⟩ = some (.int .i64 a0_4) := (blk_cell BK105.out 4).trans rfl
                  have hcz67_5 : wc.cell? ⟨gb105, 5, none⟩ = some (.int .i64 a0_5) := (blk_cell BK105.out 5).trans rfl
                  have hcz67_6 : wc.cell? ⟨gb105, 6, none⟩ = some (.int .i64 a0_6) := (blk_cell BK105.out 6).trans rfl
                  have hcz67_7 : wc.cell? ⟨gb105, 7, none⟩ = some (.int .i64 a0_7) := (blk_cell BK105.out 7).trans rfl
                  have hcz67_8 : wc.cell? ⟨gb105, 8, none⟩ = some (.bool a0_8) := (blk_cell BK105.out 8).trans rfl
                  have hfz67_0 := blk_frozen BK105.out 0
                  have hfz67_1 := blk_frozen BK105.out 1
                  have hfz67_2 := blk_frozen BK105.out 2
                  have hfz67_3 := blk_frozen BK105.out 3
                  have hfz67_4 := blk_frozen BK105.out 4
                  have hfz67_5 := blk_frozen BK105.out 5
                  have hfz67_6 := blk_frozen BK105.out 6
                  have hfz67_7 := blk_frozen BK105.out 7
                  have hfz67_8 := blk_frozen BK105.out 8
                  go_wp2_with (first | ((with_reducible refine gate_callee (f := 19) rfl ?_); refine goesL_ (some 51) rfl rfl Try.func19 (by kernel_rfl) rfl #[.int .i64 a0_2, .int .i64 0, .int .i64 3] rfl (by (try simp only [List.map_toArray, List.map_cons, List.map_nil]); first | done | rfl | (simp only [List.length_drop, List.length_take]; rfl)) ?_; (with_reducible refine (event_in.calls a0_2 0 3 false _ A45.out).mono ?_); rintro e w' ⟨rfl, ⟨nd, rfl⟩⟩; refine ⟨_, rfl, ?_⟩))
                  go_ret
                  exact ⟨by first | rfl | (simp [errW_none, errW_some] <;> rfl) | (simp [*, errW_none, errW_some] <;> rfl), by repeat (first | (with_reducible first | exact HB.out | apply below_alloc | apply pw_below_drewN | apply below_drew1 | refine below_set ?_ GE105.out | refine below_set ?_ GE107.out | refine below_set ?_ GE108.out) | exact HB.out)⟩
              · rw [if_neg c44] at H
                have c44b0 : (a0_0 == 2) = false := beq_eq_false_iff_ne.mpr c44
                have c44b1 : (a0_0 != 2) = true := bne_iff_ne.mpr c44
                by_cases c68 : a0_0 = 4
                · rw [if_pos c68] at H
                  have c68b0 : (a0_0 == 4) = true := beq_iff_eq.mpr c68
                  have c68b1 : (a0_0 != 4) = false := bne_eq_false_iff_eq.mpr c68
                  clear c68
                  replace H := Option.bind_eq_some_iff.mp H
                  obtain ⟨t115, A690, H⟩ := H
                  replace H : (if t115 = true then ((event_in.f a0_3 1 4).bind fun t116 => (if t116 = true then ((event_in.f a0_4 0 0).bind fun t117 => (some t117)) else (some false))) else (some false)) = some r := H
                  have A69 := Aside0.mk A690
                  clear A690
                  by_cases c70 : t115 = true
                  · subst c70
                    have H1 : ((event_in.f a0_3 1 4).bind fun t116 => (if t116 = true then ((event_in.f a0_4 0 0).bind fun t117 => (some t117)) else (some false))) = some r := by rw [if_pos rfl] at H; exact H
                    clear H
                    have H := H1
                    clear H1
                    replace H := Option.bind_eq_some_iff.mp H
                    obtain ⟨t116, A710, H⟩ := H
                    replace H : (if t116 = true then ((event_in.f a0_4 0 0).bind fun t117 => (some t117)) else (some false)) = some r := H
                    have A71 := Aside0.mk A710
                    clear A710
                    by_cases c72 : t116 = true
                    · subst c72
                      have H1 : ((event_in.f a0_4 0 0).bind fun t117 => (some t117)) = some r := by rw [if_pos rfl] at H; exact H
                      clear H
                      have H := H1
                      clear H1
                      replace H := Option.bind_eq_some_iff.mp H
                      obtain ⟨t117, A730, H⟩ := H
                      replace H : (some t117) = some r := H
                      have A73 := Aside0.mk A730
                      clear A730
                      obtain rfl := Option.some.inj H
                      have hnb74 := NB108_105.out
                      have hnc74 := NB105_108.out
                      have hnb75 := NB108_107.out
                      have hnc75 := NB107_108.out
                      have hcz76_0 : wc.cell? ⟨gb108, 0, none⟩ = some (.int .i64 0) := (blk_cell BK108.out 0).trans rfl
                      have hcz76_1 : wc.cell? ⟨gb108, 1, none⟩ = some (.int .i64 0) := (blk_cell BK108.out 1).trans rfl
                      have hcz76_2 : wc.cell? ⟨gb108, 2, none⟩ = some (.int .i64 0) := (blk_cell BK108.out 2).trans rfl
                      have hcz76_3 : wc.cell? ⟨gb108, 3, none⟩ = some (.int .i64 0) := (blk_cell BK108.out 3).trans rfl
                      have hcz76_4 : wc.cell? ⟨gb108, 4, none⟩ = some (.int .i64 0) := (blk_cell BK108.out 4).trans rfl
                      have hcz76_5 : wc.cell? ⟨gb108, 5, none⟩ = some (.int .i64 0) := (blk_cell BK108.out 5).trans rfl
                      have hcz76_6 : wc.cell? ⟨gb108, 6, none⟩ = some (.int .i64 0) := (blk_cell BK108.out 6).trans rfl
                      have hcz76_7 : wc.cell? ⟨gb108, 7, none⟩ = some (.int .i64 0) := (blk_cell BK108.out 7).trans rfl
                      have hcz76_8 : wc.cell? ⟨gb108, 8, none⟩ = some (.bool false) := (blk_cell BK108.out 8).trans rfl
                      have hfz76_0 := blk_frozen BK108.out 0
                      have hfz76_1 := blk_frozen BK108.out 1
                      have hfz76_2 := blk_frozen BK108.out 2
                      have hfz76_3 := blk_frozen BK108.out 3
                      have hfz76_4 := blk_frozen BK108.out 4
                      have hfz76_5 := blk_frozen BK108.out 5
                      have hfz76_6 := blk_frozen BK108.out 6
                      have hfz76_7 := blk_frozen BK108.out 7
                      have hfz76_8 := blk_frozen BK108.out 8
                      have hnb77 := NB107_105.out
                      have hnc77 := NB105_107.out
                      have hcz78_0 : wc.cell? ⟨gb107, 0, none⟩ = some (.int .i64 0) := (blk_cell BK107.out 0).trans rfl
                      have hcz78_1 : wc.cell? ⟨gb107, 1, none⟩ = some (.int .i64 0) := (blk_cell BK107.out 1).trans rfl
                      have hcz78_2 : wc.cell? ⟨gb107, 2, none⟩ = some (.int .i64 2) := (blk_cell BK107.out 2).trans rfl
                      have hcz78_3 : wc.cell? ⟨gb107, 3, none⟩ = some (.int .i64 0) := (blk_cell BK107.out 3).trans rfl
                      have hcz78_4 : wc.cell? ⟨gb107, 4, none⟩ = some (.int .i64 0) := (blk_cell BK107.out 4).trans rfl
                      have hcz78_5 : wc.cell? ⟨gb107, 5, none⟩ = some (.int .i64 0) := (blk_cell BK107.out 5).trans rfl
                      have hcz78_6 : wc.cell? ⟨gb107, 6, none⟩ = some (.int .i64 0) := (blk_cell BK107.out 6).trans rfl
                      have hcz78_7 : wc.cell? ⟨gb107, 7, none⟩ = some (.int .i64 0) := (blk_cell BK107.out 7).trans rfl
                      have hcz78_8 : wc.cell? ⟨gb107, 8, none⟩ = some (.bool false) := (blk_cell BK107.out 8).trans rfl
                      have hfz78_0 := blk_frozen BK107.out 0
                      have hfz78_1 := blk_frozen BK107.out 1
                      have hfz78_2 := blk_frozen BK107.out 2
                      have hfz78_3 := blk_frozen BK107.out 3
                      have hfz78_4 := blk_frozen BK107.out 4
                      have hfz78_5 := blk_frozen BK107.out 5
                      have hfz78_6 := blk_frozen BK107.out 6
                      have hfz78_7 := blk_frozen BK107.out 7
                      have hfz78_8 := blk_frozen BK107.out 8
                      have hcz79_0 : wc.cell? ⟨gb105, 0, none⟩ = some (.int .i64 a0_0) := (blk_cell BK105.out 0).trans rfl
                      have hcz79_1 : wc.cell? ⟨gb105, 1, none⟩ = some (.int .i64 a0_1) := (blk_cell BK105.out 1).trans rfl
                      have hcz79_2 : wc.cell? ⟨gb105, 2, none⟩ = some (.int .i64 a0_2) := (blk_cell BK105.out 2).trans rfl
                      have hcz79_3 : wc.cell? ⟨gb105, 3, none⟩ = some (.int .i64 a0_3) := (blk_cell BK105.out 3).trans rfl
                      have hcz79_4 : wc.cell? ⟨gb105, 4, none⟩ = some (.int .i64 a0_4) := (blk_cell BK105.out 4).trans rfl
                      have hcz79_5 : wc.cell? ⟨gb105, 5, none⟩ = some (.int .i64 a0_5) := (blk_cell BK105.out 5).trans rfl
                      have hcz79_6 : wc.cell? ⟨gb105, 6, none⟩ = some (.int .i64 a0_6) := (blk_cell BK105.out 6).trans rfl
                      have hcz79_7 : wc.cell? ⟨gb105, 7, none⟩ = some (.int .i64 a0_7) := (blk_cell BK105.out 7).trans rfl
                      have hcz79_8 : wc.cell? ⟨gb105, 8, none⟩ = some (.bool a0_8) := (blk_cell BK105.out 8).trans rfl
                      have hfz79_0 := blk_frozen BK105.out 0
                      have hfz79_1 := blk_frozen BK105.out 1
                      have hfz79_2 := blk_frozen BK105.out 2
                      have hfz79_3 := blk_frozen BK105.out 3
                      have hfz79_4 := blk_frozen BK105.out 4
                      have hfz79_5 := blk_frozen BK105.out 5
                      have hfz79_6 := blk_frozen BK105.out 6
                      have hfz79_7 := blk_frozen BK105.out 7
                      have hfz79_8 := blk_frozen BK105.out 8
                      go_wp2_with (first | ((with_reducible refine gate_callee (f := 19) rfl ?_); refine goesL_ (some 51) rfl rfl Try.func19 (by kernel_rfl) rfl #[.int .i64 a0_2, .int .i64 0, .int .i64 2] rfl (by (try simp only [List.map_toArray, List.map_cons, List.map_nil]); first | done | rfl | (simp only [List.length_drop, List.length_take]; rfl)) ?_; (with_reducible refine (event_in.calls a0_2 0 2 true _ A69.out).mono ?_); rintro e w' ⟨rfl, ⟨nd, rfl⟩⟩; refine ⟨_, rfl, ?_⟩) | (go_at_call 19; (with_reducible refine (event_in.calls a0_3 1 4 true _ A71.out).mono ?_); rintro e w' ⟨rfl, ⟨nd, rfl⟩⟩) | (go_at_call 19; (with_reducible refine (event_in.calls a0_4 0 0 t117 _ A73.out).mono ?_); rintro e w' ⟨rfl, ⟨nd, rfl⟩⟩))
                      go_ret
                      exact ⟨by first | rfl | (simp [errW_none, errW_some] <;> rfl) | (simp [*, errW_none, errW_some] <;> rfl), by repeat (first | (with_reducible first | exact HB.out | apply below_alloc | apply pw_below_drewN | apply below_drew1 | refine below_set ?_ GE105.out | refine below_set ?_ GE107.out | refine below_set ?_ GE108.out) | exact HB.out)⟩
                    · replace c72 := Bool.eq_false_iff.mpr c72
                      subst c72
                      have H1 : (some false) = some r := by rw [if_neg (show ¬ (false = true) by decide)] at H; exact H
                      clear H
                      have H := H1
                      clear H1
                      obtain rfl := Option.some.inj H
                      have hnb80 := NB108_105.out
                      have hnc80 := NB105_108.out
                      have hnb81 := NB108_107.out
                      have hnc81 := NB107_108.out
                      have hcz82_0 : wc.cell? ⟨gb108, 0, none⟩ = some (.int .i64 0) := (blk_cell BK108.out 0).trans rfl
                      have hcz82_1 : wc.cell? ⟨gb108, 1, none⟩ = some (.int .i64 0) := (blk_cell BK108.out 1).trans rfl
                      have hcz82_2 : wc.cell? ⟨gb108, 2, none⟩ = some (.int .i64 0) := (blk_cell BK108.out 2).trans rfl
                      have hcz82_3 : wc.cell? ⟨gb108, 3, none⟩ = some (.int .i64 0) := (blk_cell BK108.out 3).trans rfl
                      have hcz82_4 : wc.cell? ⟨gb108, 4, none⟩ = some (.int .i64 0) := (blk_cell BK108.out 4).trans rfl
                      have hcz82_5 : wc.cell? ⟨gb108, 5, none⟩ = some (.int .i64 0) := (blk_cell BK108.out 5).trans rfl
                      have hcz82_6 : wc.cell? ⟨gb108, 6, none⟩ = some (.int .i64 0) := (blk_cell BK108.out 6).trans rfl
                      have hcz82_7 : wc.cell? ⟨gb108, 7, none⟩ = some (.int .i64 0) := (blk_cell BK108.out 7).trans rfl
                      have hcz82_8 : wc.cell? ⟨gb108, 8, none⟩ = some (.bool false) := (blk_cell BK108.out 8).trans rfl
                      have hfz82_0 := blk_frozen BK108.out 0
                      have hfz82_1 := blk_frozen BK108.out 1
                      have hfz82_2 := blk_frozen BK108.out 2
                      have hfz82_3 := blk_frozen BK108.out 3
                      have hfz82_4 := blk_frozen BK108.out 4
                      have hfz82_5 := blk_frozen BK108.out 5
                      have hfz82_6 := blk_frozen BK108.out 6
                      have hfz82_7 := blk_frozen BK108.out 7
                      have hfz82_8 := blk_frozen BK108.out 8
                      have hnb83 := NB107_105.out
                      have hnc83 := NB105_107.out
                      have hcz84_0 : wc.cell? ⟨gb107, 0, none⟩ = some (.int .i64 0) := (blk_cell BK107.out 0).trans rfl
                      have hcz84_1 : wc.cell? ⟨gb107, 1, none⟩ = some (.int .i64 0) := (blk_cell BK107.out 1).trans rfl
                      have hcz84_2 : wc.cell? ⟨gb107, 2, none⟩ = some (.int .i64 2) := (blk_cell BK107.out 2).trans rfl
                      have hcz84_3 : wc.cell? ⟨gb107, 3, none⟩ = some (.int .i64 0) := (blk_cell BK107.out 3).trans rfl
                      have hcz84_4 : wc.cell? ⟨gb107, 4, none⟩ = some (.int .i64 0) := (blk_cell BK107.out 4).trans rfl
                      have hcz84_5 : wc.cell? ⟨gb107, 5, none⟩ = some (.int .i64 0) := (blk_cell BK107.out 5).trans rfl
                      have hcz84_6 : wc.cell? ⟨gb107, 6, none⟩ = some (.int .i64 0) := (blk_cell BK107.out 6).trans rfl
                      have hcz84_7 : wc.cell? ⟨gb107, 7, none⟩ = some (.int .i64 0) := (blk_cell BK107.out 7).trans rfl
                      have hcz84_8 : wc.cell? ⟨gb107, 8, none⟩ = some (.bool false) := (blk_cell BK107.out 8).trans rfl
                      have hfz84_0 := blk_frozen BK107.out 0
                      have hfz84_1 := blk_frozen BK107.out 1
                      have hfz84_2 := blk_frozen BK107.out 2
                      have hfz84_3 := blk_frozen BK107.out 3
                      have hfz84_4 := blk_frozen BK107.out 4
                      have hfz84_5 := blk_frozen BK107.out 5
                      have hfz84_6 := blk_frozen BK107.out 6
                      have hfz84_7 := blk_frozen BK107.out 7
                      have hfz84_8 := blk_frozen BK107.out 8
                      have hcz85_0 : wc.cell? ⟨gb105, 0, none⟩ = some (.int .i64 a0_0) := (blk_cell BK105.out 0).trans rfl
                      have hcz85_1 : wc.cell? ⟨gb105, 1, none⟩ = some (.int .i64 a0_1) := (blk_cell BK105.out 1).trans rfl
                      have hcz85_2 : wc.cell? ⟨gb105, 2, none⟩ = some (.int .i64 a0_2) := (blk_cell BK105.out 2).trans rfl
                      have hcz85_3 : wc.cell? ⟨gb105, 3, none⟩ = some (.int .i64 a0_3) := (blk_cell BK105.out 3).trans rfl
                      have hcz85_4 : wc.cell? ⟨gb105, 4, none⟩ = some (.int .i64 a0_4) := (blk_cell BK105.out 4).trans rfl
                      have hcz85_5 : wc.cell? ⟨gb105, 5, none⟩ = some (.int .i64 a0_5) := (blk_cell BK105.out 5).trans rfl
                      have hcz85_6 : wc.cell? ⟨gb105, 6, none⟩ = some (.int .i64 a0_6) := (blk_cell BK105.out 6).trans rfl
                      have hcz85_7 : wc.cell? ⟨gb105, 7, none⟩ = some (.int .i64 a0_7) := (blk_cell BK105.out 7).trans rfl
                      have hcz85_8 : wc.cell? ⟨gb105, 8, none⟩ = some (.bool a0_8) := (blk_cell BK105.out 8).trans rfl
                      have hfz85_0 := blk_frozen BK105.out 0
                      have hfz85_1 := blk_frozen BK105.out 1
                      have hfz85_2 := blk_frozen BK105.out 2
                      have hfz85_3 := blk_frozen BK105.out 3
                      have hfz85_4 := blk_frozen BK105.out 4
                      have hfz85_5 := blk_frozen BK105.out 5
                      have hfz85_6 := blk_frozen BK105.out 6
                      have hfz85_7 := blk_frozen BK105.out 7
                      have hfz85_8 := blk_frozen BK105.out 8
                      go_wp2_with (first | ((with_reducible refine gate_callee (f := 19) rfl ?_); refine goesL_ (some 51) rfl rfl Try.func19 (by kernel_rfl) rfl #[.int .i64 a0_2, .int .i64 0, .int .i64 2] rfl (by (try simp only [List.map_toArray, List.map_cons, List.map_nil]); first | done | rfl | (simp only [List.length_drop, List.length_take]; rfl)) ?_; (with_reducible refine (event_in.calls a0_2 0 2 true _ A69.out).mono ?_); rintro e w' ⟨rfl, ⟨nd, rfl⟩⟩; refine ⟨_, rfl, ?_⟩) | (go_at_call 19; (with_reducible refine (event_in.calls a0_3 1 4 false _ A71.out).mono ?_); rintro e w' ⟨rfl, ⟨nd, rfl⟩⟩))
                      go_ret
                      exact ⟨by first | rfl | (simp [errW_none, errW_some] <;> rfl) | (simp [*, errW_none, errW_some] <;> rfl), by repeat (first | (with_reducible first | exact HB.out | apply below_alloc | apply pw_below_drewN | apply below_drew1 | refine below_set ?_ GE105.out | refine below_set ?_ GE107.out | refine below_set ?_ GE108.out) | exact HB.out)⟩
                  · replace c70 := Bool.eq_false_iff.mpr c70
                    subst c70
                    have H1 : (some false) = some r := by rw [if_neg (show ¬ (false = true) by decide)] at H; exact H
                    clear H
                    have H := H1
                    clear H1
                    obtain rfl := Option.some.inj H
                    have hnb86 := NB108_105.out
                    have hnc86 := NB105_108.out
                    have hnb87 := NB108_107.out
                    have hnc87 := NB107_108.out
                    have hcz88_0 : wc.cell? ⟨gb108, 0, none⟩ = some (.int .i64 0) := (blk_cell BK108.out 0).trans rfl
                    have hcz88_1 : wc.cell? ⟨gb108, 1, none⟩ = some (.int .i64 0) := (blk_cell BK108.out 1).trans rfl
                    have hcz88_2 : wc.cell? ⟨gb108, 2, none⟩ = some (.int .i64 0) := (blk_cell BK108.out 2).trans rfl
                    have hcz88_3 : wc.cell? ⟨gb108, 3, none⟩ = some (.int .i64 0) := (blk_cell BK108.out 3).trans rfl
                    have hcz88_4 : wc.cell? ⟨gb108, 4, none⟩ = some (.int .i64 0) := (blk_cell BK108.out 4).trans rfl
                    have hcz88_5 : wc.cell? ⟨gb108, 5, none⟩ = some (.int .i64 0) := (blk_cell BK108.out 5).trans rfl
                    have hcz88_6 : wc.cell? ⟨gb108, 6, none⟩ = some (.int .i64 0) := (blk_cell BK108.out 6).trans rfl
                    have hcz88_7 : wc.cell? ⟨gb108, 7, none⟩ = some (.int .i64 0) := (blk_cell BK108.out 7).trans rfl
                    have hcz88_8 : wc.cell? ⟨gb108, 8, none⟩ = some (.bool false) := (blk_cell BK108.out 8).trans rfl
                    have hfz88_0 := blk_frozen BK108.out 0
                    have hfz88_1 := blk_frozen BK108.out 1
                    have hfz88_2 := blk_frozen BK108.out 2
                    have hfz88_3 := blk_frozen BK108.out 3
                    have hfz88_4 := blk_frozen BK108.out 4
                    have hfz88_5 := blk_frozen BK108.out 5
                    have hfz88_6 := blk_frozen BK108.out 6
                    have hfz88_7 := blk_frozen BK108.out 7
                    have hfz88_8 := blk_frozen BK108.out 8
                    have hnb89 := NB107_105.out
                    have hnc89 := NB105_107.out
                    have hcz90_0 : wc.cell? ⟨gb107, 0, none⟩ = some (.int .i64 0) := (blk_cell BK107.out 0).trans rfl
                    have hcz90_1 : wc.cell? ⟨gb107, 1, none⟩ = some (.int .i64 0) := (blk_cell BK107.out 1).trans rfl
                    have hcz90_2 : wc.cell? ⟨gb107, 2, none⟩ = some (.int .i64 2) := (blk_cell BK107.out 2).trans rfl
                    have hcz90_3 : wc.cell? ⟨gb107, 3, none⟩ = some (.int .i64 0) := (blk_cell BK107.out 3).trans rfl
                    have hcz90_4 : wc.cell? ⟨gb107, 4, none⟩ = some (.int .i64 0) := (blk_cell BK107.out 4).trans rfl
                    have hcz90_5 : wc.cell? ⟨gb107, 5, none⟩ = some (.int .i64 0) := (blk_cell BK107.out 5).trans rfl
                    have hcz90_6 : wc.cell? ⟨gb107, 6, none⟩ = some (.int .i64 0) := (blk_cell BK107.out 6).trans rfl
                    have hcz90_7 : wc.cell? ⟨gb107, 7, none⟩ = some (.int .i64 0) := (blk_cell BK107.out 7).trans rfl
                    have hcz90_8 : wc.cell? ⟨gb107, 8, none⟩ = some (.bool false) := (blk_cell BK107.out 8).trans rfl
                    have hfz90_0 := blk_frozen BK107.out 0
                    have hfz90_1 := blk_frozen BK107.out 1
                    have hfz90_2 := blk_frozen BK107.out 2
                    have hfz90_3 := blk_frozen BK107.out 3
                    have hfz90_4 := blk_frozen BK107.out 4
                    have hfz90_5 := blk_frozen BK107.out 5
                    have hfz90_6 := blk_frozen BK107.out 6
                    have hfz90_7 := blk_frozen BK107.out 7
                    have hfz90_8 := blk_frozen BK107.out 8
                    have hcz91_0 : wc.cell? ⟨gb105, 0, none⟩ = some (.int .i64 a0_0) := (blk_cell BK105.out 0).trans rfl
                    have hcz91_1 : wc.cell? ⟨gb105, 1, none⟩ = some (.int .i64 a0_1) := (blk_cell BK105.out 1).trans rfl
                    have hcz91_2 : wc.cell? ⟨gb105, 2, none⟩ = some (.int .i64 a0_2) := (blk_cell BK105.out 2).trans rfl
                    have hcz91_3 : wc.cell? ⟨gb105, 3, none⟩ = some (.int .i64 a0_3) := (blk_cell BK105.out 3).trans rfl
                    have hcz91_4 : wc.cell? ⟨gb105, 4, none⟩ = some (.int .i64 a0_4) := (blk_cell BK105.out 4).trans rfl
                    have hcz91_5 : wc.cell? ⟨gb105, 5, none⟩ = some (.int .i64 a0_5) := (blk_cell BK105.out 5).trans rfl
                    have hcz91_6 : wc.cell? ⟨gb105, 6, none⟩ = some (.int .i64 a0_6) := (blk_cell BK105.out 6).trans rfl
                    have hcz91_7 : wc.cell? ⟨gb105, 7, none⟩ = some (.int .i64 a0_7) := (blk_cell BK105.out 7).trans rfl
                    have hcz91_8 : wc.cell? ⟨gb105, 8, none⟩ = some (.bool a0_8) := (blk_cell BK105.out 8).trans rfl
                    have hfz91_0 := blk_frozen BK105.out 0
                    have hfz91_1 := blk_frozen BK105.out 1
                    have hfz91_2 := blk_frozen BK105.out 2
                    have hfz91_3 := blk_frozen BK105.out 3
                    have hfz91_4 := blk_frozen BK105.out 4
                    have hfz91_5 := blk_frozen BK105.out 5
                    have hfz91_6 := blk_frozen BK105.out 6
                    have hfz91_7 := blk_frozen BK105.out 7
                    have hfz91_8 := blk_frozen BK105.out 8
                    go_wp2_with (first | ((with_reducible refine gate_callee (f := 19) rfl ?_); refine goesL_ (some 51) rfl rfl Try.func19 (by kernel_rfl) rfl #[.int .i64 a0_2, .int .i64 0, .int .i64 2] rfl (by (try simp only [List.map_toArray, List.map_cons, List.map_nil]); first | done | rfl | (simp only [List.length_drop, List.length_take]; rfl)) ?_; (with_reducible refine (event_in.calls a0_2 0 2 false _ A69.out).mono ?_); rintro e w' ⟨rfl, ⟨nd, rfl⟩⟩; refine ⟨_, rfl, ?_⟩))
                    go_ret
                    exact ⟨by first | rfl | (simp [errW_none, errW_some] <;> rfl) | (simp [*, errW_none, errW_some] <;> rfl), by repeat (first | (with_reducible first | exact HB.out | apply below_alloc | apply pw_below_drewN | apply below_drew1 | refine below_set ?_ GE105.out | refine below_set ?_ GE107.out | refine below_set ?_ GE108.out) | exact HB.out)⟩
                · rw [if_neg c68] at H
                  have c68b0 : (a0_0 == 4) = false := beq_eq_false_iff_ne.mpr c68
                  have c68b1 : (a0_0 != 4) = true := bne_iff_ne.mpr c68
                  have HC92 := Aside0.mk H
                  clear H
                  go_upto_if 37 with (fail)
                  go_cut [37] (fun v37 wc => ∃ (kq : Nat) (x37_91 : Bool), v37 = .bool x37_91 ∧ Aside0 (event_May.j2 kq a0_0 x37_91 a0_0 a0_1 a0_2 a0_3 a0_4 a0_5 a0_6 a0_7 a0_8 0 0 2 0 0 0 0 0 false 0 0 0 0 0 0 0 0 false = some r) ∧ Aside0 (kq ≤ kj10) ∧ Aside0 (wc.heap[gb105]? = some (.cells #[.int .i64 a0_0, .int .i64 a0_1, .int .i64 a0_2, .int .i64 a0_3, .int .i64 a0_4, .int .i64 a0_5, .int .i64 a0_6, .int .i64 a0_7, .bool a0_8] 34 (0, 0))) ∧ Aside0 (wc.heap[gb107]? = some (.cells #[.int .i64 0, .int .i64 0, .int .i64 2, .int .i64 0, .int .i64 0, .int .i64 0, .int .i64 0, .int .i64 0, .bool false] 34 (0, 0))) ∧ Aside0 (wc.heap[gb108]? = some (.cells #[.int .i64 0, .int .i64 0, .int .i64 0, .int .i64 0, .int .i64 0, .int .i64 0, .int .i64 0, .int .i64 0, .bool false] 34 (0, 0))) ∧ Aside0 (Below w.heap.size w wc))
                  case first =>
                    have H := HC92.out
                    clear HC92
                    by_cases c93 : a0_0 = 3
                    · rw [if_pos c93] at H
                      have c93b0 : (a0_0 == 3) = true := beq_iff_eq.mpr c93
                      have c93b1 : (a0_0 != 3) = false := bne_eq_false_iff_eq.mpr c93
                      clear c93
                      (first | rw [c93b0] | (simp only [i64_w, i32_w]; rw [c93b0]) | skip)
                      have H' := Aside0.mk H
                      clear H
                      go_wp2
                      go_meet
                      case rel => exact ⟨_, ((a0_0 == 3)), (by first | rfl | (simp; done) | (simp [*]; done)), H', ⟨by have := HJ1.out; have := HJ10.out; first | omega | exact Nat.le_refl _⟩, ⟨by (with_reducible repeat (first | refine blk_drewN ?_ _ | refine blk_drew ?_ | refine blk_alloc ?_ _)); exact BK105.out⟩, ⟨by (with_reducible repeat (first | refine blk_drewN ?_ _ | refine blk_drew ?_ | refine blk_alloc ?_ _)); exact BK107.out⟩, ⟨by (with_reducible repeat (first | refine blk_drewN ?_ _ | refine blk_drew ?_ | refine blk_alloc ?_ _)); exact BK108.out⟩, ⟨by repeat (first | (with_reducible first | exact HB.out | apply below_alloc | apply pw_below_drewN | apply below_drew1 | refine below_set ?_ GE105.out | refine below_set ?_ GE107.out | refine below_set ?_ GE108.out) | exact HB.out)⟩⟩
                    · rw [if_neg c93] at H
                      have c93b0 : (a0_0 == 3) = false := beq_eq_false_iff_ne.mpr c93
                      have c93b1 : (a0_0 != 3) = true := bne_iff_ne.mpr c93
                      (first | rw [c93b0] | (simp only [i64_w, i32_w]; rw [c93b0]) | skip)
                      have H' := Aside0.mk H
                      clear H
                      go_wp2
                      go_meet
                      case rel => exact ⟨_, ((a0_0 == 5)), (by first | rfl | (simp; done) | (simp [*]; done)), H', ⟨by have := HJ1.out; have := HJ10.out; first | omega | exact Nat.le_refl _⟩, ⟨by (with_reducible repeat (first | refine blk_drewN ?_ _ | refine blk_drew ?_ | refine blk_alloc ?_ _)); exact BK105.out⟩, ⟨by (with_reducible repeat (first | refine blk_drewN ?_ _ | refine blk_drew ?_ | refine blk_alloc ?_ _)); exact BK107.out⟩, ⟨by (with_reducible repeat (first | refine blk_drewN ?_ _ | refine blk_drew ?_ | refine blk_alloc ?_ _)); exact BK108.out⟩, ⟨by repeat (first | (with_reducible first | exact HB.out | apply below_alloc | apply pw_below_drewN | apply below_drew1 | refine below_set ?_ GE105.out | refine below_set ?_ GE107.out | refine below_set ?_ GE108.out) | exact HB.out)⟩⟩
                  case rest =>
                    clear HC92
                    try clear c1
                    try clear c2
                    try clear p2
                    try clear c3
                    try clear c4
                    try clear c5
                    try clear c6
                    try clear c7
                    try clear c8
                    try clear c9
                    try clear c19
                    try clear c21
                    try clear c23
                    try clear c36
                    try clear c39
                    try clear c40
                    try clear c42
                    try clear c44
                    try clear c44b0
                    try clear c44b1
                    try clear c46
                    try clear c48
                    try clear c50
                    try clear c51
                    try clear c53
                    try clear c56
                    try clear c57
                    try clear c59
                    try clear c62
                    try clear c63
                    try clear c65
                    try clear c68
                    try clear c68b0
                    try clear c68b1
                    try clear c70
                    try clear c72
                    try clear c74
                    try clear c75
                    try clear c77
                    try clear c80
                    try clear c81
                    try clear c83
                    try clear c86
                    try clear c87
                    try clear c89
                    try clear c93
                    try clear c93b0
                    try clear c93b1
                    try clear hcz35_6
                    try clear hcz35_7
                    try clear hcz35_8
                    try clear hcz37_0
                    try clear hcz37_1
                    try clear hcz37_2
                    try clear hcz37_3
                    try clear hcz37_4
                    try clear hcz37_5
                    try clear hcz37_6
                    try clear hcz37_7
                    try clear hcz37_8
                    try clear hcz38_0
                    try clear hcz38_1
                    try clear hcz38_2
                    try clear hcz38_3
                    try clear hcz38_4
                    try clear hcz38_5
                    try clear hcz38_6
                    try clear hcz38_7
                    try clear hcz38_8
                    try clear hcz41_0
                    try clear hcz41_1
                    try clear hcz41_2
                    try clear hcz41_3
                    try clear hcz41_4
                    try clear hcz41_5
                    try clear hcz41_6
                    try clear hcz41_7
                    try clear hcz41_8
                    try clear hcz43_0
                    try clear hcz43_1
                    try clear hcz43_2
                    try clear hcz43_3
                    try clear hcz43_4
                    try clear hcz43_5
                    try clear hcz43_6
                    try clear hcz43_7
                    try clear hcz43_8
                    try clear hcz52_0
                    try clear hcz52_1
                    try clear hcz52_2
                    try clear hcz52_3
                    try clear hcz52_4
                    try clear hcz52_5
                    try clear hcz52_6
                    try clear hcz52_7
                    try clear hcz52_8
                    try clear hcz54_0
                    try clear hcz54_1
                    try clear hcz54_2
                    try clear hcz54_3
                    try clear hcz54_4
                    try clear hcz54_5
                    try clear hcz54_6
                    try clear hcz54_7
                    try clear hcz54_8
                    try clear hcz55_0
                    try clear hcz55_1
                    try clear hcz55_2
                    try clear hcz55_3
                    try clear hcz55_4
                    try clear hcz55_5
                    try clear hcz55_6
                    try clear hcz55_7
                    try clear hcz55_8
                    try clear hcz58_0
                    try clear hcz58_1
                    try clear hcz58_2
                    try clear hcz58_3
                    try clear hcz58_4
                    try clear hcz58_5
                    try clear hcz58_6
                    try clear hcz58_7
                    try clear hcz58_8
                    try clear hcz60_0
                    try clear hcz60_1
                    try clear hcz60_2
                    try clear hcz60_3
                    try clear hcz60_4
                    try clear hcz60_5
                    try clear hcz60_6
                    try clear hcz60_7
                    try clear hcz60_8
                    try clear hcz61_0
                    try clear hcz61_1
                    try clear hcz61_2
                    try clear hcz61_3
                    try clear hcz61_4
                    try clear hcz61_5
                    try clear hcz61_6
                    try clear hcz61_7
                    try clear hcz61_8
                    try clear hcz64_0
                    try clear hcz64_1
                    try clear hcz64_2
                    try clear hcz64_3
                    try clear hcz64_4
                    try clear hcz64_5
                    try clear hcz64_6
                    try clear hcz64_7
                    try clear hcz64_8
                    try clear hcz66_0
                    try clear hcz66_1
                    try clear hcz66_2
                    try clear hcz66_3
                    try clear hcz66_4
                    try clear hcz66_5
                    try clear hcz66_6
                    try clear hcz66_7
                    try clear hcz66_8
                    try clear hcz67_0
                    try clear hcz67_1
                    try clear hcz67_2
                    try clear hcz67_3
                    try clear hcz67_4
                    try clear hcz67_5
                    try clear hcz67_6
                    try clear hcz67_7
                    try clear hcz67_8
                    try clear hcz76_0
                    try clear hcz76_1
                    try clear hcz76_2
                    try clear hcz76_3
                    try clear hcz76_4
                    try clear hcz76_5
                    try clear hcz76_6
                    try clear hcz76_7
                    try clear hcz76_8
                    try clear hcz78_0
                    try clear hcz78_1
                    try clear hcz78_2
                    try clear hcz78_3
                    try clear hcz78_4
                    try clear hcz78_5
                    try clear hcz78_6
                    try clear hcz78_7
                    try clear hcz78_8
                    try clear hcz79_0
                    try clear hcz79_1
                    try clear hcz79_2
                    try clear hcz79_3
                    try clear hcz79_4
                    try clear hcz79_5
                    try clear hcz79_6
                    try clear hcz79_7
                    try clear hcz79_8
                    try clear hcz82_0
                    try clear hcz82_1
                    try clear hcz82_2
                    try clear hcz82_3
                    try clear hcz82_4
                    try clear hcz82_5
                    try clear hcz82_6
                    try clear hcz82_7
                    try clear hcz82_8
                    try clear hcz84_0
                    try clear hcz84_1
                    try clear hcz84_2
                    try clear hcz84_3
                    try clear hcz84_4
                    try clear hcz84_5
                    try clear hcz84_6
                    try clear hcz84_7
                    try clear hcz84_8
                    try clear hcz85_0
                    try clear hcz85_1
                    try clear hcz85_2
                    try clear hcz85_3
                    try clear hcz85_4
                    try clear hcz85_5
                    try clear hcz85_6
                    try clear hcz85_7
                    try clear hcz85_8
                    try clear hcz88_0
                    try clear hcz88_1
                    try clear hcz88_2
                    try clear hcz88_3
                    try clear hcz88_4
                    try clear hcz88_5
                    try clear hcz88_6
                    try clear hcz88_7
                    try clear hcz88_8
                    try clear hcz90_0
                    try clear hcz90_1
                    try clear hcz90_2
                    try clear hcz90_3
                    try clear hcz90_4
                    try clear hcz90_5
                    try clear hcz90_6
                    try clear hcz90_7
                    try clear hcz90_8
                    try clear hcz91_0
                    try clear hcz91_1
                    try clear hcz91_2
                    try clear hcz91_3
                    try clear hcz91_4
                    try clear hcz91_5
                    try clear hcz91_6
                    try clear hcz91_7
                    try clear hcz91_8
                    try clear hfz35_0
                    try clear hfz35_1
                    try clear hfz35_2
                    try clear hfz35_3
                    try clear hfz35_4
                    try clear hfz35_5
                    try clear hfz35_6
                    try clear hfz35_7
                    try clear hfz35_8
                    try clear hfz37_0
                    try clear hfz37_1
                    try clear hfz37_2
                    try clear hfz37_3
                    try clear hfz37_4
                    try clear hfz37_5
                    try clear hfz37_6
                    try clear hfz37_7
                    try clear hfz37_8
                    try clear hfz38_0
                    try clear hfz38_1
                    try clear hfz38_2
                    try clear hfz38_3
                    try clear hfz38_4
                    try clear hfz38_5
                    try clear hfz38_6
                    try clear hfz38_7
                    try clear hfz38_8
                    try clear hfz41_0
                    try clear hfz41_1
                    try clear hfz41_2
                    try clear hfz41_3
                    try clear hfz41_4
                    try clear hfz41_5
                    try clear hfz41_6
                    try clear hfz41_7
                    try clear hfz41_8
                    try clear hfz43_0
                    try clear hfz43_1
                    try clear hfz43_2
                    try clear hfz43_3
                    try clear hfz43_4
                    try clear hfz43_5
                    try clear hfz43_6
                    try clear hfz43_7
                    try clear hfz43_8
                    try clear hfz52_0
                    try clear hfz52_1
                    try clear hfz52_2
                    try clear hfz52_3
                    try clear hfz52_4
                    try clear hfz52_5
                    try clear hfz52_6
                    try clear hfz52_7
                    try clear hfz52_8
                    try clear hfz54_0
                    try clear hfz54_1
                    try clear hfz54_2
                    try clear hfz54_3
                    try clear hfz54_4
                    try clear hfz54_5
                    try clear hfz54_6
                    try clear hfz54_7
                    try clear hfz54_8
                    try clear hfz55_0
                    try clear hfz55_1
                    try clear hfz55_2
                    try clear hfz55_3
                    try clear hfz55_4
                    try clear hfz55_5
                    try clear hfz55_6
                    try clear hfz55_7
                    try clear hfz55_8
                    try clear hfz58_0
                    try clear hfz58_1
                    try clear hfz58_2
                    try clear hfz58_3
                    try clear hfz58_4
                    try clear hfz58_5
                    try clear hfz58_6
                    try clear hfz58_7
                    try clear hfz58_8
                    try clear hfz60_0
                    try clear hfz60_1
                    try clear hfz60_2
                    try clear hfz60_3
                    try clear hfz60_4
                    try clear hfz60_5
                    try clear hfz60_6
                    try clear hfz60_7
                    try clear hfz60_8
                    try clear hfz61_0
                    try clear hfz61_1
                    try clear hfz61_2
                    try clear hfz61_3
                    try clear hfz61_4
                    try clear hfz61_5
                    try clear hfz61_6
                    try clear hfz61_7
                    try clear hfz61_8
                    try clear hfz64_0
                    try clear hfz64_1
                    try clear hfz64_2
                    try clear hfz64_3
                    try clear hfz64_4
                    try clear hfz64_5
                    try clear hfz64_6
                    try clear hfz64_7
                    try clear hfz64_8
                    try clear hfz66_0
                    try clear hfz66_1
                    try clear hfz66_2
                    try clear hfz66_3
                    try clear hfz66_4
                    try clear hfz66_5
                    try clear hfz66_6
                    try clear hfz66_7
                    try clear hfz66_8
                    try clear hfz67_0
                    try clear hfz67_1
                    try clear hfz67_2
                    try clear hfz67_3
                    try clear hfz67_4
                    try clear hfz67_5
                    try clear hfz67_6
                    try clear hfz67_7
                    try clear hfz67_8
                    try clear hfz76_0
                    try clear hfz76_1
                    try clear hfz76_2
                    try clear hfz76_3
                    try clear hfz76_4
                    try clear hfz76_5
                    try clear hfz76_6
                    try clear hfz76_7
                    try clear hfz76_8
                    try clear hfz78_0
                    try clear hfz78_1
                    try clear hfz78_2
                    try clear hfz78_3
                    try clear hfz78_4
                    try clear hfz78_5
                    try clear hfz78_6
                    try clear hfz78_7
                    try clear hfz78_8
                    try clear hfz79_0
                    try clear hfz79_1
                    try clear hfz79_2
                    try clear hfz79_3
                    try clear hfz79_4
                    try clear hfz79_5
                    try clear hfz79_6
                    try clear hfz79_7
                    try clear hfz79_8
                    try clear hfz82_0
                    try clear hfz82_1
                    try clear hfz82_2
                    try clear hfz82_3
                    try clear hfz82_4
                    try clear hfz82_5
                    try clear hfz82_6
                    try clear hfz82_7
                    try clear hfz82_8
                    try clear hfz84_0
                    try clear hfz84_1
                    try clear hfz84_2
                    try clear hfz84_3
                    try clear hfz84_4
                    try clear hfz84_5
                    try clear hfz84_6
                    try clear hfz84_7
                    try clear hfz84_8
                    try clear hfz85_0
                    try clear hfz85_1
                    try clear hfz85_2
                    try clear hfz85_3
                    try clear hfz85_4
                    try clear hfz85_5
                    try clear hfz85_6
                    try clear hfz85_7
                    try clear hfz85_8
                    try clear hfz88_0
                    try clear hfz88_1
                    try clear hfz88_2
                    try clear hfz88_3
                    try clear hfz88_4
                    try clear hfz88_5
                    try clear hfz88_6
                    try clear hfz88_7
                    try clear hfz88_8
                    try clear hfz90_0
                    try clear hfz90_1
                    try clear hfz90_2
                    try clear hfz90_3
                    try clear hfz90_4
                    try clear hfz90_5
                    try clear hfz90_6
                    try clear hfz90_7
                    try clear hfz90_8
                    try clear hfz91_0
                    try clear hfz91_1
                    try clear hfz91_2
                    try clear hfz91_3
                    try clear hfz91_4
                    try clear hfz91_5
                    try clear hfz91_6
                    try clear hfz91_7
                    try clear hfz91_8
                    obtain ⟨kq, x37_91, rfl, HA, HJ91, BK105, BK107, BK108, HB⟩ := hcut
                    cases kq with
                    | zero => exact absurd HA.out (by simp [event_May.j2])
                    | succ kj91 =>
                      have H := HA.out
                      clear HA
                      simp only [event_May.j2] at H
                      by_cases c94 : x37_91 = true
                      · subst c94
                        have H1 : ((event_in.f a0_2 0 2).bind fun t118 => (if t118 = true then ((event_in.f a0_3 0 0).bind fun t119 => (if t119 = true then ((event_in.f a0_4 0 0).bind fun t120 => (some t120)) else (some false))) else (some false))) = some r := by rw [if_pos rfl] at H; exact H
                        clear H
                        have H := H1
                        clear H1
                        replace H := Option.bind_eq_some_iff.mp H
                        obtain ⟨t118, A950, H⟩ := H
                        replace H : (if t118 = true then ((event_in.f a0_3 0 0).bind fun t119 => (if t119 = true then ((event_in.f a0_4 0 0).bind fun t120 => (some t120)) else (some false))) else (some false)) = some r := H
                        have A95 := Aside0.mk A950
                        clear A950
                        by_cases c96 : t118 = true
                        · subst c96
                          have H1 : ((event_in.f a0_3 0 0).bind fun t119 => (if t119 = true then ((event_in.f a0_4 0 0).bind fun t120 => (some t120)) else (some false))) = some r := by rw [if_pos rfl] at H; exact H
                          clear H
                          have H := H1
                          clear H1
                          replace H := Option.bind_eq_some_iff.mp H
                          obtain ⟨t119, A970, H⟩ := H
                          replace H : (if t119 = true then ((event_in.f a0_4 0 0).bind fun t120 => (some t120)) else (some false)) = some r := H
                          have A97 := Aside0.mk A970
                          clear A970
                          by_cases c98 : t119 = true
                          · subst c98
                            have H1 : ((event_in.f a0_4 0 0).bind fun t120 => (some t120)) = some r := by rw [if_pos rfl] at H; exact H
                            clear H
                            have H := H1
                            clear H1
                            replace H := Option.bind_eq_some_iff.mp H
                            obtain ⟨t120, A990, H⟩ := H
                            replace H : (some t120) = some r := H
                            have A99 := Aside0.mk A990
                            clear A990
                            obtain rfl := Option.some.inj H
                            have hnb100 := NB105_107.out
                            have hnc100 := NB107_105.out
                            have hnb101 := NB105_108.out
                            have hnc101 := NB108_105.out
                            have hcz102_0 : wc.cell? ⟨gb105, 0, none⟩ = some (.int .i64 a0_0) := (blk_cell BK105.out 0).trans rfl
                            have hcz102_1 : wc.cell? ⟨gb105, 1, none⟩ = some (.int .i64 a0_1) := (blk_cell BK105.out 1).trans rfl
                            have hcz102_2 : wc.cell? ⟨gb105, 2, none⟩ = some (.int .i64 a0_2) := (blk_cell BK105.out 2).trans rfl
                            have hcz102_3 : wc.cell? ⟨gb105, 3, none⟩ = some (.int .i64 a0_3) := (blk_cell BK105.out 3).trans rfl
                            have hcz102_4 : wc.cell? ⟨gb105, 4, none⟩ = some (.int .i64 a0_4) := (blk_cell BK105.out 4).trans rfl
                            have hcz102_5 : wc.cell? ⟨gb105, 5, none⟩ = some (.int .i64 a0_5) := (blk_cell BK105.out 5).trans rfl
                            have hcz102_6 : wc.cell? ⟨gb105, 6, none⟩ = some (.int .i64 a0_6) := (blk_cell BK105.out 6).trans rfl
                            have hcz102_7 : wc.cell? ⟨gb105, 7, none⟩ = some (.int .i64 a0_7) := (blk_cell BK105.out 7).trans rfl
                            have hcz102_8 : wc.cell? ⟨gb105, 8, none⟩ = some (.bool a0_8) := (blk_cell BK105.out 8).trans rfl
                            have hfz102_0 := blk_frozen BK105.out 0
                            have hfz102_1 := blk_frozen BK105.out 1
                            have hfz102_2 := blk_frozen BK105.out 2
                            have hfz102_3 := blk_frozen BK105.out 3
                            have hfz102_4 := blk_frozen BK105.out 4
                            have hfz102_5 := blk_frozen BK105.out 5
                            have hfz102_6 := blk_frozen BK105.out 6
                            have hfz102_7 := blk_frozen BK105.out 7
                            have hfz102_8 := blk_frozen BK105.out 8
                            have hnb103 := NB107_108.out
                            have hnc103 := NB108_107.out
                            have hcz104_0 : wc.cell? ⟨gb107, 0, none⟩ = some (.int .i64 0) := (blk_cell BK107.out 0).trans rfl
                            have hcz104_1 : wc.cell? ⟨gb107, 1, none⟩ = some (.int .i64 0) := (blk_cell BK107.out 1).trans rfl
                            have hcz104_2 : wc.cell? ⟨gb107, 2, none⟩ = some (.int .i64 2) := (blk_cell BK107.out 2).trans rfl
                            have hcz104_3 : wc.cell? ⟨gb107, 3, none⟩ = some (.int .i64 0) := (blk_cell BK107.out 3).trans rfl
                            have hcz104_4 : wc.cell? ⟨gb107, 4, none⟩ = some (.int .i64 0) := (blk_cell BK107.out 4).trans rfl
                            have hcz104_5 : wc.cell? ⟨gb107, 5, none⟩ = some (.int .i64 0) := (blk_cell BK107.out 5).trans rfl
                            have hcz104_6 : wc.cell? ⟨gb107, 6, none⟩ = some (.int .i64 0) := (blk_cell BK107.out 6).trans rfl
                            have hcz104_7 : wc.cell? ⟨gb107, 7, none⟩ = some (.int .i64 0) := (blk_cell BK107.out 7).trans rfl
                            have hcz104_8 : wc.cell? ⟨gb107, 8, none⟩ = some (.bool false) := (blk_cell BK107.out 8).trans rfl
                            have hfz104_0 := blk_frozen BK107.out 0
                            have hfz104_1 := blk_frozen BK107.out 1
                            have hfz104_2 := blk_frozen BK107.out 2
                            have hfz104_3 := blk_frozen BK107.out 3
                            have hfz104_4 := blk_frozen BK107.out 4
                            have hfz104_5 := blk_frozen BK107.out 5
                            have hfz104_6 := blk_frozen BK107.out 6
                            have hfz104_7 := blk_frozen BK107.out 7
                            have hfz104_8 := blk_frozen BK107.out 8
                            go_wp2_with (first | ((with_reducible refine gate_callee (f := 19) rfl ?_); refine goesL_ (some 51) rfl rfl Try.func19 (by kernel_rfl) rfl #[.int .i64 a0_2, .int .i64 0, .int .i64 2] rfl (by (try simp only [List.map_toArray, List.map_cons, List.map_nil]); first | done | rfl | (simp only [List.length_drop, List.length_take]; rfl)) ?_; (with_reducible refine (event_in.calls a0_2 0 2 true _ A95.out).mono ?_); rintro e w' ⟨rfl, ⟨nd, rfl⟩⟩; refine ⟨_, rfl, ?_⟩; have hcz105_0 : wc.cell? ⟨gb108, 0, none⟩ = some (.int .i64 0) := (blk_cell BK108.out 0).trans rfl; have hcz105_1 : wc.cell? ⟨gb108, 1, none⟩ = some (.int .i64 0) := (blk_cell BK108.out 1).trans rfl; have hcz105_2 : wc.cell? ⟨gb108, 2, none⟩ = some (.int .i64 0) := (blk_cell BK108.out 2).trans rfl; have hcz105_3 : wc.cell? ⟨gb108, 3, none⟩ = some (.int .i64 0) := (blk_cell BK108.out 3).trans rfl; have hcz105_4 : wc.cell? ⟨gb108, 4, none⟩ = some (.int .i64 0) := (blk_cell BK108.out 4).trans rfl; have hcz105_5 : wc.cell? ⟨gb108, 5, none⟩ = some (.int .i64 0) := (blk_cell BK108.out 5).trans rfl; have hcz105_6 : wc.cell? ⟨gb108, 6, none⟩ = some (.int .i64 0) := (blk_cell BK108.out 6).trans rfl; have hcz105_7 : wc.cell? ⟨gb108, 7, none⟩ = some (.int .i64 0) := (blk_cell BK108.out 7).trans rfl; have hcz105_8 : wc.cell? ⟨gb108, 8, none⟩ = some (.bool false) := (blk_cell BK108.out 8).trans rfl; have hfz105_0 := blk_frozen BK108.out 0; have hfz105_1 := blk_frozen BK108.out 1; have hfz105_2 := blk_frozen BK108.out 2; have hfz105_3 := blk_frozen BK108.out 3; have hfz105_4 := blk_frozen BK108.out 4; have hfz105_5 := blk_frozen BK108.out 5; have hfz105_6 := blk_frozen BK108.out 6; have hfz105_7 := blk_frozen BK108.out 7; have hfz105_8 := blk_frozen BK108.out 8) | (go_at_call 19; (with_reducible refine (event_in.calls a0_3 0 0 true _ A97.out).mono ?_); rintro e w' ⟨rfl, ⟨nd, rfl⟩⟩) | (go_at_call 19; (with_reducible refine (event_in.calls a0_4 0 0 t120 _ A99.out).mono ?_); rintro e w' ⟨rfl, ⟨nd, rfl⟩⟩))
                            go_ret
                            exact ⟨by first | rfl | (simp [errW_none, errW_some] <;> rfl) | (simp [*, errW_none, errW_some] <;> rfl), by repeat (first | (with_reducible first | exact HB.out | apply below_alloc | apply pw_below_drewN | apply below_drew1 | refine below_set ?_ GE105.out | refine below_set ?_ GE107.out | refine below_set ?_ GE108.out) | exact HB.out)⟩
                          · replace c98 := Bool.eq_false_iff.mpr c98
                            subst c98
                            have H1 : (some false) = some r := by rw [if_neg (show ¬ (false = true) by decide)] at H; exact H
                            clear H
                            have H := H1
                            clear H1
                            obtain rfl := Option.some.inj H
                            have hnb106 := NB105_107.out
                            have hnc106 := NB107_105.out
                            have hnb107 := NB105_108.out
                            have hnc107 := NB108_105.out
                            have hcz108_0 : wc.cell? ⟨gb105, 0, none⟩ = some (.int .i64 a0_0) := (blk_cell BK105.out 0).trans rfl
                            have hcz108_1 : wc.cell? ⟨gb105, 1, none⟩ = some (.int .i64 a0_1) := (blk_cell BK105.out 1).trans rfl
                            have hcz108_2 : wc.cell? ⟨gb105, 2, none⟩ = some (.int .i64 a0_2) := (blk_cell BK105.out 2).trans rfl
                            have hcz108_3 : wc.cell? ⟨gb105, 3, none⟩ = some (.int .i64 a0_3) := (blk_cell BK105.out 3).trans rfl
                            have hcz108_4 : wc.cell? ⟨gb105, 4, none⟩ = some (.int .i64 a0_4) := (blk_cell BK105.out 4).trans rfl
                            have hcz108_5 : wc.cell? ⟨gb105, 5, none⟩ = some (.int .i64 a0_5) := (blk_cell BK105.out 5).trans rfl
                            have hcz108_6 : wc.cell? ⟨gb105, 6, none⟩ = some (.int .i64 a0_6) := (blk_cell BK105.out 6).trans rfl
                            have hcz108_7 : wc.cell? ⟨gb105, 7, none⟩ = some (.int .i64 a0_7) := (blk_cell BK105.out 7).trans rfl
                            have hcz108_8 : wc.cell? ⟨gb105, 8, none⟩ = some (.bool a0_8) := (blk_cell BK105.out 8).trans rfl
                            have hfz108_0 := blk_frozen BK105.out 0
                            have hfz108_1 := blk_frozen BK105.out 1
                            have hfz108_2 := blk_frozen BK105.out 2
                            have hfz108_3 := blk_frozen BK105.out 3
                            have hfz108_4 := blk_frozen BK105.out 4
                            have hfz108_5 := blk_frozen BK105.out 5
                            have hfz108_6 := blk_frozen BK105.out 6
                            have hfz108_7 := blk_frozen BK105.out 7
                            have hfz108_8 := blk_frozen BK105.out 8
                            have hnb109 := NB107_108.out
                            have hnc109 := NB108_107.out
                            have hcz110_0 : wc.cell? ⟨gb107, 0, none⟩ = some (.int .i64 0) := (blk_cell BK107.out 0).trans rfl
                            have hcz110_1 : wc.cell? ⟨gb107, 1, none⟩ = some (.int .i64 0) := (blk_cell BK107.out 1).trans rfl
                            have hcz110_2 : wc.cell? ⟨gb107, 2, none⟩ = some (.int .i64 2) := (blk_cell BK107.out 2).trans rfl
                            have hcz110_3 : wc.cell? ⟨gb107, 3, none⟩ = some (.int .i64 0) := (blk_cell BK107.out 3).trans rfl
                            have hcz110_4 : wc.cell? ⟨gb107, 4, none⟩ = some (.int .i64 0) := (blk_cell BK107.out 4).trans rfl
                            have hcz110_5 : wc.cell? ⟨gb107, 5, none⟩ = some (.int .i64 0) := (blk_cell BK107.out 5).trans rfl
                            have hcz110_6 : wc.cell? ⟨gb107, 6, none⟩ = some (.int .i64 0) := (blk_cell BK107.out 6).trans rfl
                            have hcz110_7 : wc.cell? ⟨gb107, 7, none⟩ = some (.int .i64 0) := (blk_cell BK107.out 7).trans rfl
                            have hcz110_8 : wc.cell? ⟨gb107, 8, none⟩ = some (.bool false) := (blk_cell BK107.out 8).trans rfl
                            have hfz110_0 := blk_frozen BK107.out 0
                            have hfz110_1 := blk_frozen BK107.out 1
                            have hfz110_2 := blk_frozen BK107.out 2
                            have hfz110_3 := blk_frozen BK107.out 3
                            have hfz110_4 := blk_frozen BK107.out 4
                            have hfz110_5 := blk_frozen BK107.out 5
                            have hfz110_6 := blk_frozen BK107.out 6
                            have hfz110_7 := blk_frozen BK107.out 7
                            have hfz110_8 := blk_frozen BK107.out 8
                            go_wp2_with (first | ((with_reducible refine gate_callee (f := 19) rfl ?_); refine goesL_ (some 51) rfl rfl Try.func19 (by kernel_rfl) rfl #[.int .i64 a0_2, .int .i64 0, .int .i64 2] rfl (by (try simp only [List.map_toArray, List.map_cons, List.map_nil]); first | done | rfl | (simp only [List.length_drop, List.length_take]; rfl)) ?_; (with_reducible refine (event_in.calls a0_2 0 2 true _ A95.out).mono ?_); rintro e w' ⟨rfl, ⟨nd, rfl⟩⟩; refine ⟨_, rfl, ?_⟩; have hcz111_0 : wc.cell? ⟨gb108, 0, none⟩ = some (.int .i64 0) := (blk_cell BK108.out 0).trans rfl; have hcz111_1 : wc.cell? ⟨gb108, 1, none⟩ = some (.int .i64 0) := (blk_cell BK108.out 1).trans rfl; have hcz111_2 : wc.cell? ⟨gb108, 2, none⟩ = some (.int .i64 0) := (blk_cell BK108.out 2).trans rfl; have hcz111_3 : wc.cell? ⟨gb108, 3, none⟩ = some (.int .i64 0) := (blk_cell BK108.out 3).trans rfl; have hcz111_4 : wc.cell? ⟨gb108, 4, none⟩ = some (.int .i64 0) := (blk_cell BK108.out 4).trans rfl; have hcz111_5 : wc.cell? ⟨gb108, 5, none⟩ = some (.int .i64 0) := (blk_cell BK108.out 5).trans rfl; have hcz111_6 : wc.cell? ⟨gb108, 6, none⟩ = some (.int .i64 0) := (blk_cell BK108.out 6).trans rfl; have hcz111_7 : wc.cell? ⟨gb108, 7, none⟩ = some (.int .i64 0) := (blk_cell BK108.out 7).trans rfl; have hcz111_8 : wc.cell? ⟨gb108, 8, none⟩ = some (.bool false) := (blk_cell BK108.out 8).trans rfl; have hfz111_0 := blk_frozen BK108.out 0; have hfz111_1 := blk_frozen BK108.out 1; have hfz111_2 := blk_frozen BK108.out 2; have hfz111_3 := blk_frozen BK108.out 3; have hfz111_4 := blk_frozen BK108.out 4; have hfz111_5 := blk_frozen BK108.out 5; have hfz111_6 := blk_frozen BK108.out 6; have hfz111_7 := blk_frozen BK108.out 7; have hfz111_8 := blk_frozen BK108.out 8) | (go_at_call 19; (with_reducible refine (event_in.calls a0_3 0 0 false _ A97.out).mono ?_); rintro e w' ⟨rfl, ⟨nd, rfl⟩⟩))
                            go_ret
                            exact ⟨by first | rfl | (simp [errW_none, errW_some] <;> rfl) | (simp [*, errW_none, errW_some] <;> rfl), by repeat (first | (with_reducible first | exact HB.out | apply below_alloc | apply pw_below_drewN | apply below_drew1 | refine below_set ?_ GE105.out | refine below_set ?_ GE107.out | refine below_set ?_ GE108.out) | exact HB.out)⟩
                        · replace c96 := Bool.eq_false_iff.mpr c96
                          subst c96
                          have H1 : (some false) = some r := by rw [if_neg (show ¬ (false = true) by decide)] at H; exact H
                          clear H
                          have H := H1
                          clear H1
                          obtain rfl := Option.some.inj H
                          have hnb112 := NB105_107.out
                          have hnc112 := NB107_105.out
                          have hnb113 := NB105_108.out
                          have hnc113 := NB108_105.out
                          have hcz114_0 : wc.cell? ⟨gb105, 0, none⟩ = some (.int .i64 a0_0) := (blk_cell BK105.out 0).trans rfl
                          have hcz114_1 : wc.cell? ⟨gb105, 1, none⟩ = some (.int .i64 a0_1) := (blk_cell BK105.out 1).trans rfl
                          have hcz114_2 : wc.cell? ⟨gb105, 2, none⟩ = some (.int .i64 a0_2) := (blk_cell BK105.out 2).trans rfl
                          have hcz114_3 : wc.cell? ⟨gb105, 3, none⟩ = some (.int .i64 a0_3) := (blk_cell BK105.out 3).trans rfl
                          have hcz114_4 : wc.cell? ⟨gb105, 4, none⟩ = some (.int .i64 a0_4) := (blk_cell BK105.out 4).trans rfl
                          have hcz114_5 : wc.cell? ⟨gb105, 5, none⟩ = some (.int .i64 a0_5) := (blk_cell BK105.out 5).trans rfl
                          have hcz114_6 : wc.cell? ⟨gb105, 6, none⟩ = some (.int .i64 a0_6) := (blk_cell BK105.out 6).trans rfl
                          have hcz114_7 : wc.cell? ⟨gb105, 7, none⟩ = some (.int .i64 a0_7) := (blk_cell BK105.out 7).trans rfl
                          have hcz114_8 : wc.cell? ⟨gb105, 8, none⟩ = some (.bool a0_8) := (blk_cell BK105.out 8).trans rfl
                          have hfz114_0 := blk_frozen BK105.out 0
                          have hfz114_1 := blk_frozen BK105.out 1
                          have hfz114_2 := blk_frozen BK105.out 2
                          have hfz114_3 := blk_frozen BK105.out 3
                          have hfz114_4 := blk_frozen BK105.out 4
                          have hfz114_5 := blk_frozen BK105.out 5
                          have hfz114_6 := blk_frozen BK105.out 6
                          have hfz114_7 := blk_frozen BK105.out 7
                          have hfz114_8 := blk_frozen BK105.out 8
                          have hnb115 := NB107_108.out
                          have hnc115 := NB108_107.out
                          have hcz116_0 : wc.cell? ⟨gb107, 0, none⟩ = some (.int .i64 0) := (blk_cell BK107.out 0).trans rfl
                          have hcz116_1 : wc.cell? ⟨gb107, 1, none⟩ = some (.int .i64 0) := (blk_cell BK107.out 1).trans rfl
                          have hcz116_2 : wc.cell? ⟨gb107, 2, none⟩ = some (.int .i64 2) := (blk_cell BK107.out 2).trans rfl
                          have hcz116_3 : wc.cell? ⟨gb107, 3, none⟩ = some (.int .i64 0) := (blk_cell BK107.out 3).trans rfl
                          have hcz116_4 : wc.cell? ⟨gb107, 4, none⟩ = some (.int .i64 0) := (blk_cell BK107.out 4).trans rfl
                          have hcz116_5 : wc.cell? ⟨gb107, 5, none⟩ = some (.int .i64 0) := (blk_cell BK107.out 5).trans rfl
                          have hcz116_6 : wc.cell? ⟨gb107, 6, none⟩ = some (.int .i64 0) := (blk_cell BK107.out 6).trans rfl
                          have hcz116_7 : wc.cell? ⟨gb107, 7, none⟩ = some (.int .i64 0) := (blk_cell BK107.out 7).trans rfl
                          have hcz116_8 : wc.cell? ⟨gb107, 8, none⟩ = some (.bool false) := (blk_cell BK107.out 8).trans rfl
                          have hfz116_0 := blk_frozen BK107.out 0
                          have hfz116_1 := blk_frozen BK107.out 1
                          have hfz116_2 := blk_frozen BK107.out 2
                          have hfz116_3 := blk_frozen BK107.out 3
                          have hfz116_4 := blk_frozen BK107.out 4
                          have hfz116_5 := blk_frozen BK107.out 5
                          have hfz116_6 := blk_frozen BK107.out 6
                          have hfz116_7 := blk_frozen BK107.out 7
                          have hfz116_8 := blk_frozen BK107.out 8
                          go_wp2_with (first | ((with_reducible refine gate_callee (f := 19) rfl ?_); refine goesL_ (some 51) rfl rfl Try.func19 (by kernel_rfl) rfl #[.int .i64 a0_2, .int .i64 0, .int .i64 2] rfl (by (try simp only [List.map_toArray, List.map_cons, List.map_nil]); first | done | rfl | (simp only [List.length_drop, List.length_take]; rfl)) ?_; (with_reducible refine (event_in.calls a0_2 0 2 false _ A95.out).mono ?_); rintro e w' ⟨rfl, ⟨nd, rfl⟩⟩; refine ⟨_, rfl, ?_⟩))
                          go_ret
                          exact ⟨by first | rfl | (simp [errW_none, errW_some] <;> rfl) | (simp [*, errW_none, errW_some] <;> rfl), by repeat (first | (with_reducible first | exact HB.out | apply below_alloc | apply pw_below_drewN | apply below_drew1 | refine below_set ?_ GE105.out | refine below_set ?_ GE107.out | refine below_set ?_ GE108.out) | exact HB.out)⟩
                      · replace c94 := Bool.eq_false_iff.mpr c94
                        subst c94
                        have H1 : (if a0_0 = 6 then ((alloc_MayPolicy.f a0_5 a0_6 a0_7 a0_8).bind fun t121 => (if t121 = true then ((event_in.f a0_2 0 0).bind fun t122 => (if t122 = true then ((event_in.f a0_3 0 0).bind fun t123 => (if t123 = true then ((event_in.f a0_4 0 0).bind fun t124 => (some t124)) else (some false))) else (some false))) else (some false))) else (some false)) = some r := by rw [if_neg (show ¬ (false = true) by decide)] at H; exact H
                        clear H
                        have H := H1
                        clear H1
                        by_cases c117 : a0_0 = 6
                        · rw [if_pos c117] at H
                          have c117b0 : (a0_0 == 6) = true := beq_iff_eq.mpr c117
                          have c117b1 : (a0_0 != 6) = false := bne_eq_false_iff_eq.mpr c117
                          clear c117
                          replace H := Option.bind_eq_some_iff.mp H
                          obtain ⟨t121, A1180, H⟩ := H
                          replace H : (if t121 = true then ((event_in.f a0_2 0 0).bind fun t122 => (if t122 = true then ((event_in.f a0_3 0 0).bind fun t123 => (if t123 = true then ((event_in.f a0_4 0 0).bind fun t124 => (some t124)) else (some false))) else (some false))) else (some false)) = some r := H
                          have A118 := Aside0.mk A1180
                          clear A1180
                          by_cases c119 : t121 = true
                          · subst c119
                            have H1 : ((event_in.f a0_2 0 0).bind fun t122 => (if t122 = true then ((event_in.f a0_3 0 0).bind fun t123 => (if t123 = true then ((event_in.f a0_4 0 0).bind fun t124 => (some t124)) else (some false))) else (some false))) = some r := by rw [if_pos rfl] at H; exact H
                            clear H
                            have H := H1
                            clear H1
                            replace H := Option.bind_eq_some_iff.mp H
                            obtain ⟨t122, A1200, H⟩ := H
                            replace H : (if t122 = true then ((event_in.f a0_3 0 0).bind fun t123 => (if t123 = true then ((event_in.f a0_4 0 0).bind fun t124 => (some t124)) else (some false))) else (some false)) = some r := H
                            have A120 := Aside0.mk A1200
                            clear A1200
                            by_cases c121 : t122 = true
                            · subst c121
                              have H1 : ((event_in.f a0_3 0 0).bind fun t123 => (if t123 = true then ((event_in.f a0_4 0 0).bind fun t124 => (some t124)) else (some false))) = some r := by rw [if_pos rfl] at H; exact H
                              clear H
                              have H := H1
                              clear H1
                              replace H := Option.bind_eq_some_iff.mp H
                              obtain ⟨t123, A1220, H⟩ := H
                              replace H : (if t123 = true then ((event_in.f a0_4 0 0).bind fun t124 => (some t124)) else (some false)) = some r := H
                              have A122 := Aside0.mk A1220
                              clear A1220
                              by_cases c123 : t123 = true
                              · subst c123
                                have H1 : ((event_in.f a0_4 0 0).bind fun t124 => (some t124)) = some r := by rw [if_pos rfl] at H; exact H
                                clear H
                                have H := H1
                                clear H1
                                replace H := Option.bind_eq_some_iff.mp H
                                obtain ⟨t124, A1240, H⟩ := H
                                replace H : (some t124) = some r := H
                                have A124 := Aside0.mk A1240
                                clear A1240
                                obtain rfl := Option.some.inj H
                                have hnb125 := NB107_105.out
                                have hnc125 := NB105_107.out
                                have hnb126 := NB107_108.out
                                have hnc126 := NB108_107.out
                                have hcz127_0 : wc.cell? ⟨gb107, 0, none⟩ = some (.int .i64 0) := (blk_cell BK107.out 0).trans rfl
                                have hcz127_1 : wc.cell? ⟨gb107, 1, none⟩ = some (.int .i64 0) := (blk_cell BK107.out 1).trans rfl
                                have hcz127_2 : wc.cell? ⟨gb107, 2, none⟩ = some (.int .i64 2) := (blk_cell BK107.out 2).trans rfl
                                have hcz127_3 : wc.cell? ⟨gb107, 3, none⟩ = some (.int .i64 0) := (blk_cell BK107.out 3).trans rfl
                                have hcz127_4 : wc.cell? ⟨gb107, 4, none⟩ = some (.int .i64 0) := (blk_cell BK107.out 4).trans rfl
                                have hcz127_5 : wc.cell? ⟨gb107, 5, none⟩ = some (.int .i64 0) := (blk_cell BK107.out 5).trans rfl
                                have hcz127_6 : wc.cell? ⟨gb107, 6, none⟩ = some (.int .i64 0) := (blk_cell BK107.out 6).trans rfl
                                have hcz127_7 : wc.cell? ⟨gb107, 7, none⟩ = some (.int .i64 0) := (blk_cell BK107.out 7).trans rfl
                                have hcz127_8 : wc.cell? ⟨gb107, 8, none⟩ = some (.bool false) := (blk_cell BK107.out 8).trans rfl
                                have hfz127_0 := blk_frozen BK107.out 0
                                have hfz127_1 := blk_frozen BK107.out 1
                                have hfz127_2 := blk_frozen BK107.out 2
                                have hfz127_3 := blk_frozen BK107.out 3
                                have hfz127_4 := blk_frozen BK107.out 4
                                have hfz127_5 := blk_frozen BK107.out 5
                                have hfz127_6 := blk_frozen BK107.out 6
                                have hfz127_7 := blk_frozen BK107.out 7
                                have hfz127_8 := blk_frozen BK107.out 8
                                have hnb128 := NB105_108.out
                                have hnc128 := NB108_105.out
                                have hcz129_0 : wc.cell? ⟨gb105, 0, none⟩ = some (.int .i64 a0_0) := (blk_cell BK105.out 0).trans rfl
                                have hcz129_1 : wc.cell? ⟨gb105, 1, none⟩ = some (.int .i64 a0_1) := (blk_cell BK105.out 1).trans rfl
                                have hcz129_2 : wc.cell? ⟨gb105, 2, none⟩ = some (.int .i64 a0_2) := (blk_cell BK105.out 2).trans rfl
                                have hcz129_3 : wc.cell? ⟨gb105, 3, none⟩ = some (.int .i64 a0_3) := (blk_cell BK105.out 3).trans rfl
                                have hcz129_4 : wc.cell? ⟨gb105, 4, none⟩ = some (.int .i64 a0_4) := (blk_cell BK105.out 4).trans rfl
                                have hcz129_5 : wc.cell? ⟨gb105, 5, none⟩ = some (.int .i64 a0_5) := (blk_cell BK105.out 5).trans rfl
                                have hcz129_6 : wc.cell? ⟨gb105, 6, none⟩ = some (.int .i64 a0_6) := (blk_cell BK105.out 6).trans rfl
                                have hcz129_7 : wc.cell? ⟨gb105, 7, none⟩ = some (.int .i64 a0_7) := (blk_cell BK105.out 7).trans rfl
                                have hcz129_8 : wc.cell? ⟨gb105, 8, none⟩ = some (.bool a0_8) := (blk_cell BK105.out 8).trans rfl
                                have hfz129_0 := blk_frozen BK105.out 0
                                have hfz129_1 := blk_frozen BK105.out 1
                                have hfz129_2 := blk_frozen BK105.out 2
                                have hfz129_3 := blk_frozen BK105.out 3
                                have hfz129_4 := blk_frozen BK105.out 4
                                have hfz129_5 := blk_frozen BK105.out 5
                                have hfz129_6 := blk_frozen BK105.out 6
                                have hfz129_7 := blk_frozen BK105.out 7
                                have hfz129_8 := blk_frozen BK105.out 8
                                go_wp2_with (first | ((with_reducible refine gate_callee (f := 31) rfl ?_); refine goesL_ (some 45) rfl rfl Try.func31 (by kernel_rfl) rfl #[.agg #[.int .i64 a0_5, .int .i64 a0_6, .int .i64 a0_7, .bool a0_8]] rfl (by (try simp only [List.map_toArray, List.map_cons, List.map_nil]); first | done | rfl | (simp only [List.length_drop, List.length_take]; rfl)) ?_; (with_reducible refine (alloc_MayPolicy.calls a0_5 a0_6 a0_7 a0_8 true _ A118.out).mono ?_); rintro e w130 ⟨rfl, hb⟩; refine ⟨_, rfl, ?_⟩; have n0_ := Aside0.mk (blk_below (g := gb105) (o := .cells #[.int .i64 a0_0, .int .i64 a0_1, .int .i64 a0_2, .int .i64 a0_3, .int .i64 a0_4, .int .i64 a0_5, .int .i64 a0_6, .int .i64 a0_7, .bool a0_8] 34 (0, 0)) (by (with_reducible repeat (first | refine blk_drewN ?_ _ | refine blk_drew ?_ | refine blk_alloc ?_ _)); refine blk_far ?_ NB105_107.out _; (with_reducible repeat (first | refine blk_drewN ?_ _ | refine blk_drew ?_ | refine blk_alloc ?_ _)); exact BK105.out) hb); have n1_ := Aside0.mk (blk_below (g := gb107) (o := .cells #[.int .i64 0, .int .i64 0, .int .i64 0, .int .i64 0, .int .i64 0, .int .i64 0, .int .i64 0, .int .i64 0, .bool false] 34 (0, 0)) (by (with_reducible repeat (first | refine blk_drewN ?_ _ | refine blk_drew ?_ | refine blk_alloc ?_ _)); refine blk_put (cs := #[.int .i64 0, .int .i64 0, .int .i64 2, .int .i64 0, .int .i64 0, .int .i64 0, .int .i64 0, .int .i64 0, .bool false]) ?_ 2 _ rfl; (with_reducible repeat (first | refine blk_drewN ?_ _ | refine blk_drew ?_ | refine blk_alloc ?_ _)); exact BK107.out) hb); have n2_ := Aside0.mk (blk_below (g := gb108) (o := .cells #[.int .i64 0, .int .i64 0, .int .i64 0, .int .i64 0, .int .i64 0, .int .i64 0, .int .i64 0, .int .i64 0, .bool false] 34 (0, 0)) (by (with_reducible repeat (first | refine blk_drewN ?_ _ | refine blk_drew ?_ | refine blk_alloc ?_ _)); refine blk_far ?_ NB108_107.out _; (with_reducible repeat (first | refine blk_drewN ?_ _ | refine blk_drew ?_ | refine blk_alloc ?_ _)); exact BK108.out) hb); have n3_ := Aside0.mk (below_step (by repeat (first | (with_reducible first | exact HB.out | apply below_alloc | apply pw_below_drewN | apply below_drew1 | refine below_set ?_ GE105.out | refine below_set ?_ GE107.out | refine below_set ?_ GE108.out) | exact HB.out)) hb); clear BK105; clear BK107; clear BK108; clear HB; have BK105 := n0_; have BK107 := n1_; have BK108 := n2_; have HB := n3_; clear n0_ n1_ n2_ n3_; (try clear hb); (try clear hb2); (try clear hk); (try clear hi); have hcz131_0 : w130.cell? ⟨gb105, 0, none⟩ = some (.int .i64 a0_0) := (blk_cell BK105.out 0).trans rfl; have hcz131_1 : w130.cell? ⟨gb105, 1, none⟩ = some (.int .i64 a0_1) := (blk_cell BK105.out 1).trans rfl; have hcz131_2 : w130.cell? ⟨gb105, 2, none⟩ = some (.int .i64 a0_2) := (blk_cell BK105.out 2).trans rfl; have hcz131_3 : w130.cell? ⟨gb105, 3, none⟩ = some (.int .i64 a0_3) := (blk_cell BK105.out 3).trans rfl; have hcz131_4 : w130.cell? ⟨gb105, 4, none⟩ = some (.int .i64 a0_4) := (blk_cell BK105.out 4).trans rfl; have hcz131_5 : w130.cell? ⟨gb105, 5, none⟩ = some (.int .i64 a0_5) := (blk_cell BK105.out 5).trans rfl; have hcz131_6 : w130.cell? ⟨gb105, 6, none⟩ = some (.int .i64 a0_6) := (blk_cell BK105.out 6).trans rfl; have hcz131_7 : w130.cell? ⟨gb105, 7, none⟩ = some (.int .i64 a0_7) := (blk_cell BK105.out 7).trans rfl; have hcz131_8 : w130.cell? ⟨gb105, 8, none⟩ = some (.bool a0_8) := (blk_cell BK105.out 8).trans rfl; have hfz131_0 := blk_frozen BK105.out 0; have hfz131_1 := blk_frozen BK105.out 1; have hfz131_2 := blk_frozen BK105.out 2; have hfz131_3 := blk_frozen BK105.out 3; have hfz131_4 := blk_frozen BK105.out 4; have hfz131_5 := blk_frozen BK105.out 5; have hfz131_6 := blk_frozen BK105.out 6; have hfz131_7 := blk_frozen BK105.out 7; have hfz131_8 := blk_frozen BK105.out 8; have hcz132_0 : w130.cell? ⟨gb107, 0, none⟩ = some (.int .i64 0) := (blk_cell BK107.out 0).trans rfl; have hcz132_1 : w130.cell? ⟨gb107, 1, none⟩ = some (.int .i64 0) := (blk_cell BK107.out 1).trans rfl; have hcz132_2 : w130.cell? ⟨gb107, 2, none⟩ = some (.int .i64 0) := (blk_cell BK107.out 2).trans rfl; have hcz132_3 : w130.cell? ⟨gb107, 3, none⟩ = some (.int .i64 0) := (blk_cell BK107.out 3).trans rfl; have hcz132_4 : w130.cell? ⟨gb107, 4, none⟩ = some (.int .i64 0) := (blk_cell BK107.out 4).trans rfl; have hcz132_5 : w130.cell? ⟨gb107, 5, none⟩ = some (.int .i64 0) := (blk_cell BK107.out 5).trans rfl; have hcz132_6 : w130.cell? ⟨gb107, 6, none⟩ = some (.int .i64 0) := (blk_cell BK107.out 6).trans rfl; have hcz132_7 : w130.cell? ⟨gb107, 7, none⟩ = some (.int .i64 0) := (blk_cell BK107.out 7).trans rfl; have hcz132_8 : w130.cell? ⟨gb107, 8, none⟩ = some (.bool false) := (blk_cell BK107.out 8).trans rfl; have hfz132_0 := blk_frozen BK107.out 0; have hfz132_1 := blk_frozen BK107.out 1; have hfz132_2 := blk_frozen BK107.out 2; have hfz132_3 := blk_frozen BK107.out 3; have hfz132_4 := blk_frozen BK107.out 4; have hfz132_5 := blk_frozen BK107.out 5; have hfz132_6 := blk_frozen BK107.out 6; have hfz132_7 := blk_frozen BK107.out 7; have hfz132_8 := blk_frozen BK107.out 8) | ((with_reducible refine gate_callee (f := 19) rfl ?_); refine goesL_ (some 51) rfl rfl Try.func19 (by kernel_rfl) rfl #[.int .i64 a0_2, .int .i64 0, .int .i64 0] rfl (by (try simp only [List.map_toArray, List.map_cons, List.map_nil]); first | done | rfl | (simp only [List.length_drop, List.length_take]; rfl)) ?_; (with_reducible refine (event_in.calls a0_2 0 0 true _ A120.out).mono ?_); rintro e w' ⟨rfl, ⟨nd, rfl⟩⟩; refine ⟨_, rfl, ?_⟩; have hcz133_0 : w130.cell? ⟨gb108, 0, none⟩ = some (.int .i64 0) := (blk_cell BK108.out 0).trans rfl; have hcz133_1 : w130.cell? ⟨gb108, 1, none⟩ = some (.int .i64 0) := (blk_cell BK108.out 1).trans rfl; have hcz133_2 : w130.cell? ⟨gb108, 2, none⟩ = some (.int .i64 0) := (blk_cell BK108.out 2).trans rfl; have hcz133_3 : w130.cell? ⟨gb108, 3, none⟩ = some (.int .i64 0) := (blk_cell BK108.out 3).trans rfl; have hcz133_4 : w130.cell? ⟨gb108, 4, none⟩ = some (.int .i64 0) := (blk_cell BK108.out 4).trans rfl; have hcz133_5 : w130.cell? ⟨gb108, 5, none⟩ = some (.int .i64 0) := (blk_cell BK108.out 5).trans rfl; have hcz133_6 : w130.cell? ⟨gb108, 6, none⟩ = some (.int .i64 0) := (blk_cell BK108.out 6).trans rfl; have hcz133_7 : w130.cell? ⟨gb108, 7, none⟩ = some (.int .i64 0) := (blk_cell BK108.out 7).trans rfl; have hcz133_8 : w130.cell? ⟨gb108, 8, none⟩ = some (.bool false) := (blk_cell BK108.out 8).trans rfl; have hfz133_0 := blk_frozen BK108.out 0; have hfz133_1 := blk_frozen BK108.out 1; have hfz133_2 := blk_frozen BK108.out 2; have hfz133_3 := blk_frozen BK108.out 3; have hfz133_4 := blk_frozen BK108.out 4; have hfz133_5 := blk_frozen BK108.out 5; have hfz133_6 := blk_frozen BK108.out 6; have hfz133_7 := blk_frozen BK108.out 7; have hfz133_8 := blk_frozen BK108.out 8) | (go_at_call 19; (with_reducible refine (event_in.calls a0_3 0 0 true _ A122.out).mono ?_); rintro e w' ⟨rfl, ⟨nd, rfl⟩⟩) | (go_at_call 19; (with_reducible refine (event_in.calls a0_4 0 0 t124 _ A124.out).mono ?_); rintro e w' ⟨rfl, ⟨nd, rfl⟩⟩))
                                go_ret
                                exact ⟨by first | rfl | (simp [errW_none, errW_some] <;> rfl) | (simp [*, errW_none, errW_some] <;> rfl), by repeat (first | (with_reducible first | exact HB.out | apply below_alloc | apply pw_below_drewN | apply below_drew1 | refine below_set ?_ GE105.out | refine below_set ?_ GE107.out | refine below_set ?_ GE108.out) | exact HB.out)⟩
                              · replace c123 := Bool.eq_false_iff.mpr c123
                                subst c123
                                have H1 : (some false) = some r := by rw [if_neg (show ¬ (false = true) by decide)] at H; exact H
                                clear H
                                have H := H1
                                clear H1
                                obtain rfl := Option.some.inj H
                                have hnb134 := NB107_105.out
                                have hnc134 := NB105_107.out
                                have hnb135 := NB107_108.out
                                have hnc135 := NB108_107.out
                                have hcz136_0 : wc.cell? ⟨gb107, 0, none⟩ = some (.int .i64 0) := (blk_cell BK107.out 0).trans rfl
                                have hcz136_1 : wc.cell? ⟨gb107, 1, none⟩ = some (.int .i64 0) := (blk_cell BK107.out 1).trans rfl
                                have hcz136_2 : wc.cell? ⟨gb107, 2, none⟩ = some (.int .i64 2) := (blk_cell BK107.out 2).trans rfl
                                have hcz136_3 : wc.cell? ⟨gb107, 3, none⟩ = some (.int .i64 0) := (blk_cell BK107.out 3).trans rfl
                                have hcz136_4 : wc.cell? ⟨gb107, 4, none⟩ = some (.int .i64 0) := (blk_cell BK107.out 4).trans rfl
                                have hcz136_5 : wc.cell? ⟨gb107, 5, none⟩ = some (.int .i64 0) := (blk_cell BK107.out 5).trans rfl
                                have hcz136_6 : wc.cell? ⟨gb107, 6, none⟩ = some (.int .i64 0) := (blk_cell BK107.out 6).trans rfl
                                have hcz136_7 : wc.cell? ⟨gb107, 7, none⟩ = some (.int .i64 0) := (blk_cell BK107.out 7).trans rfl
                                have hcz136_8 : wc.cell? ⟨gb107, 8, none⟩ = some (.bool false) := (blk_cell BK107.out 8).trans rfl
                                have hfz136_0 := blk_frozen BK107.out 0
                                have hfz136_1 := blk_frozen BK107.out 1
                                have hfz136_2 := blk_frozen BK107.out 2
                                have hfz136_3 := blk_frozen BK107.out 3
                                have hfz136_4 := blk_frozen BK107.out 4
                                have hfz136_5 := blk_frozen BK107.out 5
                                have hfz136_6 := blk_frozen BK107.out 6
                                have hfz136_7 := blk_frozen BK107.out 7
                                have hfz136_8 := blk_frozen BK107.out 8
                                have hnb137 := NB105_108.out
                                have hnc137 := NB108_105.out
                                have hcz138_0 : wc.cell? ⟨gb105, 0, none⟩ = some (.int .i64 a0_0) := (blk_cell BK105.out 0).trans rfl
                                have hcz138_1 : wc.cell? ⟨gb105, 1, none⟩ = some (.int .i64 a0_1) := (blk_cell BK105.out 1).trans rfl
                                have hcz138_2 : wc.cell? ⟨gb105, 2, none⟩ = some (.int .i64 a0_2) := (blk_cell BK105.out 2).trans rfl
                                have hcz138_3 : wc.cell? ⟨gb105, 3, none⟩ = some (.int .i64 a0_3) := (blk_cell BK105.out 3).trans rfl
                                have hcz138_4 : wc.cell? ⟨gb105, 4, none⟩ = some (.int .i64 a0_4) := (blk_cell BK105.out 4).trans rfl
                                have hcz138_5 : wc.cell? ⟨gb105, 5, none⟩ = some (.int .i64 a0_5) := (blk_cell BK105.out 5).trans rfl
                                have hcz138_6 : wc.cell? ⟨gb105, 6, none⟩ = some (.int .i64 a0_6) := (blk_cell BK105.out 6).trans rfl
                                have hcz138_7 : wc.cell? ⟨gb105, 7, none⟩ = some (.int .i64 a0_7) := (blk_cell BK105.out 7).trans rfl
                                have hcz138_8 : wc.cell? ⟨gb105, 8, none⟩ = some (.bool a0_8) := (blk_cell BK105.out 8).trans rfl
                                have hfz138_0 := blk_frozen BK105.out 0
                                have hfz138_1 := blk_frozen BK105.out 1
                                have hfz138_2 := blk_frozen BK105.out 2
                                have hfz138_3 := blk_frozen BK105.out 3
                                have hfz138_4 := blk_frozen BK105.out 4
                                have hfz138_5 := blk_frozen BK105.out 5
                                have hfz138_6 := blk_frozen BK105.out 6
                                have hfz138_7 := blk_frozen BK105.out 7
                                have hfz138_8 := blk_frozen BK105.out 8
                                go_wp2_with (first | ((with_reducible refine gate_callee (f := 31) rfl ?_); refine goesL_ (some 45) rfl rfl Try.func31 (by kernel_rfl) rfl #[.agg #[.int .i64 a0_5, .int .i64 a0_6, .int .i64 a0_7, .bool a0_8]] rfl (by (try simp only [List.map_toArray, List.map_cons, List.map_nil]); first | done | rfl | (simp only [List.length_drop, List.length_take]; rfl)) ?_; (with_reducible refine (alloc_MayPolicy.calls a0_5 a0_6 a0_7 a0_8 true _ A118.out).mono ?_); rintro e w139 ⟨rfl, hb⟩; refine ⟨_, rfl, ?_⟩; have n0_ := Aside0.mk (blk_below (g := gb105) (o := .cells #[.int .i64 a0_0, .int .i64 a0_1, .int .i64 a0_2, .int .i64 a0_3, .int .i64 a0_4, .int .i64 a0_5, .int .i64 a0_6, .int .i64 a0_7, .bool a0_8] 34 (0, 0)) (by (with_reducible repeat (first | refine blk_drewN ?_ _ | refine blk_drew ?_ | refine blk_alloc ?_ _)); refine blk_far ?_ NB105_107.out _; (with_reducible repeat (first | refine blk_drewN ?_ _ | refine blk_drew ?_ | refine blk_alloc ?_ _)); exact BK105.out) hb); have n1_ := Aside0.mk (blk_below (g := gb107) (o := .cells #[.int .i64 0, .int .i64 0, .int .i64 0, .int .i64 0, .int .i64 0, .int .i64 0, .int .i64 0, .int .i64 0, .bool false] 34 (0, 0)) (by (with_reducible repeat (first | refine blk_drewN ?_ _ | refine blk_drew ?_ | refine blk_alloc ?_ _)); refine blk_put (cs := #[.int .i64 0, .int .i64 0, .int .i64 2, .int .i64 0, .int .i64 0, .int .i64 0, .int .i64 0, .int .i64 0, .bool false]) ?_ 2 _ rfl; (with_reducible repeat (first | refine blk_drewN ?_ _ | refine blk_drew ?_ | refine blk_alloc ?_ _)); exact BK107.out) hb); have n2_ := Aside0.mk (blk_below (g := gb108) (o := .cells #[.int .i64 0, .int .i64 0, .int .i64 0, .int .i64 0, .int .i64 0, .int .i64 0, .int .i64 0, .int .i64 0, .bool false] 34 (0, 0)) (by (with_reducible repeat (first | refine blk_drewN ?_ _ | refine blk_drew ?_ | refine blk_alloc ?_ _)); refine blk_far ?_ NB108_107.out _; (with_reducible repeat (first | refine blk_drewN ?_ _ | refine blk_drew ?_ | refine blk_alloc ?_ _)); exact BK108.out) hb); have n3_ := Aside0.mk (below_step (by repeat (first | (with_reducible first | exact HB.out | apply below_alloc | apply pw_below_drewN | apply below_drew1 | refine below_set ?_ GE105.out | refine below_set ?_ GE107.out | refine below_set ?_ GE108.out) | exact HB.out)) hb); clear BK105; clear BK107; clear BK108; clear HB; have BK105 := n0_; have BK107 := n1_; have BK108 := n2_; have HB := n3_; clear n0_ n1_ n2_ n3_; (try clear hb); (try clear hb2); (try clear hk); (try clear hi); have hcz140_0 : w139.cell? ⟨gb105, 0, none⟩ = some (.int .i64 a0_0) := (blk_cell BK105.out 0).trans rfl; have hcz140_1 : w139.cell? ⟨gb105, 1, none⟩ = some (.int .i64 a0_1) := (blk_cell BK105.out 1).trans rfl; have hcz140_2 : w139.cell? ⟨gb105, 2, none⟩ = some (.int .i64 a0_2) := (blk_cell BK105.out 2).trans rfl; have hcz140_3 : w139.cell? ⟨gb105, 3, none⟩ = some (.int .i64 a0_3) := (blk_cell BK105.out 3).trans rfl; have hcz140_4 : w139.cell? ⟨gb105, 4, none⟩ = some (.int .i64 a0_4) := (blk_cell BK105.out 4).trans rfl; have hcz140_5 : w139.cell? ⟨gb105, 5, none⟩ = some (.int .i64 a0_5) := (blk_cell BK105.out 5).trans rfl; have hcz140_6 : w139.cell? ⟨gb105, 6, none⟩ = some (.int .i64 a0_6) := (blk_cell BK105.out 6).trans rfl; have hcz140_7 : w139.cell? ⟨gb105, 7, none⟩ = some (.int .i64 a0_7) := (blk_cell BK105.out 7).trans rfl; have hcz140_8 : w139.cell? ⟨gb105, 8, none⟩ = some (.bool a0_8) := (blk_cell BK105.out 8).trans rfl; have hfz140_0 := blk_frozen BK105.out 0; have hfz140_1 := blk_frozen BK105.out 1; have hfz140_2 := blk_frozen BK105.out 2; have hfz140_3 := blk_frozen BK105.out 3; have hfz140_4 := blk_frozen BK105.out 4; have hfz140_5 := blk_frozen BK105.out 5; have hfz140_6 := blk_frozen BK105.out 6; have hfz140_7 := blk_frozen BK105.out 7; have hfz140_8 := blk_frozen BK105.out 8; have hcz141_0 : w139.cell? ⟨gb107, 0, none⟩ = some (.int .i64 0) := (blk_cell BK107.out 0).trans rfl; have hcz141_1 : w139.cell? ⟨gb107, 1, none⟩ = some (.int .i64 0) := (blk_cell BK107.out 1).trans rfl; have hcz141_2 : w139.cell? ⟨gb107, 2, none⟩ = some (.int .i64 0) := (blk_cell BK107.out 2).trans rfl; have hcz141_3 : w139.cell? ⟨gb107, 3, none⟩ = some (.int .i64 0) := (blk_cell BK107.out 3).trans rfl; have hcz141_4 : w139.cell? ⟨gb107, 4, none⟩ = some (.int .i64 0) := (blk_cell BK107.out 4).trans rfl; have hcz141_5 : w139.cell? ⟨gb107, 5, none⟩ = some (.int .i64 0) := (blk_cell BK107.out 5).trans rfl; have hcz141_6 : w139.cell? ⟨gb107, 6, none⟩ = some (.int .i64 0) := (blk_cell BK107.out 6).trans rfl; have hcz141_7 : w139.cell? ⟨gb107, 7, none⟩ = some (.int .i64 0) := (blk_cell BK107.out 7).trans rfl; have hcz141_8 : w139.cell? ⟨gb107, 8, none⟩ = some (.bool false) := (blk_cell BK107.out 8).trans rfl; have hfz141_0 := blk_frozen BK107.out 0; have hfz141_1 := blk_frozen BK107.out 1; have hfz141_2 := blk_frozen BK107.out 2; have hfz141_3 := blk_frozen BK107.out 3; have hfz141_4 := blk_frozen BK107.out 4; have hfz141_5 := blk_frozen BK107.out 5; have hfz141_6 := blk_frozen BK107.out 6; have hfz141_7 := blk_frozen BK107.out 7; have hfz141_8 := blk_frozen BK107.out 8) | ((with_reducible refine gate_callee (f := 19) rfl ?_); refine goesL_ (some 51) rfl rfl Try.func19 (by kernel_rfl) rfl #[.int .i64 a0_2, .int .i64 0, .int .i64 0] rfl (by (try simp only [List.map_toArray, List.map_cons, List.map_nil]); first | done | rfl | (simp only [List.length_drop, List.length_take]; rfl)) ?_; (with_reducible refine (event_in.calls a0_2 0 0 true _ A120.out).mono ?_); rintro e w' ⟨rfl, ⟨nd, rfl⟩⟩; refine ⟨_, rfl, ?_⟩; have hcz142_0 : w139.cell? ⟨gb108, 0, none⟩ = some (.int .i64 0) := (blk_cell BK108.out 0).trans rfl; have hcz142_1 : w139.cell? ⟨gb108, 1, none⟩ = some (.int .i64 0) := (blk_cell BK108.out 1).trans rfl; have hcz142_2 : w139.cell? ⟨gb108, 2, none⟩ = some (.int .i64 0) := (blk_cell BK108.out 2).trans rfl; have hcz142_3 : w139.cell? ⟨gb108, 3, none⟩ = some (.int .i64 0) := (blk_cell BK108.out 3).trans rfl; have hcz142_4 : w139.cell? ⟨gb108, 4, none⟩ = some (.int .i64 0) := (blk_cell BK108.out 4).trans rfl; have hcz142_5 : w139.cell? ⟨gb108, 5, none⟩ = some (.int .i64 0) := (blk_cell BK108.out 5).trans rfl; have hcz142_6 : w139.cell? ⟨gb108, 6, none⟩ = some (.int .i64 0) := (blk_cell BK108.out 6).trans rfl; have hcz142_7 : w139.cell? ⟨gb108, 7, none⟩ = some (.int .i64 0) := (blk_cell BK108.out 7).trans rfl; have hcz142_8 : w139.cell? ⟨gb108, 8, none⟩ = some (.bool false) := (blk_cell BK108.out 8).trans rfl; have hfz142_0 := blk_frozen BK108.out 0; have hfz142_1 := blk_frozen BK108.out 1; have hfz142_2 := blk_frozen BK108.out 2; have hfz142_3 := blk_frozen BK108.out 3; have hfz142_4 := blk_frozen BK108.out 4; have hfz142_5 := blk_frozen BK108.out 5; have hfz142_6 := blk_frozen BK108.out 6; have hfz142_7 := blk_frozen BK108.out 7; have hfz142_8 := blk_frozen BK108.out 8) | (go_at_call 19; (with_reducible refine (event_in.calls a0_3 0 0 false _ A122.out).mono ?_); rintro e w' ⟨rfl, ⟨nd, rfl⟩⟩))
                                go_ret
                                exact ⟨by first | rfl | (simp [errW_none, errW_some] <;> rfl) | (simp [*, errW_none, errW_some] <;> rfl), by repeat (first | (with_reducible first | exact HB.out | apply below_alloc | apply pw_below_drewN | apply below_drew1 | refine below_set ?_ GE105.out | refine below_set ?_ GE107.out | refine below_set ?_ GE108.out) | exact HB.out)⟩
                            · replace c121 := Bool.eq_false_iff.mpr c121
                              subst c121
                              have H1 : (some false) = some r := by rw [if_neg (show ¬ (false = true) by decide)] at H; exact H
                              clear H
                              have H := H1
                              clear H1
                              obtain rfl := Option.some.inj H
                              have hnb143 := NB107_105.out
                              have hnc143 := NB105_107.out
                              have hnb144 := NB107_108.out
                              have hnc144 := NB108_107.out
                              have hcz145_0 : wc.cell? ⟨gb107, 0, none⟩ = some (.int .i64 0) := (blk_cell BK107.out 0).trans rfl
                              have hcz145_1 : wc.cell? ⟨gb107, 1, none⟩ = some (.int .i64 0) := (blk_cell BK107.out 1).trans rfl
                              have hcz145_2 : wc.cell? ⟨gb107, 2, none⟩ = some (.int .i64 2) := (blk_cell BK107.out 2).trans rfl
                              have hcz145_3 : wc.cell? ⟨gb107, 3, none⟩ = some (.int .i64 0) := (blk_cell BK107.out 3).trans rfl
                              have hcz145_4 : wc.cell? ⟨gb107, 4, none⟩ = some (.int .i64 0) := (blk_cell BK107.out 4).trans rfl
                              have hcz145_5 : wc.cell? ⟨gb107, 5, none⟩ = some (.int .i64 0) := (blk_cell BK107.out 5).trans rfl
                              have hcz145_6 : wc.cell? ⟨gb107, 6, none⟩ = some (.int .i64 0) := (blk_cell BK107.out 6).trans rfl
                              have hcz145_7 : wc.cell? ⟨gb107, 7, none⟩ = some (.int .i64 0) := (blk_cell BK107.out 7).trans rfl
                              have hcz145_8 : wc.cell? ⟨gb107, 8, none⟩ = some (.bool false) := (blk_cell BK107.out 8).trans rfl
                              have hfz145_0 := blk_frozen BK107.out 0
                              have hfz145_1 := blk_frozen BK107.out 1
                              have hfz145_2 := blk_frozen BK107.out 2
                              have hfz145_3 := blk_frozen BK107.out 3
                              have hfz145_4 := blk_frozen BK107.out 4
                              have hfz145_5 := blk_frozen BK107.out 5
                              have hfz145_6 := blk_frozen BK107.out 6
                              have hfz145_7 := blk_frozen BK107.out 7
                              have hfz145_8 := blk_frozen BK107.out 8
                              have hnb146 := NB105_108.out
                              have hnc146 := NB108_105.out
                              have hcz147_0 : wc.cell? ⟨gb105, 0, none⟩ = some (.int .i64 a0_0) := (blk_cell BK105.out 0).trans rfl
                              have hcz147_1 : wc.cell? ⟨gb105, 1, none⟩ = some (.int .i64 a0_1) := (blk_cell BK105.out 1).trans rfl
                              have hcz147_2 : wc.cell? ⟨gb105, 2, none⟩ = some (.int .i64 a0_2) := (blk_cell BK105.out 2).trans rfl
                              have hcz147_3 : wc.cell? ⟨gb105, 3, none⟩ = some (.int .i64 a0_3) := (blk_cell BK105.out 3).trans rfl
                              have hcz147_4 : wc.cell? ⟨gb105, 4, none⟩ = some (.int .i64 a0_4) := (blk_cell BK105.out 4).trans rfl
                              have hcz147_5 : wc.cell? ⟨gb105, 5, none⟩ = some (.int .i64 a0_5) := (blk_cell BK105.out 5).trans rfl
                              have hcz147_6 : wc.cell? ⟨gb105, 6, none⟩ = some (.int .i64 a0_6) := (blk_cell BK105.out 6).trans rfl
                              have hcz147_7 : wc.cell? ⟨gb105, 7, none⟩ = some (.int .i64 a0_7) := (blk_cell BK105.out 7).trans rfl
                              have hcz147_8 : wc.cell? ⟨gb105, 8, none⟩ = some (.bool a0_8) := (blk_cell BK105.out 8).trans rfl
                              have hfz147_0 := blk_frozen BK105.out 0
                              have hfz147_1 := blk_frozen BK105.out 1
                              have hfz147_2 := blk_frozen BK105.out 2
                              have hfz147_3 := blk_frozen BK105.out 3
                              have hfz147_4 := blk_frozen BK105.out 4
                              have hfz147_5 := blk_frozen BK105.out 5
                              have hfz147_6 := blk_frozen BK105.out 6
                              have hfz147_7 := blk_frozen BK105.out 7
                              have hfz147_8 := blk_frozen BK105.out 8
                              go_wp2_with (first | ((with_reducible refine gate_callee (f := 31) rfl ?_); refine goesL_ (some 45) rfl rfl Try.func31 (by kernel_rfl) rfl #[.agg #[.int .i64 a0_5, .int .i64 a0_6, .int .i64 a0_7, .bool a0_8]] rfl (by (try simp only [List.map_toArray, List.map_cons, List.map_nil]); first | done | rfl | (simp only [List.length_drop, List.length_take]; rfl)) ?_; (with_reducible refine (alloc_MayPolicy.calls a0_5 a0_6 a0_7 a0_8 true _ A118.out).mono ?_); rintro e w148 ⟨rfl, hb⟩; refine ⟨_, rfl, ?_⟩; have n0_ := Aside0.mk (blk_below (g := gb105) (o := .cells #[.int .i64 a0_0, .int .i64 a0_1, .int .i64 a0_2, .int .i64 a0_3, .int .i64 a0_4, .int .i64 a0_5, .int .i64 a0_6, .int .i64 a0_7, .bool a0_8] 34 (0, 0)) (by (with_reducible repeat (first | refine blk_drewN ?_ _ | refine blk_drew ?_ | refine blk_alloc ?_ _)); refine blk_far ?_ NB105_107.out _; (with_reducible repeat (first | refine blk_drewN ?_ _ | refine blk_drew ?_ | refine blk_alloc ?_ _)); exact BK105.out) hb); have n1_ := Aside0.mk (blk_below (g := gb107) (o := .cells #[.int .i64 0, .int .i64 0, .int .i64 0, .int .i64 0, .int .i64 0, .int .i64 0, .int .i64 0, .int .i64 0, .bool false] 34 (0, 0)) (by (with_reducible repeat (first | refine blk_drewN ?_ _ | refine blk_drew ?_ | refine blk_alloc ?_ _)); refine blk_put (cs := #[.int .i64 0, .int .i64 0, .int .i64 2, .int .i64 0, .int .i64 0, .int .i64 0, .int .i64 0, .int .i64 0, .bool false]) ?_ 2 _ rfl; (with_reducible repeat (first | refine blk_drewN ?_ _ | refine blk_drew ?_ | refine blk_alloc ?_ _)); exact BK107.out) hb); have n2_ := Aside0.mk (blk_below (g := gb108) (o := .cells #[.int .i64 0, .int .i64 0, .int .i64 0, .int .i64 0, .int .i64 0, .int .i64 0, .int .i64 0, .int .i64 0, .bool false] 34 (0, 0)) (by (with_reducible repeat (first | refine blk_drewN ?_ _ | refine blk_drew ?_ | refine blk_alloc ?_ _)); refine blk_far ?_ NB108_107.out _; (with_reducible repeat (first | refine blk_drewN ?_ _ | refine blk_drew ?_ | refine blk_alloc ?_ _)); exact BK108.out) hb); have n3_ := Aside0.mk (below_step (by repeat (first | (with_reducible first | exact HB.out | apply below_alloc | apply pw_below_drewN | apply below_drew1 | refine below_set ?_ GE105.out | refine below_set ?_ GE107.out | refine below_set ?_ GE108.out) | exact HB.out)) hb); clear BK105; clear BK107; clear BK108; clear HB; have BK105 := n0_; have BK107 := n1_; have BK108 := n2_; have HB := n3_; clear n0_ n1_ n2_ n3_; (try clear hb); (try clear hb2); (try clear hk); (try clear hi); have hcz149_0 : w148.cell? ⟨gb105, 0, none⟩ = some (.int .i64 a0_0) := (blk_cell BK105.out 0).trans rfl; have hcz149_1 : w148.cell? ⟨gb105, 1, none⟩ = some (.int .i64 a0_1) := (blk_cell BK105.out 1).trans rfl; have hcz149_2 : w148.cell? ⟨gb105, 2, none⟩ = some (.int .i64 a0_2) := (blk_cell BK105.out 2).trans rfl; have hcz149_3 : w148.cell? ⟨gb105, 3, none⟩ = some (.int .i64 a0_3) := (blk_cell BK105.out 3).trans rfl; have hcz149_4 : w148.cell? ⟨gb105, 4, none⟩ = some (.int .i64 a0_4) := (blk_cell BK105.out 4).trans rfl; have hcz149_5 : w148.cell? ⟨gb105, 5, none⟩ = some (.int .i64 a0_5) := (blk_cell BK105.out 5).trans rfl; have hcz149_6 : w148.cell? ⟨gb105, 6, none⟩ = some (.int .i64 a0_6) := (blk_cell BK105.out 6).trans rfl; have hcz149_7 : w148.cell? ⟨gb105, 7, none⟩ = some (.int .i64 a0_7) := (blk_cell BK105.out 7).trans rfl; have hcz149_8 : w148.cell? ⟨gb105, 8, none⟩ = some (.bool a0_8) := (blk_cell BK105.out 8).trans rfl; have hfz149_0 := blk_frozen BK105.out 0; have hfz149_1 := blk_frozen BK105.out 1; have hfz149_2 := blk_frozen BK105.out 2; have hfz149_3 := blk_frozen BK105.out 3; have hfz149_4 := blk_frozen BK105.out 4; have hfz149_5 := blk_frozen BK105.out 5; have hfz149_6 := blk_frozen BK105.out 6; have hfz149_7 := blk_frozen BK105.out 7; have hfz149_8 := blk_frozen BK105.out 8; have hcz150_0 : w148.cell? ⟨gb107, 0, none⟩ = some (.int .i64 0) := (blk_cell BK107.out 0).trans rfl; have hcz150_1 : w148.cell? ⟨gb107, 1, none⟩ = some (.int .i64 0) := (blk_cell BK107.out 1).trans rfl; have hcz150_2 : w148.cell? ⟨gb107, 2, none⟩ = some (.int .i64 0) := (blk_cell BK107.out 2).trans rfl; have hcz150_3 : w148.cell? ⟨gb107, 3, none⟩ = some (.int .i64 0) := (blk_cell BK107.out 3).trans rfl; have hcz150_4 : w148.cell? ⟨gb107, 4, none⟩ = some (.int .i64 0) := (blk_cell BK107.out 4).trans rfl; have hcz150_5 : w148.cell? ⟨gb107, 5, none⟩ = some (.int .i64 0) := (blk_cell BK107.out 5).trans rfl; have hcz150_6 : w148.cell? ⟨gb107, 6, none⟩ = some (.int .i64 0) := (blk_cell BK107.out 6).trans rfl; have hcz150_7 : w148.cell? ⟨gb107, 7, none⟩ = some (.int .i64 0) := (blk_cell BK107.out 7).trans rfl; have hcz150_8 : w148.cell? ⟨gb107, 8, none⟩ = some (.bool false) := (blk_cell BK107.out 8).trans rfl; have hfz150_0 := blk_frozen BK107.out 0; have hfz150_1 := blk_frozen BK107.out 1; have hfz150_2 := blk_frozen BK107.out 2; have hfz150_3 := blk_frozen BK107.out 3; have hfz150_4 := blk_frozen BK107.out 4; have hfz150_5 := blk_frozen BK107.out 5; have hfz150_6 := blk_frozen BK107.out 6; have hfz150_7 := blk_frozen BK107.out 7; have hfz150_8 := blk_frozen BK107.out 8) | ((with_reducible refine gate_callee (f := 19) rfl ?_); refine goesL_ (some 51) rfl rfl Try.func19 (by kernel_rfl) rfl #[.int .i64 a0_2, .int .i64 0, .int .i64 0] rfl (by (try simp only [List.map_toArray, List.map_cons, List.map_nil]); first | done | rfl | (simp only [List.length_drop, List.length_take]; rfl)) ?_; (with_reducible refine (event_in.calls a0_2 0 0 false _ A120.out).mono ?_); rintro e w' ⟨rfl, ⟨nd, rfl⟩⟩; refine ⟨_, rfl, ?_⟩))
                              go_ret
                              exact ⟨by first | rfl | (simp [errW_none, errW_some] <;> rfl) | (simp [*, errW_none, errW_some] <;> rfl), by repeat (first | (with_reducible first | exact HB.out | apply below_alloc | apply pw_below_drewN | apply below_drew1 | refine below_set ?_ GE105.out | refine below_set ?_ GE107.out | refine below_set ?_ GE108.out) | exact HB.out)⟩
                          · replace c119 := Bool.eq_false_iff.mpr c119
                            subst c119
                            have H1 : (some false) = some r := by rw [if_neg (show ¬ (false = true) by decide)] at H; exact H
                            clear H
                            have H := H1
                            clear H1
                            obtain rfl := Option.some.inj H
                            have hnb151 := NB107_105.out
                            have hnc151 := NB105_107.out
                            have hnb152 := NB107_108.out
                            have hnc152 := NB108_107.out
                            have hcz153_0 : wc.cell? ⟨gb107, 0, none⟩ = some (.int .i64 0) := (blk_cell BK107.out 0).trans rfl
                            have hcz153_1 : wc.cell? ⟨gb107, 1, none⟩ = some (.int .i64 0) := (blk_cell BK107.out 1).trans rfl
                            have hcz153_2 : wc.cell? ⟨gb107, 2, none⟩ = some (.int .i64 2) := (blk_cell BK107.out 2).trans rfl
                            have hcz153_3 : wc.cell? ⟨gb107, 3, none⟩ = some (.int .i64 0) := (blk_cell BK107.out 3).trans rfl
                            have hcz153_4 : wc.cell? ⟨gb107, 4, none⟩ = some (.int .i64 0) := (blk_cell BK107.out 4).trans rfl
                            have hcz153_5 : wc.cell? ⟨gb107, 5, none⟩ = some (.int .i64 0) := (blk_cell BK107.out 5).trans rfl
                            have hcz153_6 : wc.cell? ⟨gb107, 6, none⟩ = some (.int .i64 0) := (blk_cell BK107.out 6).trans rfl
                            have hcz153_7 : wc.cell? ⟨gb107, 7, none⟩ = some (.int .i64 0) := (blk_cell BK107.out 7).trans rfl
                            have hcz153_8 : wc.cell? ⟨gb107, 8, none⟩ = some (.bool false) := (blk_cell BK107.out 8).trans rfl
                            have hfz153_0 := blk_frozen BK107.out 0
                            have hfz153_1 := blk_frozen BK107.out 1
                            have hfz153_2 := blk_frozen BK107.out 2
                            have hfz153_3 := blk_frozen BK107.out 3
                            have hfz153_4 := blk_frozen BK107.out 4
                            have hfz153_5 := blk_frozen BK107.out 5
                            have hfz153_6 := blk_frozen BK107.out 6
                            have hfz153_7 := blk_frozen BK107.out 7
                            have hfz153_8 := blk_frozen BK107.out 8
                            have hnb154 := NB105_108.out
                            have hnc154 := NB108_105.out
                            have hcz155_0 : wc.cell? ⟨gb105, 0, none⟩ = some (.int .i64 a0_0) := (blk_cell BK105.out 0).trans rfl
                            have hcz155_1 : wc.cell? ⟨gb105, 1, none⟩ = some (.int .i64 a0_1) := (blk_cell BK105.out 1).trans rfl
                            have hcz155_2 : wc.cell? ⟨gb105, 2, none⟩ = some (.int .i64 a0_2) := (blk_cell BK105.out 2).trans rfl
                            have hcz155_3 : wc.cell? ⟨gb105, 3, none⟩ = some (.int .i64 a0_3) := (blk_cell BK105.out 3).trans rfl
                            have hcz155_4 : wc.cell? ⟨gb105, 4, none⟩ = some (.int .i64 a0_4) := (blk_cell BK105.out 4).trans rfl
                            have hcz155_5 : wc.cell? ⟨gb105, 5, none⟩ = some (.int .i64 a0_5) := (blk_cell BK105.out 5).trans rfl
                            have hcz155_6 : wc.cell? ⟨gb105, 6, none⟩ = some (.int .i64 a0_6) := (blk_cell BK105.out 6).trans rfl
                            have hcz155_7 : wc.cell? ⟨gb105, 7, none⟩ = some (.int .i64 a0_7) := (blk_cell BK105.out 7).trans rfl
                            have hcz155_8 : wc.cell? ⟨gb105, 8, none⟩ = some (.bool a0_8) := (blk_cell BK105.out 8).trans rfl
                            have hfz155_0 := blk_frozen BK105.out 0
                            have hfz155_1 := blk_frozen BK105.out 1
                            have hfz155_2 := blk_frozen BK105.out 2
                            have hfz155_3 := blk_frozen BK105.out 3
                            have hfz155_4 := blk_frozen BK105.out 4
                            have hfz155_5 := blk_frozen BK105.out 5
                            have hfz155_6 := blk_frozen BK105.out 6
                            have hfz155_7 := blk_frozen BK105.out 7
                            have hfz155_8 := blk_frozen BK105.out 8
                            go_wp2_with (first | ((with_reducible refine gate_callee (f := 31) rfl ?_); refine goesL_ (some 45) rfl rfl Try.func31 (by kernel_rfl) rfl #[.agg #[.int .i64 a0_5, .int .i64 a0_6, .int .i64 a0_7, .bool a0_8]] rfl (by (try simp only [List.map_toArray, List.map_cons, List.map_nil]); first | done | rfl | (simp only [List.length_drop, List.length_take]; rfl)) ?_; (with_reducible refine (alloc_MayPolicy.calls a0_5 a0_6 a0_7 a0_8 false _ A118.out).mono ?_); rintro e w156 ⟨rfl, hb⟩; refine ⟨_, rfl, ?_⟩; have n0_ := Aside0.mk (blk_below (g := gb105) (o := .cells #[.int .i64 a0_0, .int .i64 a0_1, .int .i64 a0_2, .int .i64 a0_3, .int .i64 a0_4, .int .i64 a0_5, .int .i64 a0_6, .int .i64 a0_7, .bool a0_8] 34 (0, 0)) (by (with_reducible repeat (first | refine blk_drewN ?_ _ | refine blk_drew ?_ | refine blk_alloc ?_ _)); refine blk_far ?_ NB105_107.out _; (with_reducible repeat (first | refine blk_drewN ?_ _ | refine blk_drew ?_ | refine blk_alloc ?_ _)); exact BK105.out) hb); have n1_ := Aside0.mk (blk_below (g := gb107) (o := .cells #[.int .i64 0, .int .i64 0, .int .i64 0, .int .i64 0, .int .i64 0, .int .i64 0, .int .i64 0, .int .i64 0, .bool false] 34 (0, 0)) (by (with_reducible repeat (first | refine blk_drewN ?_ _ | refine blk_drew ?_ | refine blk_alloc ?_ _)); refine blk_put (cs := #[.int .i64 0, .int .i64 0, .int .i64 2, .int .i64 0, .int .i64 0, .int .i64 0, .int .i64 0, .int .i64 0, .bool false]) ?_ 2 _ rfl; (with_reducible repeat (first | refine blk_drewN ?_ _ | refine blk_drew ?_ | refine blk_alloc ?_ _)); exact BK107.out) hb); have n2_ := Aside0.mk (blk_below (g := gb108) (o := .cells #[.int .i64 0, .int .i64 0, .int .i64 0, .int .i64 0, .int .i64 0, .int .i64 0, .int .i64 0, .int .i64 0, .bool false] 34 (0, 0)) (by (with_reducible repeat (first | refine blk_drewN ?_ _ | refine blk_drew ?_ | refine blk_alloc ?_ _)); refine blk_far ?_ NB108_107.out _; (with_reducible repeat (first | refine blk_drewN ?_ _ | refine blk_drew ?_ | refine blk_alloc ?_ _)); exact BK108.out) hb); have n3_ := Aside0.mk (below_step (by repeat (first | (with_reducible first | exact HB.out | apply below_alloc | apply pw_below_drewN | apply below_drew1 | refine below_set ?_ GE105.out | refine below_set ?_ GE107.out | refine below_set ?_ GE108.out) | exact HB.out)) hb); clear BK105; clear BK107; clear BK108; clear HB; have BK105 := n0_; have BK107 := n1_; have BK108 := n2_; have HB := n3_; clear n0_ n1_ n2_ n3_; (try clear hb); (try clear hb2); (try clear hk); (try clear hi)))
                            go_ret
                            exact ⟨by first | rfl | (simp [errW_none, errW_some] <;> rfl) | (simp [*, errW_none, errW_some] <;> rfl), by repeat (first | (with_reducible first | exact HB.out | apply below_alloc | apply pw_below_drewN | apply below_drew1 | refine below_set ?_ GE105.out | refine below_set ?_ GE107.out | refine below_set ?_ GE108.out) | exact HB.out)⟩
                        · rw [if_neg c117] at H
                          have c117b0 : (a0_0 == 6) = false := beq_eq_false_iff_ne.mpr c117
                          have c117b1 : (a0_0 != 6) = true := bne_iff_ne.mpr c117
                          obtain rfl := Option.some.inj H
                          go_wp2
                          go_ret
                          exact ⟨by first | rfl | (simp [errW_none, errW_some] <;> rfl) | (simp [*, errW_none, errW_some] <;> rfl), by repeat (first | (with_reducible first | exact HB.out | apply below_alloc | apply pw_below_drewN | apply below_drew1 | refine below_set ?_ GE105.out | refine below_set ?_ GE107.out | refine below_set ?_ GE108.out) | exact HB.out)⟩

end Go.Proofs.Ytodjlacbjcbafaa.B
