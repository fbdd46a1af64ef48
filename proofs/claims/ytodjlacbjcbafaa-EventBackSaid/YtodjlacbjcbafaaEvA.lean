import Derived.Test.YtodjlacbjcbafaaVariB
import Derived.Test.YtodjlacbjcbafaaMoorEv
import Derived.Test.YtodjlacbjcbafaaRefAll
/-! Layer 14: the printed functions answer as the plain ones. -/
namespace Go.Proofs.Ytodjlacbjcbafaa.H
open Go.RowKit Moor Go.Proofs.YtodjlacbjcbafaaW.PrintWords Go.Proofs.YtodjlacbjcbafaaW.PrintLast Go.Proofs.YtodjlacbjcbafaaW.PrintMore
set_option linter.unusedVariables false
set_option linter.unusedSimpArgs false

abbrev Se := B.S34
abbrev kE : Kd Se := B.k34
abbrev toE (e : Ev) : Se := ⟨e.kind, e.at_, e.a, e.b, e.c, ⟨e.q, e.i, e.h, e.pair⟩⟩
theorem in_tells (n f t : Int) : B.event_in.f n f t = some (decide (f ≤ n ∧ n ≤ t)) := by
  unfold B.event_in.f
  by_cases h : n ≥ f
  · rw [if_pos h]; congr 1; exact decide_eq_decide.2 ⟨fun g => ⟨h, g⟩, fun g => g.2⟩
  · rw [if_neg h, decide_eq_false (fun g => h g.1)]
theorem ain_tells (n f t : Int) : B.alloc_in.f n f t = some (decide (f ≤ n ∧ n ≤ t)) := by
  unfold B.alloc_in.f
  by_cases h : n ≥ f
  · rw [if_pos h]; congr 1; exact decide_eq_decide.2 ⟨fun g => ⟨h, g⟩, fun g => g.2⟩
  · rw [if_neg h, decide_eq_false (fun g => h g.1)]
theorem rin_tells (n f t : Int) : B.mooringsref14_in.f n f t = some (decide (f ≤ n ∧ n ≤ t)) := by
  unfold B.mooringsref14_in.f
  by_cases h : n ≥ f
  · rw [if_pos h]; congr 1; exact decide_eq_decide.2 ⟨fun g => ⟨h, g⟩, fun g => g.2⟩
  · rw [if_neg h, decide_eq_false (fun g => h g.1)]
def polMay (q i h : Int) : Prop := 1 ≤ q ∧ q ≤ 8 ∧ 1 ≤ i ∧ i ≤ 1048576 ∧ 0 ≤ h ∧ h ≤ 1048576
instance (q i h : Int) : Decidable (polMay q i h) := by unfold polMay; infer_instance
theorem ite_of {c : Prop} [Decidable c] {x y z : Option Bool} (h1 : c → x = z) (h2 : ¬ c → y = z) : (if c then x else y) = z := by
  by_cases h : c
  · rw [if_pos h]; exact h1 h
  · rw [if_neg h]; exact h2 h
theorem leaf_iff {p q : Prop} [Decidable p] [Decidable q] (h : p ↔ q) : some (decide p) = some (decide q) := congrArg some (decide_eq_decide.2 h)
theorem leaf_no {q : Prop} [Decidable q] (h : ¬ q) : some false = some (decide q) := congrArg some (decide_eq_false h).symm
theorem leaf_eq {x : Int} {q : Prop} [Decidable q] (h : x = 0 ↔ q) : some (x == 0) = some (decide q) := by
  rw [← leaf_iff h]; by_cases hx : x = 0 <;> simp [hx]
theorem p_open (q i h : Int) : polMay q i h ↔ 1 ≤ q ∧ q ≤ 8 ∧ 1 ≤ i ∧ i ≤ 1048576 ∧ 0 ≤ h ∧ h ≤ 1048576 := Iff.rfl
theorem e_open (k t a b c q i h : Int) (p : Bool) : evMay ⟨k, t, a, b, c, q, i, h, p⟩ ↔ 0 ≤ t ∧ t ≤ 1073741824 ∧ (k = 6 ∨ (q = 0 ∧ i = 0 ∧ h = 0 ∧ p = false)) ∧ (((k = 0 ∨ k = 1) ∧ 0 ≤ a ∧ a ≤ 31 ∧ 0 ≤ b ∧ b ≤ 3 ∧ 0 ≤ c ∧ c ≤ 7) ∨ (k = 2 ∧ 0 ≤ a ∧ a ≤ 3 ∧ 1 ≤ b ∧ b ≤ 4 ∧ c = 0) ∨ ((k = 3 ∨ k = 5) ∧ 0 ≤ a ∧ a ≤ 2 ∧ b = 0 ∧ c = 0) ∨ (k = 4 ∧ 0 ≤ a ∧ a ≤ 2 ∧ 1 ≤ b ∧ b ≤ 4 ∧ c = 0) ∨ (k = 6 ∧ a = 0 ∧ b = 0 ∧ c = 0 ∧ 1 ≤ q ∧ q ≤ 8 ∧ 1 ≤ i ∧ i ≤ 1048576 ∧ 0 ≤ h ∧ h ≤ 1048576)) := Iff.rfl
theorem chain (p : Prop) [Decidable p] (X : Option Bool) : ((some (decide p)).bind fun t => if t = true then X else some false) = if p then X else some false := by
  by_cases h : p <;> simp [h]
theorem bind_id (o : Option Bool) : (o.bind fun t => some t) = o := by cases o <;> rfl
theorem pol_tells (q i h : Int) (p : Bool) : B.alloc_MayPolicy.f q i h p = some (decide (polMay q i h)) := by
  unfold B.alloc_MayPolicy.f
  simp only [ain_tells, chain, bind_id]
  repeat' (refine ite_of (fun _ => ?_) (fun _ => ?_))
  all_goals ((first | refine leaf_iff ?_ | refine leaf_no ?_ | refine leaf_eq ?_) <;> simp only [e_open, p_open, Bool.true_eq_false, and_false, and_true, or_false] at * <;> omega)
theorem rpol_tells (q i h : Int) (p : Bool) : B.mooringsref13_MayPolicy.f q i h p = some (decide (polMay q i h)) := by
  unfold B.mooringsref13_MayPolicy.f
  repeat' (refine ite_of (fun _ => ?_) (fun _ => ?_))
  all_goals ((first | refine leaf_iff ?_ | refine leaf_no ?_ | refine leaf_eq ?_) <;> simp only [e_open, p_open, Bool.true_eq_false, and_false, and_true, or_false] at * <;> omega)
theorem pol0 (q i h : Int) (p : Bool) : (!(q == 0) || (!(i == 0) || (!(h == 0) || p))) = decide (¬ (q = 0 ∧ i = 0 ∧ h = 0 ∧ p = false)) := by
  by_cases h1 : q = 0 <;> by_cases h2 : i = 0 <;> by_cases h3 : h = 0 <;> cases p <;> simp [h1, h2, h3]
theorem may_tells (e : Ev) (k : Nat) (hk : 4 ≤ k) : B.event_May.f k e.kind e.at_ e.a e.b e.c e.q e.i e.h e.pair = some (decide (evMay e)) := by
  obtain ⟨k, rfl⟩ : ∃ m, k = m + 4 := ⟨k - 4, by omega⟩
  cases e with | mk kind at_ a b c q i h pair =>
  cases pair
  all_goals
    simp only [B.event_May.f, B.event_May.j0, B.event_May.j1, B.event_May.j2, in_tells, pol_tells, chain, bind_id, Option.bind_some, pol0, decide_eq_true_eq, beq_iff_eq, Bool.false_eq_true, if_false, if_true, Bool.true_eq_false, and_false, not_false_eq_true, and_true]
    repeat' (refine ite_of (fun _ => ?_) (fun _ => ?_))
    all_goals ((first | refine leaf_iff ?_ | refine leaf_no ?_ | refine leaf_eq ?_) <;> simp only [e_open, p_open, Bool.true_eq_false, and_false, and_true, or_false] at * <;> omega)
theorem rmay_tells (e : Ev) (k : Nat) (hk : 4 ≤ k) : B.mooringsref14_May.f k e.kind e.at_ e.a e.b e.c e.q e.i e.h e.pair = some (decide (evMay e)) := by
  obtain ⟨k, rfl⟩ : ∃ m, k = m + 4 := ⟨k - 4, by omega⟩
  cases e with | mk kind at_ a b c q i h pair =>
  cases pair
  all_goals
    simp only [B.mooringsref14_May.f, B.mooringsref14_May.j0, B.mooringsref14_May.j1, B.mooringsref14_May.j2, rin_tells, rpol_tells, chain, bind_id, Option.bind_some, pol0, decide_eq_true_eq, beq_iff_eq, Bool.false_eq_true, if_false, if_true, Bool.true_eq_false, and_false, not_false_eq_true, and_true]
    repeat' (refine ite_of (fun _ => ?_) (fun _ => ?_))
    all_goals ((first | refine leaf_iff ?_ | refine leaf_no ?_ | refine leaf_eq ?_) <;> simp only [e_open, p_open, Bool.true_eq_false, and_false, and_true, or_false] at * <;> omega)
end Go.Proofs.Ytodjlacbjcbafaa.H

/-! Layer 14: an event's numbers. -/
namespace Go.Proofs.Ytodjlacbjcbafaa.H
open Go.RowKit Moor Go.Proofs.YtodjlacbjcbafaaW.PrintWords Go.Proofs.YtodjlacbjcbafaaW.PrintLast Go.Proofs.YtodjlacbjcbafaaW.PrintMore
set_option linter.unusedVariables false
set_option linter.unusedSimpArgs false

theorem or3_fin : ∀ a : Fin 32, ∀ b : Fin 4, ∀ c : Fin 8, Go.bits .or .i64 (Go.bits .or .i64 (((a.val : Nat) : Int) * 32) (((b.val : Nat) : Int) * 8)) ((c.val : Nat) : Int) = 32 * ((a.val : Nat) : Int) + 8 * ((b.val : Nat) : Int) + ((c.val : Nat) : Int) := by decide +kernel
theorem or2_fin : ∀ a : Fin 32, ∀ b : Fin 8, Go.bits .or .i64 (((a.val : Nat) : Int) * 8) ((b.val : Nat) : Int) = 8 * ((a.val : Nat) : Int) + ((b.val : Nat) : Int) := by decide +kernel
theorem or3 (a b c : Int) (h0 : 0 ≤ a) (h1 : a ≤ 31) (h2 : 0 ≤ b) (h3 : b ≤ 3) (h4 : 0 ≤ c) (h5 : c ≤ 7) : Go.bits .or .i64 (Go.bits .or .i64 (wrap64 (a * 32)) (wrap64 (b * 8))) c = 32 * a + 8 * b + c := by
  obtain ⟨a, rfl⟩ := Int.eq_ofNat_of_zero_le h0
  obtain ⟨b, rfl⟩ := Int.eq_ofNat_of_zero_le h2
  obtain ⟨c, rfl⟩ := Int.eq_ofNat_of_zero_le h4
  rw [wrap64_id (n := (a : Int) * 32) (by omega) (by omega), wrap64_id (n := (b : Int) * 8) (by omega) (by omega)]
  exact or3_fin ⟨a, by omega⟩ ⟨b, by omega⟩ ⟨c, by omega⟩
theorem or2 (a b : Int) (h0 : 0 ≤ a) (h1 : a ≤ 31) (h2 : 0 ≤ b) (h3 : b ≤ 7) : Go.bits .or .i64 (wrap64 (a * 8)) b = 8 * a + b := by
  obtain ⟨a, rfl⟩ := Int.eq_ofNat_of_zero_le h0
  obtain ⟨b, rfl⟩ := Int.eq_ofNat_of_zero_le h2
  rw [wrap64_id (n := (a : Int) * 8) (by omega) (by omega)]
  exact or2_fin ⟨a, by omega⟩ ⟨b, by omega⟩
theorem wsum3 (a b c : Int) (h0 : 0 ≤ a) (h1 : a ≤ 31) (h2 : 0 ≤ b) (h3 : b ≤ 3) (h4 : 0 ≤ c) (h5 : c ≤ 7) : wrap64 (wrap64 (wrap64 (32 * a) + wrap64 (8 * b)) + c) = 32 * a + 8 * b + c := by
  rw [wrap64_id (n := 32 * a) (by omega) (by omega), wrap64_id (n := 8 * b) (by omega) (by omega), wrap64_id (n := 32 * a + 8 * b) (by omega) (by omega), wrap64_id (by omega) (by omega)]
theorem wsum2 (a b : Int) (h0 : 0 ≤ a) (h1 : a ≤ 31) (h2 : 0 ≤ b) (h3 : b ≤ 7) : wrap64 (wrap64 (8 * a) + b) = 8 * a + b := by
  rw [wrap64_id (n := 8 * a) (by omega) (by omega), wrap64_id (by omega) (by omega)]
theorem may_kind {e : Ev} (h : evMay e) : 0 ≤ e.kind ∧ e.kind ≤ 6 := by
  obtain ⟨_, _, _, h⟩ := h; unfold evHas at h; omega
theorem may_abc {e : Ev} (h : evMay e) : (0 ≤ e.a ∧ e.a ≤ 31) ∧ (0 ≤ e.b ∧ e.b ≤ 7) ∧ (0 ≤ e.c ∧ e.c ≤ 7) ∧ ((e.kind = 0 ∨ e.kind = 1) → e.b ≤ 3) := by
  obtain ⟨_, _, _, h⟩ := h; unfold evHas at h; omega
theorem set3 (q i h : Int) : ([q, i, h, 0] : List Int).set (3 : Int).toNat 1 = [q, i, h, 1] := rfl
theorem nums_tells (e : Ev) (hm : evMay e) (k : Nat) (hk : 4 ≤ k) : B.event_numbers.f k e.kind e.at_ e.a e.b e.c e.q e.i e.h e.pair = some (numsE e) := by
  obtain ⟨k, rfl⟩ : ∃ m, k = m + 4 := ⟨k - 4, by omega⟩
  have h1 := may_kind hm
  obtain ⟨⟨ha0, ha1⟩, ⟨hb0, hb1⟩, ⟨hc0, hc1⟩, hb2⟩ := may_abc hm
  cases e with | mk kind at_ a b c q i h pair =>
  simp only at *
  unfold numsE
  simp only
  by_cases k0 : kind = 0 ∨ kind = 1
  · have e3 := or3 a b c ha0 ha1 hb0 (hb2 k0) hc0 hc1
    rw [if_pos k0]
    rcases k0 with rfl | rfl <;> simp [B.event_numbers.f, B.event_numbers.j0, e3]
  · by_cases k1 : kind = 2 ∨ kind = 4
    · have e3 := or2 a b ha0 ha1 hb0 hb1
      rw [if_neg k0, if_pos k1]
      rcases k1 with rfl | rfl <;> simp [B.event_numbers.f, B.event_numbers.j0, B.event_numbers.j1, e3]
    · by_cases k2 : kind = 3 ∨ kind = 5
      · rw [if_neg k0, if_neg k1, if_pos k2]
        rcases k2 with rfl | rfl <;> simp [B.event_numbers.f, B.event_numbers.j0, B.event_numbers.j1, B.event_numbers.j2]
      · have k6 : kind = 6 := by omega
        subst k6
        rw [if_neg k0, if_neg k1, if_neg k2]
        cases pair <;> simp [B.event_numbers.f, B.event_numbers.j0, B.event_numbers.j1, B.event_numbers.j2]
theorem rnums_tells (e : Ev) (hm : evMay e) (k : Nat) (hk : 4 ≤ k) : B.mooringsref14_numbers.f k e.kind e.at_ e.a e.b e.c e.q e.i e.h e.pair = some (numsE e) := by
  obtain ⟨k, rfl⟩ : ∃ m, k = m + 4 := ⟨k - 4, by omega⟩
  have h1 := may_kind hm
  obtain ⟨⟨ha0, ha1⟩, ⟨hb0, hb1⟩, ⟨hc0, hc1⟩, hb2⟩ := may_abc hm
  cases e with | mk kind at_ a b c q i h pair =>
  simp only at *
  unfold numsE
  simp only
  by_cases k0 : kind = 0 ∨ kind = 1
  · have e3 := wsum3 a b c ha0 ha1 hb0 (hb2 k0) hc0 hc1
    rw [if_pos k0]
    rcases k0 with rfl | rfl <;> simp [B.mooringsref14_numbers.f, B.mooringsref14_numbers.j0, e3]
  · by_cases k1 : kind = 2 ∨ kind = 4
    · have e3 := wsum2 a b ha0 ha1 hb0 hb1
      rw [if_neg k0, if_pos k1]
      rcases k1 with rfl | rfl <;> simp [B.mooringsref14_numbers.f, B.mooringsref14_numbers.j0, B.mooringsref14_numbers.j1, e3]
    · by_cases k2 : kind = 3 ∨ kind = 5
      · rw [if_neg k0, if_neg k1, if_pos k2]
        rcases k2 with rfl | rfl <;> simp [B.mooringsref14_numbers.f, B.mooringsref14_numbers.j0, B.mooringsref14_numbers.j1, B.mooringsref14_numbers.j2]
      · have k6 : kind = 6 := by omega
        subst k6
        rw [if_neg k0, if_neg k1, if_neg k2]
        cases pair <;> simp [B.mooringsref14_numbers.f, B.mooringsref14_numbers.j0, B.mooringsref14_numbers.j1, B.mooringsref14_numbers.j2]
end Go.Proofs.Ytodjlacbjcbafaa.H

/-! Layer 14: the bytes of events. -/
namespace Go.Proofs.Ytodjlacbjcbafaa.H
open Go.RowKit Moor Go.Proofs.YtodjlacbjcbafaaW.PrintWords Go.Proofs.YtodjlacbjcbafaaW.PrintLast Go.Proofs.YtodjlacbjcbafaaW.PrintMore
set_option linter.unusedVariables false
set_option linter.unusedSimpArgs false

theorem rdE (l : List Ev) (i : Nat) (h : i < l.length) : B.rd_T34 (l.map toE) (i : Int) = toE l[i] := by
  unfold B.rd_T34
  rw [Int.toNat_natCast, List.getD_eq_getElem?_getD, List.getElem?_map, List.getElem?_eq_getElem h]
  rfl
def putEnd (out : List Int) (f : Int) (l : List Ev) : List Int × Bool := match stepsE f l with
  | some ns => vAll (out ++ ns)
  | none => ([], false)
theorem putEnd_nil (out : List Int) (f : Int) : putEnd out f [] = vAll out := by unfold putEnd; rw [show stepsE f [] = some [] from rfl]; simp only [List.append_nil]
theorem putEnd_cons (out : List Int) (f : Int) (e : Ev) (l : List Ev) (h : evMay e ∧ f ≤ e.at_) : putEnd out f (e :: l) = putEnd (out ++ [16 * (e.at_ - f) + e.kind] ++ numsE e) e.at_ l := by
  unfold putEnd
  rw [show stepsE f (e :: l) = if evMay e ∧ f ≤ e.at_ then (stepsE e.at_ l).map (fun t => (16 * (e.at_ - f) + e.kind) :: (numsE e ++ t)) else none from rfl, if_pos h]
  cases stepsE e.at_ l with
  | none => rfl
  | some t => simp
theorem putEnd_no (out : List Int) (f : Int) (e : Ev) (l : List Ev) (h : ¬ (evMay e ∧ f ≤ e.at_)) : putEnd out f (e :: l) = ([], false) := by
  unfold putEnd
  rw [show stepsE f (e :: l) = if evMay e ∧ f ≤ e.at_ then (stepsE e.at_ l).map (fun t => (16 * (e.at_ - f) + e.kind) :: (numsE e ++ t)) else none from rfl, if_neg h]
theorem putE_end (f : Int) (l : List Ev) : putE f l = if okFrom f then putEnd [] f l else ([], false) := by
  unfold putE putEnd
  by_cases h : okFrom f
  · rw [if_pos h, if_pos h]
    cases stepsE f l <;> rfl
  · rw [if_neg h, if_neg h]
theorem nums_short (e : Ev) : (numsE e).length ≤ 4 := by
  unfold numsE
  repeat' split
  all_goals simp
theorem step_wrap (a f k : Int) (h0 : 0 ≤ a) (h1 : a ≤ 1073741824) (h2 : 0 ≤ f) (h3 : f ≤ 1073741824) (h4 : 0 ≤ k) (h5 : k ≤ 6) : wrap64 (wrap64 (wrap64 (a - f) * 16) + k) = 16 * (a - f) + k := by
  rw [wrap64_id (n := a - f) (by omega) (by omega), wrap64_id (n := (a - f) * 16) (by omega) (by omega), wrap64_id (by omega) (by omega)]; omega
theorem step_wrapr (a f k : Int) (h0 : 0 ≤ a) (h1 : a ≤ 1073741824) (h2 : 0 ≤ f) (h3 : f ≤ 1073741824) (h4 : 0 ≤ k) (h5 : k ≤ 6) : wrap64 (wrap64 (16 * wrap64 (a - f)) + k) = 16 * (a - f) + k := by
  rw [wrap64_id (n := a - f) (by omega) (by omega), wrap64_id (n := 16 * (a - f)) (by omega) (by omega), wrap64_id (by omega) (by omega)]
theorem eput_loop (l : List Ev) (hl : l.length ≤ 2199023255552) (d : Nat) : ∀ (k i : Nat) (out : List Int) (f : Int), i + d = l.length → d + 421 ≤ k → out.length ≤ 5 * i → okFrom f →
    B.event_Put.l0 k f out (l.map toE) (l.length : Int) (i : Int) = some (putEnd out f (l.drop i)) := by
  induction d with
  | zero =>
    intro k i out f hi hk ho hf
    obtain ⟨k, rfl⟩ : ∃ m, k = m + 1 := ⟨k - 1, by omega⟩
    have hn : ¬ ((i : Int) < (l.length : Int)) := by omega
    rw [B.event_Put.l0, if_neg hn, vAll_tells out k (by omega), List.drop_eq_nil_of_le (by omega), putEnd_nil]
    rfl
  | succ d ih =>
    intro k i out f hi hk ho hf
    obtain ⟨k, rfl⟩ : ∃ m, k = m + 1 := ⟨k - 1, by omega⟩
    have hlt : i < l.length := by omega
    have h1 : (i : Int) < (l.length : Int) := by omega
    have h2 : (0 : Int) ≤ (i : Int) := by omega
    have h3 : (i : Int) < ((l.map toE).length : Int) := by rw [List.length_map]; omega
    have hm := may_tells l[i] k (by omega)
    rw [B.event_Put.l0, if_pos h1, if_pos h2, if_pos h3, rdE l i hlt]
    simp only [toE]
    rw [hm, Option.bind_some, List.drop_eq_getElem_cons hlt]
    by_cases hmay : evMay l[i]
    · rw [if_pos (decide_eq_true hmay)]
      by_cases hle : f ≤ l[i].at_
      · have hnl : ¬ (l[i].at_ < f) := by omega
        have hol : out.length < 17592186044416 := by omega
        have hk6 := may_kind hmay
        have hat := evMay_from hmay
        have hs := step_wrap l[i].at_ f l[i].kind hat.1 hat.2 hf.1 hf.2 hk6.1 hk6.2
        have hns := nums_short l[i]
        have hlen : (out ++ [16 * (l[i].at_ - f) + l[i].kind]).length + (numsE l[i]).length < 17592186044416 := by rw [List.length_append, List.length_singleton]; omega
        rw [if_neg hnl, if_pos hol, Option.bind_some, hs, nums_tells l[i] hmay k (by omega), Option.bind_some, if_pos hlen, wrap64_nat i (by omega), ih k (i + 1) _ _ (by omega) (by omega) (by rw [List.length_append, List.length_append, List.length_singleton]; omega) hat, putEnd_cons _ _ _ _ ⟨hmay, hle⟩]
      · rw [if_pos (show l[i].at_ < f by omega), putEnd_no _ _ _ _ (fun g => hle g.2)]
    · rw [if_neg (by simpa using hmay), putEnd_no _ _ _ _ (fun g => hmay g.1)]
theorem ePut_tells (f : Int) (l : List Ev) (hl : l.length ≤ 2199023255552) (k : Nat) (hk : l.length + 421 ≤ k) : B.event_Put.f k f (l.map toE) = some (putE f l) := by
  unfold B.event_Put.f
  rw [in_tells, Option.bind_some, putE_end]
  by_cases h : okFrom f
  · have h' : 0 ≤ f ∧ f ≤ 1073741824 := h
    have q := eput_loop l hl l.length k 0 [] f (by omega) hk (by simp) h
    rw [if_pos (decide_eq_true h'), if_pos h, List.length_map]
    exact q
  · have h' : ¬ (0 ≤ f ∧ f ≤ 1073741824) := h
    rw [if_neg h, if_neg (by simpa using h')]
theorem rput_loop (l : List Ev) (hl : l.length ≤ 2199023255552) (d : Nat) : ∀ (k i : Nat) (out : List Int) (f : Int), i + d = l.length → d + 421 ≤ k → out.length ≤ 5 * i → okFrom f →
    B.mooringsref14_Put.l0 k f (l.map toE) out (i : Int) = some (putEnd out f (l.drop i)) := by
  induction d with
  | zero =>
    intro k i out f hi hk ho hf
    obtain ⟨k, rfl⟩ : ∃ m, k = m + 1 := ⟨k - 1, by omega⟩
    have hn : ¬ ((i : Int) < ((l.map toE).length : Int)) := by rw [List.length_map]; omega
    rw [B.mooringsref14_Put.l0, if_neg hn, refAll_tells out k (by omega), List.drop_eq_nil_of_le (by omega), putEnd_nil]
    rfl
  | succ d ih =>
    intro k i out f hi hk ho hf
    obtain ⟨k, rfl⟩ : ∃ m, k = m + 1 := ⟨k - 1, by omega⟩
    have hlt : i < l.length := by omega
    have h2 : (0 : Int) ≤ (i : Int) := by omega
    have h3 : (i : Int) < ((l.map toE).length : Int) := by rw [List.length_map]; omega
    have hm := rmay_tells l[i] k (by omega)
    rw [B.mooringsref14_Put.l0, if_pos h3, if_pos h2, rdE l i hlt]
    simp only [toE]
    rw [hm, Option.bind_some, List.drop_eq_getElem_cons hlt]
    by_cases hmay : evMay l[i]
    · rw [if_pos (decide_eq_true hmay)]
      by_cases hle : f ≤ l[i].at_
      · have hnl : ¬ (l[i].at_ < f) := by omega
        have hol : out.length < 17592186044416 := by omega
        have hk6 := may_kind hmay
        have hat := evMay_from hmay
        have hs := step_wrapr l[i].at_ f l[i].kind hat.1 hat.2 hf.1 hf.2 hk6.1 hk6.2
        have hns := nums_short l[i]
        have hlen : (out ++ [16 * (l[i].at_ - f) + l[i].kind]).length + (numsE l[i]).length < 17592186044416 := by rw [List.length_append, List.length_singleton]; omega
        rw [if_neg hnl, if_pos hol, Option.bind_some, hs, rnums_tells l[i] hmay k (by omega), Option.bind_some, if_pos hlen, wrap64_nat i (by omega), ih k (i + 1) _ _ (by omega) (by omega) (by rw [List.length_append, List.length_append, List.length_singleton]; omega) hat, putEnd_cons _ _ _ _ ⟨hmay, hle⟩]
      · rw [if_pos (show l[i].at_ < f by omega), putEnd_no _ _ _ _ (fun g => hle g.2)]
    · rw [if_neg (by simpa using hmay), putEnd_no _ _ _ _ (fun g => hmay g.1)]
theorem erPut_tells (f : Int) (l : List Ev) (hl : l.length ≤ 2199023255552) (k : Nat) (hk : l.length + 422 ≤ k) : B.mooringsref14_Put.f k f (l.map toE) = some (putE f l) := by
  obtain ⟨k, rfl⟩ : ∃ m, k = m + 1 := ⟨k - 1, by omega⟩
  unfold B.mooringsref14_Put.f
  rw [putE_end]
  by_cases h : okFrom f
  · have q := rput_loop l hl l.length k 0 [] f (by omega) (by omega) (by simp) h
    rw [if_neg (show ¬ f < 0 from by have := h.1; omega), if_pos h]
    have hd : decide (f > 1073741824) = false := decide_eq_false (by have := h.2; omega)
    rw [hd, show B.mooringsref14_Put.j0 (k + 1) f (l.map toE) false = B.mooringsref14_Put.l0 k f (l.map toE) ([] : List Int) 0 from rfl]
    exact q
  · rw [if_neg h]
    by_cases h0 : f < 0
    · rw [if_pos h0]; rfl
    · have hd : decide (f > 1073741824) = true := decide_eq_true (by have : ¬ (0 ≤ f ∧ f ≤ 1073741824) := h; omega)
      rw [if_neg h0, hd]; rfl
theorem toE_inj {x y : Ev} (h : toE x = toE y) : x = y := by
  cases x; cases y
  simp only [toE, B.S34.mk.injEq, B.S32.mk.injEq] at h
  obtain ⟨rfl, rfl, rfl, rfl, rfl, rfl, rfl, rfl, rfl⟩ := h
  rfl
theorem ne_tells (x y : Ev) : ((!(x.kind == y.kind) || (!(x.at_ == y.at_) || (!(x.a == y.a) || (!(x.b == y.b) || (!(x.c == y.c) || (!(x.q == y.q) || (!(x.i == y.i) || (!(x.h == y.h) || !(x.pair == y.pair)))))))))) = !decide (x = y) := by
  by_cases h : x = y
  · subst h; simp
  · rw [decide_eq_false h]
    cases x; cases y
    simp only [Ev.mk.injEq] at h
    simp only [Bool.not_false]
    apply Classical.byContradiction
    intro g
    apply h
    simpa using g
theorem same_loop (l m : List Ev) (he : l.length = m.length) (hl : l.length ≤ 2199023255552) (d : Nat) : ∀ (k i : Nat), i + d = l.length → d + 1 ≤ k →
    B.api_Event.l0 k (l.map toE) (m.map toE) (l.length : Int) (i : Int) = some (decide (l.drop i = m.drop i)) := by
  induction d with
  | zero =>
    intro k i hi hk
    obtain ⟨k, rfl⟩ : ∃ m, k = m + 1 := ⟨k - 1, by omega⟩
    have hn : ¬ ((i : Int) < (l.length : Int)) := by omega
    rw [B.api_Event.l0, if_neg hn, List.drop_eq_nil_of_le (by omega), List.drop_eq_nil_of_le (by omega)]
    rfl
  | succ d ih =>
    intro k i hi hk
    obtain ⟨k, rfl⟩ : ∃ m, k = m + 1 := ⟨k - 1, by omega⟩
    have hlt : i < l.length := by omega
    have hlm : i < m.length := by omega
    have h1 : (i : Int) < (l.length : Int) := by omega
    have h2 : (0 : Int) ≤ (i : Int) := by omega
    have h3 : (i : Int) < ((l.map toE).length : Int) := by rw [List.length_map]; omega
    have h4 : (i : Int) < ((m.map toE).length : Int) := by rw [List.length_map]; omega
    have hne := ne_tells l[i] m[i]
    rw [B.api_Event.l0, if_pos h1, if_pos h2, if_pos h3, if_pos h4, rdE l i hlt, rdE m i hlm]
    simp only [toE]
    rw [hne, List.drop_eq_getElem_cons hlt, List.drop_eq_getElem_cons hlm]
    by_cases h : l[i] = m[i]
    · rw [decide_eq_true h, if_neg (by simp), wrap64_nat i (by omega), ih k (i + 1) (by omega) (by omega)]
      congr 1
      apply decide_eq_decide.2
      rw [List.cons.injEq]
      exact ⟨fun g => ⟨h, g⟩, fun g => g.2⟩
    · rw [decide_eq_false h, if_pos (by rfl), decide_eq_false (by rw [List.cons.injEq]; exact fun g => h g.1)]
theorem eSame_tells (l m : List Ev) (hl : l.length ≤ 2199023255552) (k : Nat) (hk : l.length + 1 ≤ k) : B.event_Same.f k (l.map toE) (m.map toE) = some (decide (l = m)) := by
  unfold B.event_Same.f
  rw [bind_id]
  unfold B.api_Event.f
  rw [List.length_map, List.length_map]
  by_cases h : (l.length : Int) = (m.length : Int)
  · rw [if_pos h]
    have q := same_loop l m (by omega) hl l.length k 0 (by omega) (by omega)
    exact q
  · rw [if_neg h, decide_eq_false (fun g => h (by rw [g]))]
theorem rsame_loop (l m : List Ev) (he : l.length = m.length) (hl : l.length ≤ 2199023255552) (d : Nat) : ∀ (k i : Nat), i + d = l.length → d + 1 ≤ k →
    B.mooringsref13_Events.l0 k (l.map toE) (m.map toE) (i : Int) = some (decide (l.drop i = m.drop i)) := by
  induction d with
  | zero =>
    intro k i hi hk
    obtain ⟨k, rfl⟩ : ∃ m, k = m + 1 := ⟨k - 1, by omega⟩
    have hn : ¬ ((i : Int) < ((l.map toE).length : Int)) := by rw [List.length_map]; omega
    rw [B.mooringsref13_Events.l0, if_neg hn, List.drop_eq_nil_of_le (by omega), List.drop_eq_nil_of_le (by omega)]
    rfl
  | succ d ih =>
    intro k i hi hk
    obtain ⟨k, rfl⟩ : ∃ m, k = m + 1 := ⟨k - 1, by omega⟩
    have hlt : i < l.length := by omega
    have hlm : i < m.length := by omega
    have h1 : (i : Int) < (l.length : Int) := by omega
    have h2 : (0 : Int) ≤ (i : Int) := by omega
    have h3 : (i : Int) < ((l.map toE).length : Int) := by rw [List.length_map]; omega
    have h4 : (i : Int) < ((m.map toE).length : Int) := by rw [List.length_map]; omega
    have hne := ne_tells l[i] m[i]
    rw [B.mooringsref13_Events.l0, if_pos h3, if_pos h2, if_pos h4, rdE l i hlt, rdE m i hlm]
    simp only [toE]
    rw [hne, List.drop_eq_getElem_cons hlt, List.drop_eq_getElem_cons hlm]
    by_cases h : l[i] = m[i]
    · rw [decide_eq_true h, if_neg (by simp), wrap64_nat i (by omega), ih k (i + 1) (by omega) (by omega)]
      congr 1
      apply decide_eq_decide.2
      rw [List.cons.injEq]
      exact ⟨fun g => ⟨h, g⟩, fun g => g.2⟩
    · rw [decide_eq_false h, if_pos (by rfl), decide_eq_false (by rw [List.cons.injEq]; exact fun g => h g.1)]
theorem erSame_tells (l m : List Ev) (hl : l.length ≤ 2199023255552) (k : Nat) (hk : l.length + 1 ≤ k) : B.mooringsref13_Events.f k (l.map toE) (m.map toE) = some (decide (l = m)) := by
  unfold B.mooringsref13_Events.f
  rw [List.length_map, List.length_map]
  by_cases h : (l.length : Int) = (m.length : Int)
  · rw [if_pos h]
    have q := rsame_loop l m (by omega) hl l.length k 0 (by omega) (by omega)
    exact q
  · rw [if_neg h, decide_eq_false (fun g => h (by rw [g]))]
end Go.Proofs.Ytodjlacbjcbafaa.H
