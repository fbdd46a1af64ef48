import Derived.Test.YtahiigcofgnncaaDiskR
/-! Layer 6: plain laws of files that are made, and dropped. -/
namespace Go.Proofs.Ytahiigcofgnncaa.H
open Go.RowKit Moor Go.Proofs.YtahiigcofgnncaaW.PrintWords Go.Proofs.YtahiigcofgnncaaW.PrintLast Go.Proofs.YtahiigcofgnncaaW.PrintMore
set_option linter.unusedVariables false
set_option linter.unusedSimpArgs false

theorem risF_mem {l : List Fl} {q : Int} (h : risF q l) {f : Fl} (hf : f ∈ l) : q < f.no := by
  obtain ⟨i, hi⟩ := List.mem_iff_getElem?.1 hf
  obtain ⟨hl, rfl⟩ := List.getElem?_eq_some_iff.1 hi
  exact risF_gt l q h i hl
theorem idxF_none {no : Int} : ∀ {l : List Fl}, idxF no l = none → ∀ f ∈ l, f.no ≠ no
  | [], _, f, hf => by cases hf
  | e :: l, h, f, hf => by
    have h' : (if e.no = no then some 0 else (idxF no l).map (· + 1)) = none := h
    split at h'
    · cases h'
    · rename_i hn
      rcases List.mem_cons.1 hf with rfl | hf
      · exact hn
      · refine idxF_none ?_ f hf
        cases hj : idxF no l with
        | none => rfl
        | some j => rw [hj] at h'; cases h'
theorem idxF_none_of {no : Int} : ∀ {l : List Fl}, (∀ f ∈ l, f.no ≠ no) → idxF no l = none
  | [], _ => rfl
  | e :: l, h => by
    show (if e.no = no then some 0 else (idxF no l).map (· + 1)) = none
    rw [if_neg (h e (List.mem_cons_self ..)), idxF_none_of (fun f hf => h f (List.mem_cons_of_mem _ hf))]
    rfl
/-- A file of a number is there. -/
def HasF (no : Int) (l : List Fl) : Prop := ∃ f ∈ l, f.no = no
theorem hasF_idx {no : Int} {l : List Fl} : HasF no l ↔ ∃ i, idxF no l = some i := by
  constructor
  · rintro ⟨f, hf, hn⟩
    cases h : idxF no l with
    | none => exact absurd hn (idxF_none h f hf)
    | some i => exact ⟨i, rfl⟩
  · rintro ⟨i, hi⟩
    obtain ⟨f, hf, hn⟩ := idxF_some hi
    exact ⟨f, List.mem_of_getElem? hf, hn⟩
theorem findD_has {cap : Int} {l : List Fl} {no : Int} (h : mayD ⟨cap, l⟩) : 0 ≤ findD ⟨cap, l⟩ no ↔ HasF no l := by
  rw [findD_idx h, hasF_idx]
  cases idxF no l with
  | none => exact ⟨fun h => absurd h (by decide), fun ⟨i, h⟩ => by cases h⟩
  | some i => exact ⟨fun _ => ⟨i, rfl⟩, fun _ => by show (0 : Int) ≤ (i : Int); omega⟩
def makeL (no : Int) (l : List Fl) : List Fl := l.take (placeF no l) ++ ⟨no, [], 0⟩ :: l.drop (placeF no l)
theorem placeF_cons_lt {no : Int} {f : Fl} {l : List Fl} (h : f.no < no) : placeF no (f :: l) = placeF no l + 1 := by show (if f.no < no then placeF no l + 1 else 0) = _; rw [if_pos h]
theorem placeF_cons_ge {no : Int} {f : Fl} {l : List Fl} (h : ¬ f.no < no) : placeF no (f :: l) = 0 := by show (if f.no < no then placeF no l + 1 else 0) = _; rw [if_neg h]
theorem filter_lt (no : Int) : ∀ (l : List Fl) (q : Int), risF q l → l.filter (fun f => decide (f.no < no)) = l.take (placeF no l)
  | [], _, _ => rfl
  | f :: l, q, hr => by
    by_cases h : f.no < no
    · rw [placeF_cons_lt h, List.take_succ_cons, List.filter_cons_of_pos (by simpa using h), filter_lt no l f.no hr.2.2.2.2]
    · rw [placeF_cons_ge h, List.take_zero]
      apply List.filter_eq_nil_iff.2
      intro g hg
      rcases List.mem_cons.1 hg with rfl | hg
      · simpa using h
      · have := risF_mem hr.2.2.2.2 hg
        simp
        omega
theorem filter_gt (no : Int) : ∀ (l : List Fl) (q : Int), risF q l → idxF no l = none → l.filter (fun f => decide (f.no > no)) = l.drop (placeF no l)
  | [], _, _, _ => rfl
  | f :: l, q, hr, hi => by
    have hne := idxF_none hi
    have hf := hne f (List.mem_cons_self ..)
    by_cases h : f.no < no
    · rw [placeF_cons_lt h, List.drop_succ_cons, List.filter_cons_of_neg (by simp; omega)]
      exact filter_gt no l f.no hr.2.2.2.2 (idxF_none_of (fun g hg => hne g (List.mem_cons_of_mem _ hg)))
    · rw [placeF_cons_ge h, List.drop_zero]
      apply List.filter_eq_self.2
      intro g hg
      rcases List.mem_cons.1 hg with rfl | hg
      · simp
        omega
      · have := risF_mem hr.2.2.2.2 hg
        simp
        omega
/-- Make, in parts. -/
theorem make_no {d : Dk} {no : Int} (h : ¬ mayD d ∨ no < 1 ∨ no > 1073741824) : makeD d no = (d, 1) := by unfold makeD; rw [if_pos h]
theorem make_there {d : Dk} {no : Int} (h : ¬ (¬ mayD d ∨ no < 1 ∨ no > 1073741824)) (hf : findD d no ≠ -1) : makeD d no = (d, 11) := by unfold makeD; rw [if_neg h, if_pos hf]
theorem make_full {d : Dk} {no : Int} (h : ¬ (¬ mayD d ∨ no < 1 ∨ no > 1073741824)) (hf : ¬ findD d no ≠ -1) (hl : d.f.length = 12) : makeD d no = (d, 9) := by unfold makeD; rw [if_neg h, if_neg hf, if_pos hl]
theorem make_ok {cap : Int} {l : List Fl} {no : Int} (h : ¬ (¬ mayD ⟨cap, l⟩ ∨ no < 1 ∨ no > 1073741824)) (hf : ¬ findD ⟨cap, l⟩ no ≠ -1) (hl : ¬ l.length = 12) : makeD ⟨cap, l⟩ no = (⟨cap, makeL no l⟩, 0) ∧ idxF no l = none := by
  have hm : mayD ⟨cap, l⟩ := Classical.not_not.1 (fun e => h (.inl e))
  have hi : idxF no l = none := by
    cases hi : idxF no l with
    | none => rfl
    | some i =>
      rw [findD_idx hm, hi] at hf
      exact absurd (show ((i : Int) ≠ -1) by omega) hf
  refine ⟨?_, hi⟩
  unfold makeD
  rw [if_neg h, if_neg hf, if_neg hl]
  show ((⟨cap, l.filter (fun f => decide (f.no < no)) ++ ⟨no, [], 0⟩ :: l.filter (fun f => decide (f.no > no))⟩ : Dk), (0 : Int)) = _
  rw [filter_lt no l 0 hm.1, filter_gt no l 0 hm.1 hi]
  rfl
theorem makeL_len (no : Int) (l : List Fl) : (makeL no l).length = l.length + 1 := by
  unfold makeL
  have := placeF_le no l
  simp
  omega
theorem usedF_append : ∀ (a b : List Fl), usedF (a ++ b) = usedF a + usedF b
  | [], b => by simp [usedF]
  | f :: a, b => by rw [List.cons_append]; simp only [usedF]; rw [usedF_append a b]; omega
theorem makeL_used (no : Int) (l : List Fl) : usedF (makeL no l) = usedF l := by
  unfold makeL
  rw [usedF_append]
  have := usedF_append (l.take (placeF no l)) (l.drop (placeF no l))
  rw [List.take_append_drop] at this
  simp only [usedF, List.length_nil]
  omega
theorem makeL_ris (no : Int) : ∀ (l : List Fl) (q : Int), risF q l → q < no → no ≤ 1073741824 → idxF no l = none → risF q (makeL no l)
  | [], q, _, h1, h2, _ => ⟨h1, h2, Int.le_refl _, Int.le_refl _, trivial⟩
  | f :: l, q, hr, h1, h2, hi => by
    have hne := idxF_none hi
    have hf := hne f (List.mem_cons_self ..)
    unfold makeL
    by_cases h : f.no < no
    · rw [placeF_cons_lt h, List.take_succ_cons, List.drop_succ_cons]
      exact ⟨hr.1, hr.2.1, hr.2.2.1, hr.2.2.2.1, makeL_ris no l f.no hr.2.2.2.2 h h2 (idxF_none_of (fun g hg => hne g (List.mem_cons_of_mem _ hg)))⟩
    · rw [placeF_cons_ge h, List.take_zero, List.drop_zero]
      exact ⟨h1, h2, Int.le_refl _, Int.le_refl _, by show no < f.no; omega, hr.2.1, hr.2.2.1, hr.2.2.2.1, hr.2.2.2.2⟩
theorem may_makeL {cap : Int} {l : List Fl} {no : Int} (h : mayD ⟨cap, l⟩) (h0 : 0 < no) (h1 : no ≤ 1073741824) (hi : idxF no l = none) (hl : ¬ l.length = 12) : mayD ⟨cap, makeL no l⟩ := by
  have hl2 : l.length ≤ 12 := h.2.2.2.1
  exact ⟨makeL_ris no l 0 h.1 h0 h1 hi, h.2.1, h.2.2.1, by show (makeL no l).length ≤ 12; rw [makeL_len]; omega, by show (usedF (makeL no l) : Int) ≤ cap; rw [makeL_used]; exact h.2.2.2.2⟩
theorem makeL_mem {no : Int} {l : List Fl} {f : Fl} : f ∈ makeL no l ↔ f = ⟨no, [], 0⟩ ∨ f ∈ l := by
  unfold makeL
  rw [List.mem_append, List.mem_cons]
  constructor
  · rintro (h | h | h)
    · exact .inr (List.mem_of_mem_take h)
    · exact .inl h
    · exact .inr (List.mem_of_mem_drop h)
  · rintro (h | h)
    · exact .inr (.inl h)
    · rw [← List.take_append_drop (placeF no l) l, List.mem_append] at h
      rcases h with h | h
      · exact .inl h
      · exact .inr (.inr h)
theorem makeL_has {no other : Int} {l : List Fl} (h : other ≠ no) : HasF other (makeL no l) ↔ HasF other l := by
  constructor
  · rintro ⟨f, hf, hn⟩
    rcases makeL_mem.1 hf with rfl | hf
    · exact absurd hn.symm h
    · exact ⟨f, hf, hn⟩
  · rintro ⟨f, hf, hn⟩
    exact ⟨f, makeL_mem.2 (.inr hf), hn⟩
theorem makeL_get (no : Int) (l : List Fl) : (makeL no l)[placeF no l]? = some ⟨no, [], 0⟩ := by
  unfold makeL
  have := placeF_le no l
  rw [List.getElem?_append_right (by rw [List.length_take]; omega), List.length_take, show placeF no l - min (placeF no l) l.length = 0 by omega]
  rfl
theorem risF_erase : ∀ (l : List Fl) (q : Int) (i : Nat), risF q l → risF q (l.eraseIdx i)
  | [], q, i, _ => by simp [risF]
  | f :: l, q, 0, hr => by
    show risF q l
    cases l with
    | nil => trivial
    | cons g l =>
      have h2 := hr.2.2.2.2
      exact ⟨Int.lt_trans hr.1 h2.1, h2.2⟩
  | f :: l, q, i + 1, hr => ⟨hr.1, hr.2.1, hr.2.2.1, hr.2.2.2.1, risF_erase l f.no i hr.2.2.2.2⟩
theorem usedF_erase : ∀ (l : List Fl) (i : Nat), usedF (l.eraseIdx i) ≤ usedF l
  | [], i => by simp
  | f :: l, 0 => by show usedF l ≤ usedF (f :: l); simp only [usedF]; omega
  | f :: l, i + 1 => by
    have := usedF_erase l i
    show usedF (f :: l.eraseIdx i) ≤ usedF (f :: l)
    simp only [usedF]
    omega
theorem may_erase {cap : Int} {l : List Fl} (i : Nat) (h : mayD ⟨cap, l⟩) : mayD ⟨cap, l.eraseIdx i⟩ := by
  have h1 := usedF_erase l i
  have h2 : (usedF l : Int) ≤ cap := h.2.2.2.2
  have h3 := List.length_eraseIdx_le l i
  have h4 : l.length ≤ 12 := h.2.2.2.1
  exact ⟨risF_erase l 0 i h.1, h.2.1, h.2.2.1, by show (l.eraseIdx i).length ≤ 12; omega, by show (usedF (l.eraseIdx i) : Int) ≤ cap; omega⟩
/-- One file fewer: the others are there. -/
theorem erase_has : ∀ {l : List Fl} {q : Int} {i : Nat} {f : Fl}, risF q l → l[i]? = some f → ∀ other, HasF other (l.eraseIdx i) ↔ HasF other l ∧ other ≠ f.no
  | [], q, i, f, _, h, _ => by simp at h
  | e :: l, q, 0, f, hr, h, other => by
    cases h
    show HasF other l ↔ _
    constructor
    · rintro ⟨g, hg, hn⟩
      exact ⟨⟨g, List.mem_cons_of_mem _ hg, hn⟩, by have := risF_mem hr.2.2.2.2 hg; omega⟩
    · rintro ⟨⟨g, hg, hn⟩, hne⟩
      rcases List.mem_cons.1 hg with rfl | hg
      · exact absurd hn.symm hne
      · exact ⟨g, hg, hn⟩
  | e :: l, q, i + 1, f, hr, h, other => by
    have h' : l[i]? = some f := by simpa using h
    have ih := erase_has (q := e.no) hr.2.2.2.2 h' other
    have hgt := risF_mem hr.2.2.2.2 (List.mem_of_getElem? h')
    show HasF other (e :: l.eraseIdx i) ↔ _
    constructor
    · rintro ⟨g, hg, hn⟩
      rcases List.mem_cons.1 hg with rfl | hg
      · exact ⟨⟨_, List.mem_cons_self .., hn⟩, by omega⟩
      · obtain ⟨⟨g2, h1, h2⟩, h3⟩ := ih.1 ⟨g, hg, hn⟩
        exact ⟨⟨g2, List.mem_cons_of_mem _ h1, h2⟩, h3⟩
    · rintro ⟨⟨g, hg, hn⟩, hne⟩
      rcases List.mem_cons.1 hg with rfl | hg
      · exact ⟨_, List.mem_cons_self .., hn⟩
      · obtain ⟨g2, h1, h2⟩ := ih.2 ⟨⟨g, hg, hn⟩, hne⟩
        exact ⟨g2, List.mem_cons_of_mem _ h1, h2⟩
end Go.Proofs.Ytahiigcofgnncaa.H
