import Derived.Test.YtahiigcofgnncaaDiskO
import Derived.Test.YtahiigcofgnncaaDiskM
/-! Layer 6: plain laws of what is done to a disk. -/
namespace Go.Proofs.Ytahiigcofgnncaa.H
open Go.RowKit Moor Go.Proofs.YtahiigcofgnncaaW.PrintWords Go.Proofs.YtahiigcofgnncaaW.PrintLast Go.Proofs.YtahiigcofgnncaaW.PrintMore
set_option linter.unusedVariables false
set_option linter.unusedSimpArgs false

theorem usedF_set : ∀ (l : List Fl) (i : Nat) (f g : Fl), l[i]? = some f → usedF (l.set i g) + f.data.length = usedF l + g.data.length
  | [], i, f, g, h => by simp at h
  | e :: l, 0, f, g, h => by cases h; simp only [List.set_cons_zero, usedF]; omega
  | e :: l, i + 1, f, g, h => by
    have := usedF_set l i f g (by simpa using h)
    simp only [List.set_cons_succ, usedF]
    omega
theorem risF_set : ∀ (l : List Fl) (p : Int) (i : Nat) (f g : Fl), risF p l → l[i]? = some f → g.no = f.no → 0 ≤ g.sure → g.sure ≤ g.data.length → risF p (l.set i g)
  | [], p, i, f, g, hr, h, _, _, _ => by simp at h
  | e :: l, p, 0, f, g, hr, h, hn, h0, h1 => by
    cases h
    exact ⟨by rw [hn]; exact hr.1, by rw [hn]; exact hr.2.1, h0, h1, by rw [hn]; exact hr.2.2.2.2⟩
  | e :: l, p, i + 1, f, g, hr, h, hn, h0, h1 => ⟨hr.1, hr.2.1, hr.2.2.1, hr.2.2.2.1, risF_set l e.no i f g hr.2.2.2.2 (by simpa using h) hn h0 h1⟩
theorem may_set {cap : Int} {l : List Fl} {i : Nat} {f g : Fl} (h : mayD ⟨cap, l⟩) (hi : l[i]? = some f) (hn : g.no = f.no) (h0 : 0 ≤ g.sure) (h1 : g.sure ≤ g.data.length) (hu : (usedF l : Int) + g.data.length - f.data.length ≤ cap) : mayD ⟨cap, l.set i g⟩ := by
  have := usedF_set l i f g hi
  exact ⟨risF_set l 0 i f g h.1 hi hn h0 h1, h.2.1, h.2.2.1, by show (l.set i g).length ≤ 12; rw [List.length_set]; exact h.2.2.2.1, by show (usedF (l.set i g) : Int) ≤ cap; omega⟩
theorem atR_some {cap : Int} {l : List Fl} {no : Int} {g : Nat → List Fl × Int} {i : Nat} (h : mayD ⟨cap, l⟩) (hi : idxF no l = some i) : atR cap l no g = if (g i).2 = 0 then (⟨cap, (g i).1⟩, 0) else (⟨cap, l⟩, (g i).2) := by
  unfold atR
  rw [if_pos h, hi]
theorem atR_none {cap : Int} {l : List Fl} {no : Int} {g : Nat → List Fl × Int} (h : mayD ⟨cap, l⟩) (hi : idxF no l = none) : atR cap l no g = (⟨cap, l⟩, 5) := by
  unfold atR
  rw [if_pos h, hi]
theorem atR_no {cap : Int} {l : List Fl} {no : Int} {g : Nat → List Fl × Int} (h : ¬ mayD ⟨cap, l⟩) : atR cap l no g = (⟨cap, l⟩, 1) := by
  unfold atR
  rw [if_neg h]
theorem idxF_some {no : Int} : ∀ {l : List Fl} {i : Nat}, idxF no l = some i → ∃ f, l[i]? = some f ∧ f.no = no
  | [], i, h => by cases h
  | f :: l, i, h => by
    have h' : (if f.no = no then some 0 else (idxF no l).map (· + 1)) = some i := h
    split at h'
    · rename_i hn
      cases h'
      exact ⟨f, rfl, hn⟩
    · cases hj : idxF no l with
      | none => rw [hj] at h'; cases h'
      | some j =>
        rw [hj] at h'
        cases h'
        obtain ⟨e, h1, h2⟩ := idxF_some hj
        exact ⟨e, by simpa using h1, h2⟩
theorem getD_of {l : List Fl} {i : Nat} {f : Fl} (h : l[i]? = some f) : l.getD i fl0 = f := by rw [List.getD_eq_getElem?_getD, h]; rfl
/-- Write: what it does to a file that is there. -/
theorem write_some {cap : Int} {l : List Fl} {no : Int} {b : List Int} {i : Nat} {f : Fl} (h : mayD ⟨cap, l⟩) (hi : idxF no l = some i) (hf : l[i]? = some f) : writeD ⟨cap, l⟩ no b = if (usedF l : Int) + b.length > cap then (⟨cap, l⟩, 9) else (⟨cap, l.set i ⟨f.no, f.data ++ b, f.sure⟩⟩, 0) := by
  rw [writeD_atR, atR_some h hi]
  unfold writeF
  rw [getD_of hf]
  by_cases hg : (usedF l : Int) + b.length > cap
  · rw [if_pos hg, if_pos hg, if_neg (show ¬ (9 : Int) = 0 by decide)]
  · rw [if_neg hg, if_neg hg, if_pos rfl]
theorem may_write {cap : Int} {l : List Fl} (no : Int) (b : List Int) (h : mayD ⟨cap, l⟩) : mayD (writeD ⟨cap, l⟩ no b).1 := by
  cases hi : idxF no l with
  | none => rw [writeD_atR, atR_none h hi]; exact h
  | some i =>
    obtain ⟨f, hf, -⟩ := idxF_some hi
    rw [write_some h hi hf]
    split
    · exact h
    · obtain ⟨hl, rfl⟩ := List.getElem?_eq_some_iff.1 hf
      have hs := risF_sure l 0 h.1 i hl
      exact may_set h hf rfl hs.1 (by simp; omega) (by simp; omega)
theorem room_law {cap : Int} {l : List Fl} {no : Int} (b : List Int) (h : mayD ⟨cap, l⟩) (hf : ¬ findD ⟨cap, l⟩ no < 0) : (usedF l : Int) + b.length > cap ∧ writeD ⟨cap, l⟩ no b = (⟨cap, l⟩, 9) ∨ ¬ (usedF l : Int) + b.length > cap ∧ (writeD ⟨cap, l⟩ no b).2 = 0 := by
  cases hi : idxF no l with
  | none =>
    rw [findD_idx h, hi] at hf
    exact absurd (by decide) hf
  | some i =>
    obtain ⟨f, hf, -⟩ := idxF_some hi
    rw [write_some h hi hf]
    by_cases hg : (usedF l : Int) + b.length > cap
    · left; exact ⟨hg, if_pos hg⟩
    · right; rw [if_neg hg]; exact ⟨hg, rfl⟩
theorem may_small {d : Dk} (h : mayD d) : usedF d.f ≤ 65536 ∧ d.f.length ≤ 12 := by
  have h1 := h.2.2.2.2
  have h2 := h.2.2.1
  have h3 := h.2.2.2.1
  omega
theorem usedF_mem : ∀ {l : List Fl} {f : Fl}, f ∈ l → f.data.length ≤ usedF l
  | e :: l, f, h => by
    rcases List.mem_cons.1 h with rfl | h
    · simp only [usedF]; omega
    · have := usedF_mem h
      simp only [usedF]
      omega
theorem may_smallF {d : Dk} (h : mayD d) : smallF d.f := fun f hf => by have := usedF_mem hf; have := may_small h; omega
end Go.Proofs.Ytahiigcofgnncaa.H

/-! Layer 6: plain laws of what is written, synced, crashed, cut. -/
namespace Go.Proofs.Ytahiigcofgnncaa.H
open Go.RowKit Moor Go.Proofs.YtahiigcofgnncaaW.PrintWords Go.Proofs.YtahiigcofgnncaaW.PrintLast Go.Proofs.YtahiigcofgnncaaW.PrintMore
set_option linter.unusedVariables false
set_option linter.unusedSimpArgs false

theorem idxF_set (no : Int) : ∀ (l : List Fl) (i : Nat) (f g : Fl), l[i]? = some f → g.no = f.no → idxF no (l.set i g) = idxF no l
  | [], i, f, g, h, _ => by simp at h
  | e :: l, 0, f, g, h, hn => by
    cases h
    show (if g.no = no then some 0 else (idxF no l).map (· + 1)) = (if e.no = no then some 0 else (idxF no l).map (· + 1))
    rw [hn]
  | e :: l, i + 1, f, g, h, hn => by
    show (if e.no = no then some 0 else (idxF no (l.set i g)).map (· + 1)) = (if e.no = no then some 0 else (idxF no l).map (· + 1))
    rw [idxF_set no l i f g (by simpa using h) hn]
theorem atR_err {cap : Int} {l : List Fl} {no : Int} {g : Nat → List Fl × Int} (h : (atR cap l no g).2 ≠ 0) : (atR cap l no g).1 = ⟨cap, l⟩ := by
  by_cases hm : mayD ⟨cap, l⟩
  · cases hi : idxF no l with
    | none => rw [atR_none hm hi]
    | some i =>
      rw [atR_some hm hi] at h ⊢
      split at h
      · exact absurd rfl h
      · rename_i h2
        rw [if_neg h2]
  · rw [atR_no hm]
theorem atR_zero {cap : Int} {l : List Fl} {no : Int} {g : Nat → List Fl × Int} (h : (atR cap l no g).2 = 0) : mayD ⟨cap, l⟩ ∧ ∃ i f, idxF no l = some i ∧ l[i]? = some f ∧ f.no = no ∧ (g i).2 = 0 ∧ atR cap l no g = (⟨cap, (g i).1⟩, 0) := by
  by_cases hm : mayD ⟨cap, l⟩
  · refine ⟨hm, ?_⟩
    cases hi : idxF no l with
    | none => rw [atR_none hm hi] at h; exact absurd h (show ¬ (5 : Int) = 0 by decide)
    | some i =>
      obtain ⟨f, hf, hn⟩ := idxF_some hi
      rw [atR_some hm hi] at h ⊢
      split at h
      · rename_i h2
        exact ⟨i, f, rfl, hf, hn, h2, if_pos h2⟩
      · rename_i h2
        exact absurd h h2
  · rw [atR_no hm] at h
    exact absurd h (show ¬ (1 : Int) = 0 by decide)
theorem cut_some {cap : Int} {l : List Fl} {no n : Int} {i : Nat} {f : Fl} (h : mayD ⟨cap, l⟩) (hi : idxF no l = some i) (hf : l[i]? = some f) : cutD ⟨cap, l⟩ no n = if n < 0 ∨ n > (f.data.length : Int) then (⟨cap, l⟩, 1) else (⟨cap, l.set i ⟨f.no, f.data.take n.toNat, n⟩⟩, 0) := by
  rw [cutD_atR, atR_some h hi]
  unfold cutF
  rw [getD_of hf]
  by_cases hg : n < 0 ∨ n > (f.data.length : Int)
  · rw [if_pos hg, if_pos hg, if_neg (show ¬ (1 : Int) = 0 by decide)]
  · rw [if_neg hg, if_neg hg, if_pos rfl]
theorem sync_some {cap : Int} {l : List Fl} {no : Int} {i : Nat} {f : Fl} (h : mayD ⟨cap, l⟩) (hi : idxF no l = some i) (hf : l[i]? = some f) : syncD ⟨cap, l⟩ no = (⟨cap, l.set i ⟨f.no, f.data, (f.data.length : Int)⟩⟩, 0) := by
  rw [syncD_atR, atR_some h hi]
  unfold syncF
  rw [getD_of hf, if_pos rfl]
/-- A file that is sure stays so through a crash. -/
theorem crash_stays {l : List Fl} {q : Int} (hr : risF q l) (p : List Int) {i : Nat} {f : Fl} (hf : l[i]? = some f) (hs : f.sure = (f.data.length : Int)) : ∃ g, (crashL l p)[i]? = some g ∧ g.data = f.data := by
  obtain ⟨g, h1, h2⟩ := crashL_at l p q hr i f hf
  refine ⟨g, h1, ?_⟩
  have h3 := h2.2.2.1
  have h4 := h2.2.2.2.1
  apply List.ext_getElem?
  intro k
  rcases Nat.lt_or_ge k f.data.length with hk | hk
  · exact h2.2.2.2.2.2.2 k (by omega)
  · rw [List.getElem?_eq_none (by omega), List.getElem?_eq_none hk]
structure WritesOk (cap : Int) (l : List Fl) (no : Int) (b : List Int) (i : Nat) (f : Fl) : Prop where
  may : mayD ⟨cap, l⟩
  find : findD ⟨cap, l⟩ no = (i : Int)
  at_ : l[i]? = some f
  lt : i < l.length
  write : writeD ⟨cap, l⟩ no b = (⟨cap, l.set i ⟨f.no, f.data ++ b, f.sure⟩⟩, 0)
  may1 : mayD ⟨cap, l.set i ⟨f.no, f.data ++ b, f.sure⟩⟩
  used : usedF (l.set i ⟨f.no, f.data ++ b, f.sure⟩) = usedF l + b.length
  sync : syncD ⟨cap, l.set i ⟨f.no, f.data ++ b, f.sure⟩⟩ no = (⟨cap, l.set i ⟨f.no, f.data ++ b, ((f.data ++ b).length : Int)⟩⟩, 0)
  may2 : mayD ⟨cap, l.set i ⟨f.no, f.data ++ b, ((f.data ++ b).length : Int)⟩⟩
  cut : ∀ n, cutD ⟨cap, l.set i ⟨f.no, f.data ++ b, ((f.data ++ b).length : Int)⟩⟩ no n = if n < 0 ∨ n > ((f.data ++ b).length : Int) then (⟨cap, l.set i ⟨f.no, f.data ++ b, ((f.data ++ b).length : Int)⟩⟩, 1) else (⟨cap, l.set i ⟨f.no, (f.data ++ b).take n.toNat, n⟩⟩, 0)
  crash : ∀ p, ∃ g, (crashL (l.set i ⟨f.no, f.data ++ b, ((f.data ++ b).length : Int)⟩) p)[i]? = some g ∧ g.data = f.data ++ b
theorem writes_ok {cap : Int} {l : List Fl} {no : Int} {b : List Int} (h : (writeD ⟨cap, l⟩ no b).2 = 0) : ∃ i f, WritesOk cap l no b i f := by
  rw [writeD_atR] at h
  obtain ⟨hm, i, f, hi, hf, hn, hg, -⟩ := atR_zero h
  have hw := write_some (b := b) hm hi hf
  rw [writeD_atR] at hw
  have hng : ¬ ((usedF l : Int) + b.length > cap) := fun e => by
    rw [if_pos e] at hw
    rw [hw] at h
    exact absurd h (show ¬ (9 : Int) = 0 by decide)
  rw [if_neg hng] at hw
  have hlt : i < l.length := (List.getElem?_eq_some_iff.1 hf).1
  have hs := risF_sure l 0 hm.1 i hlt
  have hfi : l[i] = f := by
    have := List.getElem?_eq_getElem hlt
    rw [hf] at this
    injection this with this
    exact this.symm
  rw [hfi] at hs
  have hm1 : mayD ⟨cap, l.set i ⟨f.no, f.data ++ b, f.sure⟩⟩ := may_set hm hf rfl hs.1 (by simp; omega) (by simp; omega)
  have hm2 : mayD ⟨cap, l.set i ⟨f.no, f.data ++ b, ((f.data ++ b).length : Int)⟩⟩ := may_set hm hf rfl (by simp; omega) (Int.le_refl _) (by simp; omega)
  have h1 : (l.set i ⟨f.no, f.data ++ b, f.sure⟩)[i]? = some ⟨f.no, f.data ++ b, f.sure⟩ := List.getElem?_set_self hlt
  have h2 : (l.set i ⟨f.no, f.data ++ b, ((f.data ++ b).length : Int)⟩)[i]? = some ⟨f.no, f.data ++ b, ((f.data ++ b).length : Int)⟩ := List.getElem?_set_self hlt
  have i1 : idxF no (l.set i ⟨f.no, f.data ++ b, f.sure⟩) = some i := (idxF_set no l i f ⟨f.no, f.data ++ b, f.sure⟩ hf rfl).trans hi
  have i2 : idxF no (l.set i ⟨f.no, f.data ++ b, ((f.data ++ b).length : Int)⟩) = some i := (idxF_set no l i f ⟨f.no, f.data ++ b, ((f.data ++ b).length : Int)⟩ hf rfl).trans hi
  refine ⟨i, f, hm, ?_, hf, hlt, by rw [writeD_atR]; exact hw, hm1, ?_, ?_, hm2, fun n => ?_, fun p => ?_⟩
  · rw [findD_idx hm, hi]
  · have := usedF_set l i f ⟨f.no, f.data ++ b, f.sure⟩ hf
    simp only [List.length_append] at this
    omega
  · rw [sync_some hm1 i1 h1, List.set_set]
  · rw [cut_some hm2 i2 h2, List.set_set]
  · exact crash_stays hm2.1 p h2 rfl
end Go.Proofs.Ytahiigcofgnncaa.H

/-! Layer 6: plain laws of files that are made, and dropped. -/
namespace Go.Proofs.Ytahiigcofgnncaa.H
open Go.RowKit Moor Go.Proofs.YtahiigcofgnncaaW.PrintWords Go.Proofs.YtahiigcofgnncaaW.PrintLast Go.Proofs.YtahiigcofgnncaaW.PrintMore
set_option linter.unusedVariables false
set_option linter.unusedSimpArgs false

theorem risF_mem {l : List Fl} {q : Int} (h : risF q l) {f : Fl} (hf : f ∈ l) : q < f.no := by
  obtain ⟨i, hi⟩ := List.mem_iff_getElem?.1 hf
  obtain ⟨hl, rfl⟩ := List.getElem?_eq_some_iff.1 hi
  exact risF_gt l q h i hl
theorem idxF_none {no : Int} : ∀ {l : List Fl}, idxF no l = none → ∀ f ∈ l, f.no ≠ no
  | [], _, f, hf => by cases hf
  | e :: l, h, f, hf => by
    have h' : (if e.no = no then some 0 else (idxF no l).map (· + 1)) = none := h
    split at h'
    · cases h'
    · rename_i hn
      rcases List.mem_cons.1 hf with rfl | hf
      · exact hn
      · refine idxF_none ?_ f hf
        cases hj : idxF no l with
        | none => rfl
        | some j => rw [hj] at h'; cases h'
theorem idxF_none_of {no : Int} : ∀ {l : List Fl}, (∀ f ∈ l, f.no ≠ no) → idxF no l = none
  | [], _ => rfl
  | e :: l, h => by
    show (if e.no = no then some 0 else (idxF no l).map (· + 1)) = none
    rw [if_neg (h e (List.mem_cons_self ..)), idxF_none_of (fun f hf => h f (List.mem_cons_of_mem _ hf))]
    rfl
/-- A file of a number is there. -/
def HasF (no : Int) (l : List Fl) : Prop := ∃ f ∈ l, f.no = no
theorem hasF_idx {no : Int} {l : List Fl} : HasF no l ↔ ∃ i, idxF no l = some i := by
  constructor
  · rintro ⟨f, hf, hn⟩
    cases h : idxF no l with
    | none => exact absurd hn (idxF_none h f hf)
    | some i => exact ⟨i, rfl⟩
  · rintro ⟨i, hi⟩
    obtain ⟨f, hf, hn⟩ := idxF_some hi
    exact ⟨f, List.mem_of_getElem? hf, hn⟩
theorem findD_has {cap : Int} {l : List Fl} {no : Int} (h : mayD ⟨cap, l⟩) : 0 ≤ findD ⟨cap, l⟩ no ↔ HasF no l := by
  rw [findD_idx h, hasF_idx]
  cases idxF no l with
  | none => exact ⟨fun h => absurd h (by decide), fun ⟨i, h⟩ => by cases h⟩
  | some i => exact ⟨fun _ => ⟨i, rfl⟩, fun _ => by show (0 : Int) ≤ (i : Int); omega⟩
def makeL (no : Int) (l : List Fl) : List Fl := l.take (placeF no l) ++ ⟨no, [], 0⟩ :: l.drop (placeF no l)
theorem placeF_cons_lt {no : Int} {f : Fl} {l : List Fl} (h : f.no < no) : placeF no (f :: l) = placeF no l + 1 := by show (if f.no < no then placeF no l + 1 else 0) = _; rw [if_pos h]
theorem placeF_cons_ge {no : Int} {f : Fl} {l : List Fl} (h : ¬ f.no < no) : placeF no (f :: l) = 0 := by show (if f.no < no then placeF no l + 1 else 0) = _; rw [if_neg h]
theorem filter_lt (no : Int) : ∀ (l : List Fl) (q : Int), risF q l → l.filter (fun f => decide (f.no < no)) = l.take (placeF no l)
  | [], _, _ => rfl
  | f :: l, q, hr => by
    by_cases h : f.no < no
    · rw [placeF_cons_lt h, List.take_succ_cons, List.filter_cons_of_pos (by simpa using h), filter_lt no l f.no hr.2.2.2.2]
    · rw [placeF_cons_ge h, List.take_zero]
      apply List.filter_eq_nil_iff.2
      intro g hg
      rcases List.mem_cons.1 hg with rfl | hg
      · simpa using h
      · have := risF_mem hr.2.2.2.2 hg
        simp
        omega
theorem filter_gt (no : Int) : ∀ (l : List Fl) (q : Int), risF q l → idxF no l = none → l.filter (fun f => decide (f.no > no)) = l.drop (placeF no l)
  | [], _, _, _ => rfl
  | f :: l, q, hr, hi => by
    have hne := idxF_none hi
    have hf := hne f (List.mem_cons_self ..)
    by_cases h : f.no < no
    · rw [placeF_cons_lt h, List.drop_succ_cons, List.filter_cons_of_neg (by simp; omega)]
      exact filter_gt no l f.no hr.2.2.2.2 (idxF_none_of (fun g hg => hne g (List.mem_cons_of_mem _ hg)))
    · rw [placeF_cons_ge h, List.drop_zero]
      apply List.filter_eq_self.2
      intro g hg
      rcases List.mem_cons.1 hg with rfl | hg
      · simp
        omega
      · have := risF_mem hr.2.2.2.2 hg
        simp
        omega
/-- Make, in parts. -/
theorem make_no {d : Dk} {no : Int} (h : ¬ mayD d ∨ no < 1 ∨ no > 1073741824) : makeD d no = (d, 1) := by unfold makeD; rw [if_pos h]
theorem make_there {d : Dk} {no : Int} (h : ¬ (¬ mayD d ∨ no < 1 ∨ no > 1073741824)) (hf : findD d no ≠ -1) : makeD d no = (d, 11) := by unfold makeD; rw [if_neg h, if_pos hf]
theorem make_full {d : Dk} {no : Int} (h : ¬ (¬ mayD d ∨ no < 1 ∨ no > 1073741824)) (hf : ¬ findD d no ≠ -1) (hl : d.f.length = 12) : makeD d no = (d, 9) := by unfold makeD; rw [if_neg h, if_neg hf, if_pos hl]
theorem make_ok {cap : Int} {l : List Fl} {no : Int} (h : ¬ (¬ mayD ⟨cap, l⟩ ∨ no < 1 ∨ no > 1073741824)) (hf : ¬ findD ⟨cap, l⟩ no ≠ -1) (hl : ¬ l.length = 12) : makeD ⟨cap, l⟩ no = (⟨cap, makeL no l⟩, 0) ∧ idxF no l = none := by
  have hm : mayD ⟨cap, l⟩ := Classical.not_not.1 (fun e => h (.inl e))
  have hi : idxF no l = none := by
    cases hi : idxF no l with
    | none => rfl
    | some i =>
      rw [findD_idx hm, hi] at hf
      exact absurd (show ((i : Int) ≠ -1) by omega) hf
  refine ⟨?_, hi⟩
  unfold makeD
  rw [if_neg h, if_neg hf, if_neg hl]
  show ((⟨cap, l.filter (fun f => decide (f.no < no)) ++ ⟨no, [], 0⟩ :: l.filter (fun f => decide (f.no > no))⟩ : Dk), (0 : Int)) = _
  rw [filter_lt no l 0 hm.1, filter_gt no l 0 hm.1 hi]
  rfl
theorem makeL_len (no : Int) (l : List Fl) : (makeL no l).length = l.length + 1 := by
  unfold makeL
  have := placeF_le no l
  simp
  omega
theorem usedF_append : ∀ (a b : List Fl), usedF (a ++ b) = usedF a + usedF b
  | [], b => by simp [usedF]
  | f :: a, b => by rw [List.cons_append]; simp only [usedF]; rw [usedF_append a b]; omega
theorem makeL_used (no : Int) (l : List Fl) : usedF (makeL no l) = usedF l := by
  unfold makeL
  rw [usedF_append]
  have := usedF_append (l.take (placeF no l)) (l.drop (placeF no l))
  rw [List.take_append_drop] at this
  simp only [usedF, List.length_nil]
  omega
theorem makeL_ris (no : Int) : ∀ (l : List Fl) (q : Int), risF q l → q < no → no ≤ 1073741824 → idxF no l = none → risF q (makeL no l)
  | [], q, _, h1, h2, _ => ⟨h1, h2, Int.le_refl _, Int.le_refl _, trivial⟩
  | f :: l, q, hr, h1, h2, hi => by
    have hne := idxF_none hi
    have hf := hne f (List.mem_cons_self ..)
    unfold makeL
    by_cases h : f.no < no
    · rw [placeF_cons_lt h, List.take_succ_cons, List.drop_succ_cons]
      exact ⟨hr.1, hr.2.1, hr.2.2.1, hr.2.2.2.1, makeL_ris no l f.no hr.2.2.2.2 h h2 (idxF_none_of (fun g hg => hne g (List.mem_cons_of_mem _ hg)))⟩
    · rw [placeF_cons_ge h, List.take_zero, List.drop_zero]
      exact ⟨h1, h2, Int.le_refl _, Int.le_refl _, by show no < f.no; omega, hr.2.1, hr.2.2.1, hr.2.2.2.1, hr.2.2.2.2⟩
theorem may_makeL {cap : Int} {l : List Fl} {no : Int} (h : mayD ⟨cap, l⟩) (h0 : 0 < no) (h1 : no ≤ 1073741824) (hi : idxF no l = none) (hl : ¬ l.length = 12) : mayD ⟨cap, makeL no l⟩ := by
  have hl2 : l.length ≤ 12 := h.2.2.2.1
  exact ⟨makeL_ris no l 0 h.1 h0 h1 hi, h.2.1, h.2.2.1, by show (makeL no l).length ≤ 12; rw [makeL_len]; omega, by show (usedF (makeL no l) : Int) ≤ cap; rw [makeL_used]; exact h.2.2.2.2⟩
theorem makeL_mem {no : Int} {l : List Fl} {f : Fl} : f ∈ makeL no l ↔ f = ⟨no, [], 0⟩ ∨ f ∈ l := by
  unfold makeL
  rw [List.mem_append, List.mem_cons]
  constructor
  · rintro (h | h | h)
    · exact .inr (List.mem_of_mem_take h)
    · exact .inl h
    · exact .inr (List.mem_of_mem_drop h)
  · rintro (h | h)
    · exact .inr (.inl h)
    · rw [← List.take_append_drop (placeF no l) l, List.mem_append] at h
      rcases h with h | h
      · exact .inl h
      · exact .inr (.inr h)
theorem makeL_has {no other : Int} {l : List Fl} (h : other ≠ no) : HasF other (makeL no l) ↔ HasF other l := by
  constructor
  · rintro ⟨f, hf, hn⟩
    rcases makeL_mem.1 hf with rfl | hf
    · exact absurd hn.symm h
    · exact ⟨f, hf, hn⟩
  · rintro ⟨f, hf, hn⟩
    exact ⟨f, makeL_mem.2 (.inr hf), hn⟩
theorem makeL_get (no : Int) (l : List Fl) : (makeL no l)[placeF no l]? = some ⟨no, [], 0⟩ := by
  unfold makeL
  have := placeF_le no l
  rw [List.getElem?_append_right (by rw [List.length_take]; omega), List.length_take, show placeF no l - min (placeF no l) l.length = 0 by omega]
  rfl
theorem risF_erase : ∀ (l : List Fl) (q : Int) (i : Nat), risF q l → risF q (l.eraseIdx i)
  | [], q, i, _ => by simp [risF]
  | f :: l, q, 0, hr => by
    show risF q l
    cases l with
    | nil => trivial
    | cons g l =>
      have h2 := hr.2.2.2.2
      exact ⟨Int.lt_trans hr.1 h2.1, h2.2⟩
  | f :: l, q, i + 1, hr => ⟨hr.1, hr.2.1, hr.2.2.1, hr.2.2.2.1, risF_erase l f.no i hr.2.2.2.2⟩
theorem usedF_erase : ∀ (l : List Fl) (i : Nat), usedF (l.eraseIdx i) ≤ usedF l
  | [], i => by simp
  | f :: l, 0 => by show usedF l ≤ usedF (f :: l); simp only [usedF]; omega
  | f :: l, i + 1 => by
    have := usedF_erase l i
    show usedF (f :: l.eraseIdx i) ≤ usedF (f :: l)
    simp only [usedF]
    omega
theorem may_erase {cap : Int} {l : List Fl} (i : Nat) (h : mayD ⟨cap, l⟩) : mayD ⟨cap, l.eraseIdx i⟩ := by
  have h1 := usedF_erase l i
  have h2 : (usedF l : Int) ≤ cap := h.2.2.2.2
  have h3 := List.length_eraseIdx_le l i
  have h4 : l.length ≤ 12 := h.2.2.2.1
  exact ⟨risF_erase l 0 i h.1, h.2.1, h.2.2.1, by show (l.eraseIdx i).length ≤ 12; omega, by show (usedF (l.eraseIdx i) : Int) ≤ cap; omega⟩
/-- One file fewer: the others are there. -/
theorem erase_has : ∀ {l : List Fl} {q : Int} {i : Nat} {f : Fl}, risF q l → l[i]? = some f → ∀ other, HasF other (l.eraseIdx i) ↔ HasF other l ∧ other ≠ f.no
  | [], q, i, f, _, h, _ => by simp at h
  | e :: l, q, 0, f, hr, h, other => by
    cases h
    show HasF other l ↔ _
    constructor
    · rintro ⟨g, hg, hn⟩
      exact ⟨⟨g, List.mem_cons_of_mem _ hg, hn⟩, by have := risF_mem hr.2.2.2.2 hg; omega⟩
    · rintro ⟨⟨g, hg, hn⟩, hne⟩
      rcases List.mem_cons.1 hg with rfl | hg
      · exact absurd hn.symm hne
      · exact ⟨g, hg, hn⟩
  | e :: l, q, i + 1, f, hr, h, other => by
    have h' : l[i]? = some f := by simpa using h
    have ih := erase_has (q := e.no) hr.2.2.2.2 h' other
    have hgt := risF_mem hr.2.2.2.2 (List.mem_of_getElem? h')
    show HasF other (e :: l.eraseIdx i) ↔ _
    constructor
    · rintro ⟨g, hg, hn⟩
      rcases List.mem_cons.1 hg with rfl | hg
      · exact ⟨⟨_, List.mem_cons_self .., hn⟩, by omega⟩
      · obtain ⟨⟨g2, h1, h2⟩, h3⟩ := ih.1 ⟨g, hg, hn⟩
        exact ⟨⟨g2, List.mem_cons_of_mem _ h1, h2⟩, h3⟩
    · rintro ⟨⟨g, hg, hn⟩, hne⟩
      rcases List.mem_cons.1 hg with rfl | hg
      · exact ⟨_, List.mem_cons_self .., hn⟩
      · obtain ⟨g2, h1, h2⟩ := ih.2 ⟨⟨g, hg, hn⟩, hne⟩
        exact ⟨g2, List.mem_cons_of_mem _ h1, h2⟩
end Go.Proofs.Ytahiigcofgnncaa.H
