import Derived.Test.YtahiigcofgnncaaDiskO
import Derived.Test.YtahiigcofgnncaaDiskM
/-! Layer 6: plain laws of what is done to a disk. -/
namespace Go.Proofs.Ytahiigcofgnncaa.H
open Go.RowKit Moor Go.Proofs.YtahiigcofgnncaaW.PrintWords Go.Proofs.YtahiigcofgnncaaW.PrintLast Go.Proofs.YtahiigcofgnncaaW.PrintMore
set_option linter.unusedVariables false
set_option linter.unusedSimpArgs false

theorem usedF_set : ∀ (l : List Fl) (i : Nat) (f g : Fl), l[i]? = some f → usedF (l.set i g) + f.data.length = usedF l + g.data.length
  | [], i, f, g, h => by simp at h
  | e :: l, 0, f, g, h => by cases h; simp only [List.set_cons_zero, usedF]; omega
  | e :: l, i + 1, f, g, h => by
    have := usedF_set l i f g (by simpa using h)
    simp only [List.set_cons_succ, usedF]
    omega
theorem risF_set : ∀ (l : List Fl) (p : Int) (i : Nat) (f g : Fl), risF p l → l[i]? = some f → g.no = f.no → 0 ≤ g.sure → g.sure ≤ g.data.length → risF p (l.set i g)
  | [], p, i, f, g, hr, h, _, _, _ => by simp at h
  | e :: l, p, 0, f, g, hr, h, hn, h0, h1 => by
    cases h
    exact ⟨by rw [hn]; exact hr.1, by rw [hn]; exact hr.2.1, h0, h1, by rw [hn]; exact hr.2.2.2.2⟩
  | e :: l, p, i + 1, f, g, hr, h, hn, h0, h1 => ⟨hr.1, hr.2.1, hr.2.2.1, hr.2.2.2.1, risF_set l e.no i f g hr.2.2.2.2 (by simpa using h) hn h0 h1⟩
theorem may_set {cap : Int} {l : List Fl} {i : Nat} {f g : Fl} (h : mayD ⟨cap, l⟩) (hi : l[i]? = some f) (hn : g.no = f.no) (h0 : 0 ≤ g.sure) (h1 : g.sure ≤ g.data.length) (hu : (usedF l : Int) + g.data.length - f.data.length ≤ cap) : mayD ⟨cap, l.set i g⟩ := by
  have := usedF_set l i f g hi
  exact ⟨risF_set l 0 i f g h.1 hi hn h0 h1, h.2.1, h.2.2.1, by show (l.set i g).length ≤ 12; rw [List.length_set]; exact h.2.2.2.1, by show (usedF (l.set i g) : Int) ≤ cap; omega⟩
theorem atR_some {cap : Int} {l : List Fl} {no : Int} {g : Nat → List Fl × Int} {i : Nat} (h : mayD ⟨cap, l⟩) (hi : idxF no l = some i) : atR cap l no g = if (g i).2 = 0 then (⟨cap, (g i).1⟩, 0) else (⟨cap, l⟩, (g i).2) := by
  unfold atR
  rw [if_pos h, hi]
theorem atR_none {cap : Int} {l : List Fl} {no : Int} {g : Nat → List Fl × Int} (h : mayD ⟨cap, l⟩) (hi : idxF no l = none) : atR cap l no g = (⟨cap, l⟩, 5) := by
  unfold atR
  rw [if_pos h, hi]
theorem atR_no {cap : Int} {l : List Fl} {no : Int} {g : Nat → List Fl × Int} (h : ¬ mayD ⟨cap, l⟩) : atR cap l no g = (⟨cap, l⟩, 1) := by
  unfold atR
  rw [if_neg h]
theorem idxF_some {no : Int} : ∀ {l : List Fl} {i : Nat}, idxF no l = some i → ∃ f, l[i]? = some f ∧ f.no = no
  | [], i, h => by cases h
  | f :: l, i, h => by
    have h' : (if f.no = no then some 0 else (idxF no l).map (· + 1)) = some i := h
    split at h'
    · rename_i hn
      cases h'
      exact ⟨f, rfl, hn⟩
    · cases hj : idxF no l with
      | none => rw [hj] at h'; cases h'
      | some j =>
        rw [hj] at h'
        cases h'
        obtain ⟨e, h1, h2⟩ := idxF_some hj
        exact ⟨e, by simpa using h1, h2⟩
theorem getD_of {l : List Fl} {i : Nat} {f : Fl} (h : l[i]? = some f) : l.getD i fl0 = f := by rw [List.getD_eq_getElem?_getD, h]; rfl
/-- Write: what it does to a file that is there. -/
theorem write_some {cap : Int} {l : List Fl} {no : Int} {b : List Int} {i : Nat} {f : Fl} (h : mayD ⟨cap, l⟩) (hi : idxF no l = some i) (hf : l[i]? = some f) : writeD ⟨cap, l⟩ no b = if (usedF l : Int) + b.length > cap then (⟨cap, l⟩, 9) else (⟨cap, l.set i ⟨f.no, f.data ++ b, f.sure⟩⟩, 0) := by
  rw [writeD_atR, atR_some h hi]
  unfold writeF
  rw [getD_of hf]
  by_cases hg : (usedF l : Int) + b.length > cap
  · rw [if_pos hg, if_pos hg, if_neg (show ¬ (9 : Int) = 0 by decide)]
  · rw [if_neg hg, if_neg hg, if_pos rfl]
theorem may_write {cap : Int} {l : List Fl} (no : Int) (b : List Int) (h : mayD ⟨cap, l⟩) : mayD (writeD ⟨cap, l⟩ no b).1 := by
  cases hi : idxF no l with
  | none => rw [writeD_atR, atR_none h hi]; exact h
  | some i =>
    obtain ⟨f, hf, -⟩ := idxF_some hi
    rw [write_some h hi hf]
    split
    · exact h
    · obtain ⟨hl, rfl⟩ := List.getElem?_eq_some_iff.1 hf
      have hs := risF_sure l 0 h.1 i hl
      exact may_set h hf rfl hs.1 (by simp; omega) (by simp; omega)
theorem room_law {cap : Int} {l : List Fl} {no : Int} (b : List Int) (h : mayD ⟨cap, l⟩) (hf : ¬ findD ⟨cap, l⟩ no < 0) : (usedF l : Int) + b.length > cap ∧ writeD ⟨cap, l⟩ no b = (⟨cap, l⟩, 9) ∨ ¬ (usedF l : Int) + b.length > cap ∧ (writeD ⟨cap, l⟩ no b).2 = 0 := by
  cases hi : idxF no l with
  | none =>
    rw [findD_idx h, hi] at hf
    exact absurd (by decide) hf
  | some i =>
    obtain ⟨f, hf, -⟩ := idxF_some hi
    rw [write_some h hi hf]
    by_cases hg : (usedF l : Int) + b.length > cap
    · left; exact ⟨hg, if_pos hg⟩
    · right; rw [if_neg hg]; exact ⟨hg, rfl⟩
theorem may_small {d : Dk} (h : mayD d) : usedF d.f ≤ 65536 ∧ d.f.length ≤ 12 := by
  have h1 := h.2.2.2.2
  have h2 := h.2.2.1
  have h3 := h.2.2.2.1
  omega
theorem usedF_mem : ∀ {l : List Fl} {f : Fl}, f ∈ l → f.data.length ≤ usedF l
  | e :: l, f, h => by
    rcases List.mem_cons.1 h with rfl | h
    · simp only [usedF]; omega
    · have := usedF_mem h
      simp only [usedF]
      omega
theorem may_smallF {d : Dk} (h : mayD d) : smallF d.f := fun f hf => by have := usedF_mem hf; have := may_small h; omega
end Go.Proofs.Ytahiigcofgnncaa.H
