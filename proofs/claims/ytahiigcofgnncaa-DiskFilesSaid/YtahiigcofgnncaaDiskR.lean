import Derived.Test.YtahiigcofgnncaaDiskQ
/-! Layer 6: plain laws of what is written, synced, crashed, cut. -/
namespace Go.Proofs.Ytahiigcofgnncaa.H
open Go.RowKit Moor Go.Proofs.YtahiigcofgnncaaW.PrintWords Go.Proofs.YtahiigcofgnncaaW.PrintLast Go.Proofs.YtahiigcofgnncaaW.PrintMore
set_option linter.unusedVariables false
set_option linter.unusedSimpArgs false

theorem idxF_set (no : Int) : ∀ (l : List Fl) (i : Nat) (f g : Fl), l[i]? = some f → g.no = f.no → idxF no (l.set i g) = idxF no l
  | [], i, f, g, h, _ => by simp at h
  | e :: l, 0, f, g, h, hn => by
    cases h
    show (if g.no = no then some 0 else (idxF no l).map (· + 1)) = (if e.no = no then some 0 else (idxF no l).map (· + 1))
    rw [hn]
  | e :: l, i + 1, f, g, h, hn => by
    show (if e.no = no then some 0 else (idxF no (l.set i g)).map (· + 1)) = (if e.no = no then some 0 else (idxF no l).map (· + 1))
    rw [idxF_set no l i f g (by simpa using h) hn]
theorem atR_err {cap : Int} {l : List Fl} {no : Int} {g : Nat → List Fl × Int} (h : (atR cap l no g).2 ≠ 0) : (atR cap l no g).1 = ⟨cap, l⟩ := by
  by_cases hm : mayD ⟨cap, l⟩
  · cases hi : idxF no l with
    | none => rw [atR_none hm hi]
    | some i =>
      rw [atR_some hm hi] at h ⊢
      split at h
      · exact absurd rfl h
      · rename_i h2
        rw [if_neg h2]
  · rw [atR_no hm]
theorem atR_zero {cap : Int} {l : List Fl} {no : Int} {g : Nat → List Fl × Int} (h : (atR cap l no g).2 = 0) : mayD ⟨cap, l⟩ ∧ ∃ i f, idxF no l = some i ∧ l[i]? = some f ∧ f.no = no ∧ (g i).2 = 0 ∧ atR cap l no g = (⟨cap, (g i).1⟩, 0) := by
  by_cases hm : mayD ⟨cap, l⟩
  · refine ⟨hm, ?_⟩
    cases hi : idxF no l with
    | none => rw [atR_none hm hi] at h; exact absurd h (show ¬ (5 : Int) = 0 by decide)
    | some i =>
      obtain ⟨f, hf, hn⟩ := idxF_some hi
      rw [atR_some hm hi] at h ⊢
      split at h
      · rename_i h2
        exact ⟨i, f, rfl, hf, hn, h2, if_pos h2⟩
      · rename_i h2
        exact absurd h h2
  · rw [atR_no hm] at h
    exact absurd h (show ¬ (1 : Int) = 0 by decide)
theorem cut_some {cap : Int} {l : List Fl} {no n : Int} {i : Nat} {f : Fl} (h : mayD ⟨cap, l⟩) (hi : idxF no l = some i) (hf : l[i]? = some f) : cutD ⟨cap, l⟩ no n = if n < 0 ∨ n > (f.data.length : Int) then (⟨cap, l⟩, 1) else (⟨cap, l.set i ⟨f.no, f.data.take n.toNat, n⟩⟩, 0) := by
  rw [cutD_atR, atR_some h hi]
  unfold cutF
  rw [getD_of hf]
  by_cases hg : n < 0 ∨ n > (f.data.length : Int)
  · rw [if_pos hg, if_pos hg, if_neg (show ¬ (1 : Int) = 0 by decide)]
  · rw [if_neg hg, if_neg hg, if_pos rfl]
theorem sync_some {cap : Int} {l : List Fl} {no : Int} {i : Nat} {f : Fl} (h : mayD ⟨cap, l⟩) (hi : idxF no l = some i) (hf : l[i]? = some f) : syncD ⟨cap, l⟩ no = (⟨cap, l.set i ⟨f.no, f.data, (f.data.length : Int)⟩⟩, 0) := by
  rw [syncD_atR, atR_some h hi]
  unfold syncF
  rw [getD_of hf, if_pos rfl]
/-- A file that is sure stays so through a crash. -/
theorem crash_stays {l : List Fl} {q : Int} (hr : risF q l) (p : List Int) {i : Nat} {f : Fl} (hf : l[i]? = some f) (hs : f.sure = (f.data.length : Int)) : ∃ g, (crashL l p)[i]? = some g ∧ g.data = f.data := by
  obtain ⟨g, h1, h2⟩ := crashL_at l p q hr i f hf
  refine ⟨g, h1, ?_⟩
  have h3 := h2.2.2.1
  have h4 := h2.2.2.2.1
  apply List.ext_getElem?
  intro k
  rcases Nat.lt_or_ge k f.data.length with hk | hk
  · exact h2.2.2.2.2.2.2 k (by omega)
  · rw [List.getElem?_eq_none (by omega), List.getElem?_eq_none hk]
structure WritesOk (cap : Int) (l : List Fl) (no : Int) (b : List Int) (i : Nat) (f : Fl) : Prop where
  may : mayD ⟨cap, l⟩
  find : findD ⟨cap, l⟩ no = (i : Int)
  at_ : l[i]? = some f
  lt : i < l.length
  write : writeD ⟨cap, l⟩ no b = (⟨cap, l.set i ⟨f.no, f.data ++ b, f.sure⟩⟩, 0)
  may1 : mayD ⟨cap, l.set i ⟨f.no, f.data ++ b, f.sure⟩⟩
  used : usedF (l.set i ⟨f.no, f.data ++ b, f.sure⟩) = usedF l + b.length
  sync : syncD ⟨cap, l.set i ⟨f.no, f.data ++ b, f.sure⟩⟩ no = (⟨cap, l.set i ⟨f.no, f.data ++ b, ((f.data ++ b).length : Int)⟩⟩, 0)
  may2 : mayD ⟨cap, l.set i ⟨f.no, f.data ++ b, ((f.data ++ b).length : Int)⟩⟩
  cut : ∀ n, cutD ⟨cap, l.set i ⟨f.no, f.data ++ b, ((f.data ++ b).length : Int)⟩⟩ no n = if n < 0 ∨ n > ((f.data ++ b).length : Int) then (⟨cap, l.set i ⟨f.no, f.data ++ b, ((f.data ++ b).length : Int)⟩⟩, 1) else (⟨cap, l.set i ⟨f.no, (f.data ++ b).take n.toNat, n⟩⟩, 0)
  crash : ∀ p, ∃ g, (crashL (l.set i ⟨f.no, f.data ++ b, ((f.data ++ b).length : Int)⟩) p)[i]? = some g ∧ g.data = f.data ++ b
theorem writes_ok {cap : Int} {l : List Fl} {no : Int} {b : List Int} (h : (writeD ⟨cap, l⟩ no b).2 = 0) : ∃ i f, WritesOk cap l no b i f := by
  rw [writeD_atR] at h
  obtain ⟨hm, i, f, hi, hf, hn, hg, -⟩ := atR_zero h
  have hw := write_some (b := b) hm hi hf
  rw [writeD_atR] at hw
  have hng : ¬ ((usedF l : Int) + b.length > cap) := fun e => by
    rw [if_pos e] at hw
    rw [hw] at h
    exact absurd h (show ¬ (9 : Int) = 0 by decide)
  rw [if_neg hng] at hw
  have hlt : i < l.length := (List.getElem?_eq_some_iff.1 hf).1
  have hs := risF_sure l 0 hm.1 i hlt
  have hfi : l[i] = f := by
    have := List.getElem?_eq_getElem hlt
    rw [hf] at this
    injection this with this
    exact this.symm
  rw [hfi] at hs
  have hm1 : mayD ⟨cap, l.set i ⟨f.no, f.data ++ b, f.sure⟩⟩ := may_set hm hf rfl hs.1 (by simp; omega) (by simp; omega)
  have hm2 : mayD ⟨cap, l.set i ⟨f.no, f.data ++ b, ((f.data ++ b).length : Int)⟩⟩ := may_set hm hf rfl (by simp; omega) (Int.le_refl _) (by simp; omega)
  have h1 : (l.set i ⟨f.no, f.data ++ b, f.sure⟩)[i]? = some ⟨f.no, f.data ++ b, f.sure⟩ := List.getElem?_set_self hlt
  have h2 : (l.set i ⟨f.no, f.data ++ b, ((f.data ++ b).length : Int)⟩)[i]? = some ⟨f.no, f.data ++ b, ((f.data ++ b).length : Int)⟩ := List.getElem?_set_self hlt
  have i1 : idxF no (l.set i ⟨f.no, f.data ++ b, f.sure⟩) = some i := (idxF_set no l i f ⟨f.no, f.data ++ b, f.sure⟩ hf rfl).trans hi
  have i2 : idxF no (l.set i ⟨f.no, f.data ++ b, ((f.data ++ b).length : Int)⟩) = some i := (idxF_set no l i f ⟨f.no, f.data ++ b, ((f.data ++ b).length : Int)⟩ hf rfl).trans hi
  refine ⟨i, f, hm, ?_, hf, hlt, by rw [writeD_atR]; exact hw, hm1, ?_, ?_, hm2, fun n => ?_, fun p => ?_⟩
  · rw [findD_idx hm, hi]
  · have := usedF_set l i f ⟨f.no, f.data ++ b, f.sure⟩ hf
    simp only [List.length_append] at this
    omega
  · rw [sync_some hm1 i1 h1, List.set_set]
  · rw [cut_some hm2 i2 h2, List.set_set]
  · exact crash_stays hm2.1 p h2 rfl
end Go.Proofs.Ytahiigcofgnncaa.H
