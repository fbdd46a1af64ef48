import Derived.Test.YtahiigcofgnncaaDiskY
import Derived.Test.YtahiigcofgnncaaDiskU
/-! Layer 6: plain laws of whatever is done to a disk. -/
namespace Go.Proofs.Ytahiigcofgnncaa.H
open Go.RowKit Moor Go.Proofs.YtahiigcofgnncaaW.PrintWords Go.Proofs.YtahiigcofgnncaaW.PrintLast Go.Proofs.YtahiigcofgnncaaW.PrintMore
set_option linter.unusedVariables false
set_option linter.unusedSimpArgs false

/-- What is sure of f is there in g. -/
def SureFG (f g : Fl) : Prop := g.no = f.no ∧ f.sure ≤ g.sure ∧ f.sure ≤ (g.data.length : Int) ∧ g.data.take f.sure.toNat = f.data.take f.sure.toNat
theorem SureFG.refl {f : Fl} (h : f.sure ≤ f.data.length) : SureFG f f := ⟨rfl, Int.le_refl _, h, rfl⟩
theorem CR.sure {f g : Fl} (h : CR f g) (h0 : 0 ≤ f.sure) : SureFG f g := by
  refine ⟨h.1, by have := h.2.1; have := h.2.2.1; omega, h.2.2.1, ?_⟩
  apply List.ext_getElem?
  intro k
  rw [List.getElem?_take, List.getElem?_take]
  split
  · exact h.2.2.2.2.2.2 k (by omega)
  · rfl
/-- What comes of something done to a disk that may be. -/
inductive DoC (cap : Int) (l : List Fl) (o : OpD) : Dk × Int → Prop
  | err (e : Int) (he : e ≠ 0) : DoC cap l o (⟨cap, l⟩, e)
  | make (h0 : 0 < o.no) (h1 : o.no ≤ 1073741824) (hi : idxF o.no l = none) (hl : ¬ l.length = 12) : DoC cap l o (⟨cap, makeL o.no l⟩, 0)
  | set (i : Nat) (f g : Fl) (hf : l[i]? = some f) (hn : f.no = o.no) (hg : g.no = f.no) (h0 : 0 ≤ g.sure) (h1 : g.sure ≤ g.data.length) (hu : (usedF l : Int) + g.data.length - f.data.length ≤ cap) (hs : o.kind = 3 ∨ SureFG f g) : DoC cap l o (⟨cap, l.set i g⟩, 0)
  | erase (i : Nat) (f : Fl) (hf : l[i]? = some f) (hn : f.no = o.no) (hk : o.kind = 4) : DoC cap l o (⟨cap, l.eraseIdx i⟩, 0)
  | crash (p : List Int) : DoC cap l o (⟨cap, crashL l p⟩, 0)
theorem atR_cases {cap : Int} {l : List Fl} (hm : mayD ⟨cap, l⟩) (no : Int) (g : Nat → List Fl × Int) : (∃ e, e ≠ 0 ∧ atR cap l no g = (⟨cap, l⟩, e)) ∨ ∃ i f, l[i]? = some f ∧ f.no = no ∧ (g i).2 = 0 ∧ atR cap l no g = (⟨cap, (g i).1⟩, 0) := by
  by_cases h : (atR cap l no g).2 = 0
  · obtain ⟨-, i, f, hi, hf, hn, hg, he⟩ := atR_zero h
    exact .inr ⟨i, f, hf, hn, hg, he⟩
  · exact .inl ⟨(atR cap l no g).2, h, by rw [← atR_err h]⟩
theorem sure_at {cap : Int} {l : List Fl} (hm : mayD ⟨cap, l⟩) {i : Nat} {f : Fl} (hf : l[i]? = some f) : 0 ≤ f.sure ∧ f.sure ≤ (f.data.length : Int) := by
  obtain ⟨hl, rfl⟩ := List.getElem?_eq_some_iff.1 hf
  exact risF_sure l 0 hm.1 i hl
theorem doC {cap : Int} {l : List Fl} (hm : mayD ⟨cap, l⟩) (o : OpD) : DoC cap l o (doD ⟨cap, l⟩ o) := by
  obtain ⟨kind, no, n, data, picks⟩ := o
  unfold doD
  dsimp only
  split
  · by_cases h1 : ¬ mayD ⟨cap, l⟩ ∨ no < 1 ∨ no > 1073741824
    · rw [make_no h1]
      exact .err 1 (by decide)
    · by_cases h2 : findD ⟨cap, l⟩ no ≠ -1
      · rw [make_there h1 h2]
        exact .err 11 (by decide)
      · by_cases h3 : l.length = 12
        · rw [make_full h1 h2 h3]
          exact .err 9 (by decide)
        · obtain ⟨e, hi⟩ := make_ok h1 h2 h3
          rw [e]
          refine .make ?_ ?_ hi h3
          · have : ¬ no < 1 := fun e => h1 (.inr (.inl e))
            show 0 < no
            omega
          · have : ¬ no > 1073741824 := fun e => h1 (.inr (.inr e))
            show no ≤ 1073741824
            omega
  · split
    · rw [writeD_atR]
      rcases atR_cases hm no (writeF cap l data) with ⟨e, he, h⟩ | ⟨i, f, hf, hn, hg, h⟩
      · rw [h]
        exact .err e he
      · rw [h]
        obtain ⟨s0, s1⟩ := sure_at hm hf
        unfold writeF at hg ⊢
        rw [getD_of hf] at hg ⊢
        split at hg
        · exact absurd hg (show ¬ (9 : Int) = 0 by decide)
        · rename_i hgt
          rw [if_neg hgt]
          refine .set i f _ hf hn rfl s0 (by simp; omega) (by simp; omega) (.inr ⟨rfl, Int.le_refl _, by simp; omega, ?_⟩)
          show (f.data ++ data).take _ = _
          rw [List.take_append_of_le_length (by omega)]
    · split
      · rw [syncD_atR]
        rcases atR_cases hm no (syncF l) with ⟨e, he, h⟩ | ⟨i, f, hf, hn, hg, h⟩
        · rw [h]
          exact .err e he
        · rw [h]
          obtain ⟨s0, s1⟩ := sure_at hm hf
          unfold syncF
          rw [getD_of hf]
          refine .set i f _ hf hn rfl (by show (0 : Int) ≤ (f.data.length : Int); omega) (Int.le_refl _) ?_ (.inr ⟨rfl, s1, s1, rfl⟩)
          have := hm.2.2.2.2
          show (usedF l : Int) + (f.data.length : Int) - (f.data.length : Int) ≤ cap
          have h9 : (usedF l : Int) ≤ cap := this
          omega
      · split
        · rename_i hk
          rw [cutD_atR]
          rcases atR_cases hm no (cutF l n) with ⟨e, he, h⟩ | ⟨i, f, hf, hn, hg, h⟩
          · rw [h]
            exact .err e he
          · rw [h]
            unfold cutF at hg ⊢
            rw [getD_of hf] at hg ⊢
            split at hg
            · exact absurd hg (show ¬ (1 : Int) = 0 by decide)
            · rename_i hgt
              rw [if_neg hgt]
              have h9 : (usedF l : Int) ≤ cap := hm.2.2.2.2
              refine .set i f _ hf hn rfl (by show 0 ≤ n; omega) ?_ ?_ (.inl hk)
              · show n ≤ ((f.data.take n.toNat).length : Int)
                rw [List.length_take]
                omega
              · show (usedF l : Int) + ((f.data.take n.toNat).length : Int) - (f.data.length : Int) ≤ cap
                rw [List.length_take]
                omega
        · split
          · rename_i hk
            rw [dropD_atR]
            rcases atR_cases hm no (dropF l) with ⟨e, he, h⟩ | ⟨i, f, hf, hn, hg, h⟩
            · rw [h]
              exact .err e he
            · rw [h]
              exact .erase i f hf hn hk
          · rw [crashD_yes hm]
            exact .crash picks
theorem atD_no {d : Dk} {no : Int} {g : Nat → Fl → Dk × Int} (h : ¬ mayD d) : atD d no g = (d, 1) := by unfold atD; rw [if_neg h]
theorem do_no {d : Dk} (h : ¬ mayD d) (o : OpD) : (doD d o).1 = d := by
  unfold doD
  split
  · rw [make_no (.inl h)]
  · split
    · unfold writeD; rw [atD_no h]
    · split
      · unfold syncD; rw [atD_no h]
      · split
        · unfold cutD; rw [atD_no h]
        · split
          · unfold dropD; rw [atD_no h]
          · unfold crashD
            rw [if_neg h]
theorem crashL_ris : ∀ (l : List Fl) (p : List Int) (q : Int), risF q l → risF q (crashL l p)
  | [], _, _, _ => trivial
  | f :: l, p, q, h => by
    show risF q (if f.sure = f.data.length then f :: crashL l p else crashF f p :: crashL l (p.drop 2))
    obtain ⟨h1, h2, h3, h4, h5⟩ := h
    split
    · exact ⟨h1, h2, h3, h4, crashL_ris l p _ h5⟩
    · have hc := CR.crash p h3 h4
      have e := hc.1
      have e2 := hc.2.1
      have e3 := hc.2.2.1
      refine ⟨by rw [e]; exact h1, by rw [e]; exact h2, by omega, by omega, ?_⟩
      rw [e]
      exact crashL_ris l _ _ h5
theorem crashL_used : ∀ (l : List Fl) (p : List Int) (q : Int), risF q l → usedF (crashL l p) ≤ usedF l
  | [], _, _, _ => Nat.le_refl _
  | f :: l, p, q, h => by
    show usedF (if f.sure = f.data.length then f :: crashL l p else crashF f p :: crashL l (p.drop 2)) ≤ usedF (f :: l)
    obtain ⟨h1, h2, h3, h4, h5⟩ := h
    split
    · have := crashL_used l p _ h5
      show f.data.length + usedF _ ≤ f.data.length + usedF l
      omega
    · have := crashL_used l (p.drop 2) _ h5
      have hc := (CR.crash p h3 h4).2.2.2.1
      show (crashF f p).data.length + usedF _ ≤ f.data.length + usedF l
      omega
theorem may_crash {cap : Int} {l : List Fl} (h : mayD ⟨cap, l⟩) (p : List Int) : mayD ⟨cap, crashL l p⟩ := by
  obtain ⟨h1, h2, h3, h4, h5⟩ := h
  refine ⟨crashL_ris l p 0 h1, h2, h3, ?_, ?_⟩
  · show (crashL l p).length ≤ 12
    rw [crashL_len]
    exact h4
  · have := crashL_used l p 0 h1
    show (usedF (crashL l p) : Int) ≤ cap
    have h5' : (usedF l : Int) ≤ cap := h5
    omega
theorem may_do {cap : Int} {l : List Fl} (h : mayD ⟨cap, l⟩) (o : OpD) : mayD (doD ⟨cap, l⟩ o).1 := by
  have q := doC h o
  generalize doD ⟨cap, l⟩ o = r at q
  cases q with
  | err e he => exact h
  | make h0 h1 hi hl => exact may_makeL h h0 h1 hi hl
  | set i f g hf hn hg h0 h1 hu hs => exact may_set h hf hg h0 h1 hu
  | erase i f hf hn hk => exact may_erase i h
  | crash p => exact may_crash h p
/-- DiskStays, plain. -/
theorem stays_law (d : Dk) (o : OpD) : ((doD d o).2 ≠ 0 → (doD d o).1 = d) ∧ (mayD (doD d o).1 ↔ mayD d) ∧ (doD d o).1.cap = d.cap ∧ (¬ mayD d → (doD d o).1 = d) := by
  obtain ⟨cap, l⟩ := d
  by_cases h : mayD ⟨cap, l⟩
  · refine ⟨?_, ⟨fun _ => h, fun _ => may_do h o⟩, ?_, fun e => absurd h e⟩
    · have q := doC h o
      generalize doD ⟨cap, l⟩ o = r at q
      intro he
      cases q with
      | err e he => rfl
      | make h0 h1 hi hl => exact absurd rfl he
      | set i f g hf hn hg h0 h1 hu hs => exact absurd rfl he
      | erase i f hf hn hk => exact absurd rfl he
      | crash p => exact absurd rfl he
    · have q := doC h o
      generalize doD ⟨cap, l⟩ o = r at q
      cases q <;> rfl
  · have e := do_no h o
    exact ⟨fun _ => e, by rw [e], by rw [e], fun _ => e⟩
theorem ris_inj : ∀ {l : List Fl} {q : Int}, risF q l → ∀ {f g : Fl}, f ∈ l → g ∈ l → f.no = g.no → f = g
  | [], _, _, f, g, hf, _, _ => by cases hf
  | e :: l, q, h, f, g, hf, hg, hn => by
    rcases List.mem_cons.1 hf with hf1 | hf1
    · rcases List.mem_cons.1 hg with hg1 | hg1
      · rw [hf1, hg1]
      · have := risF_mem h.2.2.2.2 hg1
        rw [hf1] at hn
        omega
    · rcases List.mem_cons.1 hg with hg1 | hg1
      · have := risF_mem h.2.2.2.2 hf1
        rw [hg1] at hn
        omega
      · exact ris_inj h.2.2.2.2 hf1 hg1 hn
theorem mem_erase : ∀ {l : List Fl} {i : Nat} {f g : Fl}, l[i]? = some f → g ∈ l → g ∈ l.eraseIdx i ∨ g = f
  | [], i, f, g, h, hg => by cases hg
  | e :: l, 0, f, g, h, hg => by
    cases h
    rcases List.mem_cons.1 hg with hg | hg
    · exact .inr hg
    · exact .inl hg
  | e :: l, i + 1, f, g, h, hg => by
    rcases List.mem_cons.1 hg with hg | hg
    · exact .inl (by rw [hg]; exact List.mem_cons_self ..)
    · rcases mem_erase (l := l) (i := i) (f := f) (by simpa using h) hg with h1 | h1
      · exact .inl (List.mem_cons_of_mem _ h1)
      · exact .inr h1
theorem mem_setF : ∀ {l : List Fl} {i : Nat} {f g e : Fl}, l[i]? = some f → e ∈ l → e ∈ l.set i g ∨ e = f
  | [], i, f, g, e, h, he => by cases he
  | a :: l, 0, f, g, e, h, he => by
    cases h
    rcases List.mem_cons.1 he with he | he
    · exact .inr he
    · exact .inl (List.mem_cons_of_mem _ he)
  | a :: l, i + 1, f, g, e, h, he => by
    rcases List.mem_cons.1 he with he | he
    · exact .inl (by rw [he]; exact List.mem_cons_self ..)
    · rcases mem_setF (l := l) (i := i) (f := f) (g := g) (by simpa using h) he with h1 | h1
      · exact .inl (List.mem_cons_of_mem _ h1)
      · exact .inr h1
/-- DiskSure, plain. -/
theorem sure_mem {cap : Int} {l : List Fl} (h : mayD ⟨cap, l⟩) (o : OpD) {f : Fl} (hf : f ∈ l) (hk : ¬ (o.no = f.no ∧ (o.kind = 3 ∨ o.kind = 4))) : ∃ g ∈ (doD ⟨cap, l⟩ o).1.f, SureFG f g := by
  have hfs : 0 ≤ f.sure ∧ f.sure ≤ (f.data.length : Int) := by
    obtain ⟨i, hi⟩ := List.mem_iff_getElem?.1 hf
    exact sure_at h hi
  have q := doC h o
  generalize doD ⟨cap, l⟩ o = r at q
  cases q with
  | err e he => exact ⟨f, hf, SureFG.refl hfs.2⟩
  | make h0 h1 hi hl => exact ⟨f, makeL_mem.2 (.inr hf), SureFG.refl hfs.2⟩
  | set i f0 g hf0 hn hg h0 h1 hu hs =>
    rcases mem_setF (g := g) hf0 hf with h9 | h9
    · exact ⟨f, h9, SureFG.refl hfs.2⟩
    · subst h9
      rcases hs with hs | hs
      · exact absurd ⟨hn.symm, .inl hs⟩ hk
      · refine ⟨g, ?_, hs⟩
        have hil := (List.getElem?_eq_some_iff.1 hf0).1
        exact List.mem_of_getElem? (List.getElem?_set_self hil)
  | erase i f0 hf0 hn hk4 =>
    rcases mem_erase hf0 hf with h9 | h9
    · exact ⟨f, h9, SureFG.refl hfs.2⟩
    · subst h9
      exact absurd ⟨hn.symm, .inr hk4⟩ hk
  | crash p =>
    obtain ⟨i, hi⟩ := List.mem_iff_getElem?.1 hf
    obtain ⟨g, h1, h2⟩ := crashL_at l p 0 h.1 i f hi
    exact ⟨g, List.mem_of_getElem? h1, h2.sure hfs.1⟩
theorem sure_law {cap : Int} {l : List Fl} (h : mayD ⟨cap, l⟩) (o : OpD) (no : Int) (hi : ¬ findD ⟨cap, l⟩ no < 0) (hk : ¬ (o.no = no ∧ (o.kind = 3 ∨ o.kind = 4))) :
    ∃ (i k : Nat) (f g : Fl), findD ⟨cap, l⟩ no = (i : Int) ∧ l[i]? = some f ∧ findD (doD ⟨cap, l⟩ o).1 no = (k : Int) ∧ (doD ⟨cap, l⟩ o).1.f[k]? = some g ∧ 0 ≤ f.sure ∧ f.sure ≤ (f.data.length : Int) ∧ SureFG f g := by
  have hh : HasF no l := (findD_has h).1 (by omega)
  obtain ⟨i, hix⟩ := hasF_idx.1 hh
  obtain ⟨f, hf, hn⟩ := idxF_some hix
  obtain ⟨g, hg, hs⟩ := sure_mem h o (List.mem_of_getElem? hf) (by rw [hn]; exact hk)
  have hm2 := may_do h o
  generalize doD ⟨cap, l⟩ o = r at *
  obtain ⟨⟨cp, m⟩, er⟩ := r
  dsimp only at *
  have hh2 : HasF no m := ⟨g, hg, by rw [hs.1, hn]⟩
  obtain ⟨k, hkx⟩ := hasF_idx.1 hh2
  obtain ⟨g2, hg2, hn2⟩ := idxF_some hkx
  obtain rfl : g2 = g := ris_inj hm2.1 (List.mem_of_getElem? hg2) hg (by rw [hn2, hs.1, hn])
  have hfs := sure_at h hf
  refine ⟨i, k, f, g2, by rw [findD_idx h, hix], hf, by rw [findD_idx hm2, hkx], hg2, hfs.1, hfs.2, hs⟩
/-- DiskFiles, plain. -/
theorem files_make {cap : Int} {l : List Fl} (h : mayD ⟨cap, l⟩) (no other : Int) : mayD (makeD ⟨cap, l⟩ no).1 ∧ ((makeD ⟨cap, l⟩ no).2 = 0 → ∃ (i : Nat) (g : Fl), findD (makeD ⟨cap, l⟩ no).1 no = (i : Int) ∧ (makeD ⟨cap, l⟩ no).1.f[i]? = some g ∧ g.data = [] ∧ (makeD ⟨cap, l⟩ no).1.f.length = l.length + 1) ∧ (other ≠ no → (0 ≤ findD (makeD ⟨cap, l⟩ no).1 other ↔ 0 ≤ findD ⟨cap, l⟩ other)) := by
  have hdo : doD ⟨cap, l⟩ ⟨0, no, 0, [], []⟩ = makeD ⟨cap, l⟩ no := by unfold doD; rw [if_pos rfl]
  have q := doC h ⟨0, no, 0, [], []⟩
  have hm := may_do h ⟨0, no, 0, [], []⟩
  rw [hdo] at q hm
  have hk : ∀ x, makeD ⟨cap, l⟩ no = x → x.2 = 0 → x = (⟨cap, makeL no l⟩, 0) ∧ idxF no l = none := by
    intro x hx h0
    by_cases h1 : ¬ mayD ⟨cap, l⟩ ∨ no < 1 ∨ no > 1073741824
    · rw [make_no h1] at hx; subst hx; exact absurd h0 (show ¬ (1 : Int) = 0 by decide)
    · by_cases h2 : findD ⟨cap, l⟩ no ≠ -1
      · rw [make_there h1 h2] at hx; subst hx; exact absurd h0 (show ¬ (11 : Int) = 0 by decide)
      · by_cases h3 : l.length = 12
        · rw [make_full h1 h2 h3] at hx; subst hx; exact absurd h0 (show ¬ (9 : Int) = 0 by decide)
        · have := make_ok h1 h2 h3
          rw [this.1] at hx
          exact ⟨hx.symm, this.2⟩
  by_cases h0 : (makeD ⟨cap, l⟩ no).2 = 0
  · obtain ⟨e, hi⟩ := hk _ rfl h0
    rw [e] at hm ⊢
    refine ⟨hm, fun _ => ?_, fun ho => ?_⟩
    · have hg := makeL_get no l
      have hh : HasF no (makeL no l) := ⟨_, List.mem_of_getElem? hg, rfl⟩
      obtain ⟨i, hix⟩ := hasF_idx.1 hh
      obtain ⟨g, hgi, hn⟩ := idxF_some hix
      have hgg : g = ⟨no, [], 0⟩ := ris_inj hm.1 (List.mem_of_getElem? hgi) (List.mem_of_getElem? hg) hn
      exact ⟨i, g, by rw [findD_idx hm, hix], hgi, by rw [hgg], makeL_len no l⟩
    · rw [findD_has hm, findD_has h, makeL_has ho]
  · have e : (makeD ⟨cap, l⟩ no).1 = ⟨cap, l⟩ := by
      generalize makeD ⟨cap, l⟩ no = r at q h0
      cases q with
      | err e he => rfl
      | make => exact absurd rfl h0
      | set => exact absurd rfl h0
      | erase => exact absurd rfl h0
      | crash => exact absurd rfl h0
    rw [e]
    exact ⟨h, fun e => absurd e h0, fun _ => Iff.rfl⟩
theorem files_drop {cap : Int} {l : List Fl} (h : mayD ⟨cap, l⟩) (no other : Int) : mayD (dropD ⟨cap, l⟩ no).1 ∧ ((dropD ⟨cap, l⟩ no).2 = 0 → findD (dropD ⟨cap, l⟩ no).1 no = -1 ∧ (dropD ⟨cap, l⟩ no).1.f.length + 1 = l.length) ∧ ((dropD ⟨cap, l⟩ no).2 = 0 ↔ 0 ≤ findD ⟨cap, l⟩ no) ∧ (other ≠ no → (0 ≤ findD (dropD ⟨cap, l⟩ no).1 other ↔ 0 ≤ findD ⟨cap, l⟩ other)) := by
  rw [dropD_atR]
  cases hi : idxF no l with
  | none =>
    rw [atR_none h hi]
    refine ⟨h, fun e => absurd e (show ¬ (5 : Int) = 0 by decide), ⟨fun e => absurd e (show ¬ (5 : Int) = 0 by decide), fun e => ?_⟩, fun _ => Iff.rfl⟩
    rw [findD_idx h, hi] at e
    exact absurd e (by decide)
  | some i =>
    obtain ⟨f, hf, hn⟩ := idxF_some hi
    rw [atR_some h hi]
    unfold dropF
    rw [if_pos rfl]
    have hm := may_erase i h
    have hE := erase_has h.1 hf
    rw [hn] at hE
    refine ⟨hm, fun _ => ⟨?_, ?_⟩, ⟨fun _ => ?_, fun _ => rfl⟩, fun ho => ?_⟩
    · have : ¬ 0 ≤ findD ⟨cap, l.eraseIdx i⟩ no := fun e => ((hE no).1 ((findD_has hm).1 e)).2 rfl
      rw [findD_idx hm] at this ⊢
      cases hj : idxF no (l.eraseIdx i) with
      | none => rfl
      | some j => rw [hj] at this; exact absurd (show (0 : Int) ≤ (j : Int) by omega) this
    · have hil := (List.getElem?_eq_some_iff.1 hf).1
      show (l.eraseIdx i).length + 1 = l.length
      rw [List.length_eraseIdx, if_pos hil]
      omega
    · rw [findD_idx h, hi]
      show (0 : Int) ≤ (i : Int)
      omega
    · rw [findD_has hm, findD_has h, hE other]
      exact ⟨fun h => h.1, fun h => ⟨h, ho⟩⟩
end Go.Proofs.Ytahiigcofgnncaa.H
