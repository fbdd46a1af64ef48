import Derived.Test.YtajofhjlkaenhaaPoolH
/-! Layer 11: plain laws of pools. -/
namespace Go.Proofs.Ytajofhjlkaenhaa.H
open Go.RowKit Go.Proofs.YtajofhjlkaenhaaW.PrintWords Go.Proofs.YtajofhjlkaenhaaW.PrintLast Go.Proofs.YtajofhjlkaenhaaW.PrintMore
set_option linter.unusedVariables false
set_option linter.unusedSimpArgs false

theorem meetW_symm (p q : Pl) : meetW p q = meetW q p := by
  unfold meetW
  apply decide_eq_decide.2
  exact ⟨fun h => ⟨h.2, h.1⟩, fun h => ⟨h.2, h.1⟩⟩
theorem mayW_iff (l : List Pl) (out : Int) : ∀ pre, mayW pre l out = true ↔ (∀ p ∈ l, fitsP p out = true) ∧ (∀ p ∈ l, ∀ q ∈ pre, meetW p q = false) ∧ l.Pairwise (fun a b => meetW a b = false) := by
  induction l with
  | nil => intro pre; simp [mayW]
  | cons p l ih =>
    intro pre
    simp only [mayW, Bool.and_eq_true, Bool.not_eq_true', ih, List.any_eq_false, List.pairwise_cons, List.mem_cons, List.mem_append, List.mem_singleton, List.not_mem_nil, or_false]
    constructor
    · rintro ⟨⟨h1, h2⟩, h3, h4, h5⟩
      refine ⟨?_, ?_, ?_, h5⟩
      · rintro q (rfl | hq)
        · exact h1
        · exact h3 q hq
      · rintro q (rfl | hq) r hr
        · have := h2 r hr
          simpa using this
        · exact h4 q hq r (.inl hr)
      · intro q hq
        rw [meetW_symm]
        exact h4 q hq p (.inr rfl)
    · rintro ⟨h1, h2, h3, h4⟩
      refine ⟨⟨h1 p (.inl rfl), fun r hr => by rw [h2 p (.inl rfl) r hr]; simp⟩, fun q hq => h1 q (.inr hq), ?_, h4⟩
      rintro q hq r (hr | rfl)
      · exact h2 q (.inr hq) r hr
      · rw [meetW_symm]
        exact h3 q hq
/-- Pools that may be. -/
theorem mays_iff (l : List Pl) (out : Int) : maysP l out = true ↔ (0 ≤ out ∧ out ≤ 4 ∧ l.length ≤ 3) ∧ (∀ p ∈ l, fitsP p out = true) ∧ l.Pairwise (fun a b => meetW a b = false) := by
  unfold maysP
  rw [Bool.and_eq_true, decide_eq_true_eq, mayW_iff]
  simp
theorem othersP_false {p : Pl} {but : Int} : ∀ {l : List Pl} {i : Nat}, othersP p but l (i : Int) = false ↔ ∀ j (hj : j < l.length), ((i + j : Nat) : Int) ≠ but → meetW p l[j] = false
  | [], i => by simp [othersP]
  | q :: l, i => by
    have ih := othersP_false (p := p) (but := but) (l := l) (i := i + 1)
    unfold othersP
    rw [Bool.or_eq_false_iff, show ((i : Int) + 1) = ((i + 1 : Nat) : Int) by omega, ih]
    constructor
    · rintro ⟨h1, h2⟩ j hj hb
      cases j with
      | zero =>
        have : ((i : Int) == but) = false := by rw [beq_eq_false_iff_ne]; exact hb
        rw [this] at h1
        simpa using h1
      | succ j => exact h2 j (by simpa using hj) (by rw [show i + 1 + j = i + (j + 1) by omega]; exact hb)
    · intro h
      refine ⟨?_, fun j hj hb => h (j + 1) (by simpa using hj) (by rw [show i + (j + 1) = i + 1 + j by omega]; exact hb)⟩
      by_cases hb : (i : Int) = but
      · have : ((i : Int) == but) = true := by simpa using hb
        rw [this]
        rfl
      · have := h 0 (by simp) hb
        rw [show (q :: l)[0] = q from rfl] at this
        rw [this]
        simp
theorem roomP_zero {out : Int} {l : List Pl} {but : Int} {p : Pl} (h : roomP out l but p = 0) : fitsP p out = true ∧ (∀ j (hj : j < l.length), ((j : Nat) : Int) ≠ but → meetW p l[j] = false) ∧ ¬ (but = -1 ∧ l.length = 3) := by
  unfold roomP at h
  by_cases h1 : fitsP p out = false
  · rw [if_pos h1] at h; omega
  · rw [if_neg h1] at h
    by_cases h2 : othersP p but l 0 = true
    · rw [if_pos h2] at h; omega
    · rw [if_neg h2] at h
      by_cases h3 : but = -1 ∧ l.length = 3
      · rw [if_pos h3] at h; omega
      · have h2' : othersP p but l ((0 : Nat) : Int) = false := by simpa using h2
        refine ⟨by simpa using h1, fun j hj hb => ?_, h3⟩
        exact othersP_false.1 h2' j hj (by simpa using hb)
theorem getP_nat (l : List Pl) (k : Nat) (h : k < l.length) : getP l (k : Int) = l[k] := by unfold getP; simp [List.getD_eq_getElem?_getD, h]
theorem addR_err {out : Int} {p : Pl} {l : List Pl} (h : (addR out p l).2 ≠ 0) : (addR out p l).1 = l := by
  unfold addR at h ⊢
  by_cases g : wrongAdd out p l = 0
  · rw [if_pos g] at h; exact absurd rfl h
  · rw [if_neg g]
theorem drainR_err {out k : Int} {l : List Pl} (h : (drainR out k l).2 ≠ 0) : (drainR out k l).1 = l := by
  unfold drainR at h ⊢
  by_cases g : wrongDrain out k l = 0
  · rw [if_pos g] at h; exact absurd rfl h
  · rw [if_neg g]
theorem sizeR_err {out k n : Int} {b : List Int} {l : List Pl} (h : (sizeR out k n b l).2 ≠ 0) : (sizeR out k n b l).1 = l := by
  unfold sizeR at h ⊢
  by_cases g : wrongSize out k n b l = 0
  · rw [if_pos g] at h; exact absurd rfl h
  · rw [if_neg g]
theorem goneR_err {out k : Int} {b : List Int} {l : List Pl} (h : (goneR out k b l).2 ≠ 0) : (goneR out k b l).1 = l := by
  unfold goneR at h ⊢
  by_cases g : wrongGone out k b l = 0
  · rw [if_pos g] at h; exact absurd rfl h
  · rw [if_neg g]
/-- A change that is done: of what may be. -/
theorem addR_ok {out : Int} {p : Pl} {l : List Pl} (h : wrongAdd out p l = 0) : maysP l out = true ∧ roomP out l (-1) p = 0 := by
  unfold wrongAdd at h
  cases hm : maysP l out with
  | false => rw [hm] at h; exact absurd h (by show ¬ (1 : Int) = 0; omega)
  | true => rw [hm] at h; exact ⟨rfl, h⟩
theorem drain_ok {out k : Int} {l : List Pl} (h : wrongDrain out k l = 0) : maysP l out = true ∧ (getP l k).f2 ≠ 1 := by
  have hin := wrongDrain_in h
  unfold wrongDrain at h
  cases hm : maysP l out with
  | false => rw [hm] at h; exact absurd h (by show ¬ (1 : Int) = 0; omega)
  | true =>
    rw [hm] at h
    have h' : (if k < 0 ∨ (l.length : Int) ≤ k then (5 : Int) else if (getP l k).f2 = 1 then 11 else 0) = 0 := h
    rw [if_neg (by omega)] at h'
    refine ⟨rfl, fun g => ?_⟩
    rw [if_pos g] at h'
    omega
theorem size_ok {out k n : Int} {b : List Int} {l : List Pl} (h : wrongSize out k n b l = 0) : maysP l out = true ∧ roomP out l k (sizedP (getP l k) n) = 0 ∧ lostP (getP l k) b (sizedP (getP l k) n) = false := by
  have hin := wrongSize_in h
  unfold wrongSize at h
  cases hm : maysP l out with
  | false => rw [hm] at h; exact absurd h (by show ¬ (1 : Int) = 0; omega)
  | true =>
    rw [hm] at h
    have h' : (if k < 0 ∨ (l.length : Int) ≤ k then (5 : Int) else if roomP out l k (sizedP (getP l k) n) = 0 then (if lostP (getP l k) b (sizedP (getP l k) n) = true then 12 else 0) else roomP out l k (sizedP (getP l k) n)) = 0 := h
    rw [if_neg (by omega)] at h'
    by_cases g : roomP out l k (sizedP (getP l k) n) = 0
    · rw [if_pos g] at h'
      refine ⟨rfl, g, ?_⟩
      cases hl : lostP (getP l k) b (sizedP (getP l k) n) with
      | false => rfl
      | true => rw [hl, if_pos rfl] at h'; omega
    · rw [if_neg g] at h'
      exact absurd h' g
theorem gone_ok {out k : Int} {b : List Int} {l : List Pl} (h : wrongGone out k b l = 0) : maysP l out = true ∧ (getP l k).f2 ≠ 0 ∧ lostP (getP l k) b ⟨0, 0, 0⟩ = false := by
  have hin := wrongGone_in h
  unfold wrongGone at h
  cases hm : maysP l out with
  | false => rw [hm] at h; exact absurd h (by show ¬ (1 : Int) = 0; omega)
  | true =>
    rw [hm] at h
    have h' : (if k < 0 ∨ (l.length : Int) ≤ k then (5 : Int) else if (getP l k).f2 = 0 then 12 else if lostP (getP l k) b ⟨0, 0, 0⟩ = true then 12 else 0) = 0 := h
    rw [if_neg (by omega)] at h'
    by_cases g : (getP l k).f2 = 0
    · rw [if_pos g] at h'; omega
    · rw [if_neg g] at h'
      refine ⟨rfl, g, ?_⟩
      cases hl : lostP (getP l k) b ⟨0, 0, 0⟩ with
      | false => rfl
      | true => rw [hl, if_pos rfl] at h'; omega
theorem mays_add {out : Int} {p : Pl} {l : List Pl} (hm : maysP l out = true) (hr : roomP out l (-1) p = 0) : maysP (l ++ [p]) out = true := by
  obtain ⟨h1, h2, h3⟩ := (mays_iff l out).1 hm
  obtain ⟨r1, r2, r3⟩ := roomP_zero hr
  have hl3 : l.length ≠ 3 := fun e => r3 ⟨rfl, e⟩
  refine (mays_iff _ _).2 ⟨⟨h1.1, h1.2.1, by simp; omega⟩, ?_, ?_⟩
  · intro q hq
    rcases List.mem_append.1 hq with hq | hq
    · exact h2 q hq
    · rw [List.mem_singleton.1 hq]; exact r1
  · refine List.pairwise_append.2 ⟨h3, List.pairwise_singleton _ _, ?_⟩
    intro a ha b hb
    rw [List.mem_singleton.1 hb]
    obtain ⟨j, hj, rfl⟩ := List.mem_iff_getElem.1 ha
    rw [meetW_symm]
    exact r2 j hj (by omega)
/-- A pool in the place of another one. -/
theorem mays_set {out : Int} {k : Nat} {y : Pl} {l : List Pl} (hm : maysP l out = true) (hf : fitsP y out = true) (hk : ∀ j (hj : j < l.length), j ≠ k → meetW y l[j] = false) : maysP (l.set k y) out = true := by
  obtain ⟨h1, h2, h3⟩ := (mays_iff l out).1 hm
  refine (mays_iff _ _).2 ⟨⟨h1.1, h1.2.1, by simpa using h1.2.2⟩, ?_, ?_⟩
  · intro q hq
    rcases List.mem_or_eq_of_mem_set hq with hq | rfl
    · exact h2 q hq
    · exact hf
  · rw [List.pairwise_iff_getElem] at h3 ⊢
    intro i j hi hj hij
    rw [List.getElem_set, List.getElem_set]
    have hi' : i < l.length := by simpa using hi
    have hj' : j < l.length := by simpa using hj
    by_cases e1 : k = i
    · rw [if_pos e1, if_neg (by omega)]
      exact hk j hj' (by omega)
    · rw [if_neg e1]
      by_cases e2 : k = j
      · rw [if_pos e2, meetW_symm]
        exact hk i hi' (by omega)
      · rw [if_neg e2]
        exact h3 i j hi' hj' hij
theorem mays_erase {out : Int} {k : Nat} {l : List Pl} (hm : maysP l out = true) : maysP (l.eraseIdx k) out = true := by
  obtain ⟨h1, h2, h3⟩ := (mays_iff l out).1 hm
  have hs := List.eraseIdx_sublist l k
  refine (mays_iff _ _).2 ⟨⟨h1.1, h1.2.1, ?_⟩, fun q hq => h2 q (hs.subset hq), h3.sublist hs⟩
  have := hs.length_le
  omega
theorem fits_of {l : List Pl} {out : Int} (hm : maysP l out = true) {k : Nat} (hk : k < l.length) : fitsP l[k] out = true := ((mays_iff l out).1 hm).2.1 _ (List.getElem_mem hk)
theorem apart_of {l : List Pl} {out : Int} (hm : maysP l out = true) {k j : Nat} (hk : k < l.length) (hj : j < l.length) (h : j ≠ k) : meetW l[k] l[j] = false := by
  have h3 := ((mays_iff l out).1 hm).2.2
  rw [List.pairwise_iff_getElem] at h3
  rcases Nat.lt_or_ge k j with g | g
  · exact h3 k j hk hj g
  · rw [meetW_symm]
    exact h3 j k hj hk (by omega)
theorem fits_st {y : Pl} {out : Int} {v : Int} (h : fitsP y out = true) (hv : v = 0 ∨ v = 1) : fitsP ⟨y.f0, y.f1, v⟩ out = true := by
  unfold fitsP at h ⊢
  rw [decide_eq_true_eq] at h ⊢
  simp only
  omega
theorem meetW_st (y q : Pl) (v : Int) : meetW ⟨y.f0, y.f1, v⟩ q = meetW y q := rfl
theorem may_add (out : Int) (p : Pl) (l : List Pl) : maysP (addR out p l).1 out = maysP l out := by
  unfold addR
  by_cases g : wrongAdd out p l = 0
  · rw [if_pos g]
    obtain ⟨h1, h2⟩ := addR_ok g
    rw [h1]
    exact mays_add h1 h2
  · rw [if_neg g]
theorem may_drain (out k : Int) (l : List Pl) : maysP (drainR out k l).1 out = maysP l out := by
  unfold drainR
  by_cases g : wrongDrain out k l = 0
  · rw [if_pos g]
    obtain ⟨h1, h2⟩ := drain_ok g
    obtain ⟨hi0, hi1⟩ := wrongDrain_in g
    obtain ⟨kk, rfl⟩ := Int.eq_ofNat_of_zero_le hi0
    have hkk : kk < l.length := by omega
    rw [h1, getP_nat l kk hkk]
    exact mays_set h1 (fits_st (fits_of h1 hkk) (.inr rfl)) (fun j hj e => apart_of h1 hkk hj e)
  · rw [if_neg g]
theorem may_size (out k n : Int) (b : List Int) (l : List Pl) : maysP (sizeR out k n b l).1 out = maysP l out := by
  unfold sizeR
  by_cases g : wrongSize out k n b l = 0
  · rw [if_pos g]
    obtain ⟨h1, h2, _⟩ := size_ok g
    obtain ⟨hi0, hi1⟩ := wrongSize_in g
    obtain ⟨kk, rfl⟩ := Int.eq_ofNat_of_zero_le hi0
    obtain ⟨r1, r2, _⟩ := roomP_zero h2
    rw [h1]
    exact mays_set h1 r1 (fun j hj e => r2 j hj (by omega))
  · rw [if_neg g]
theorem may_gone (out k : Int) (b : List Int) (l : List Pl) : maysP (goneR out k b l).1 out = maysP l out := by
  unfold goneR
  by_cases g : wrongGone out k b l = 0
  · rw [if_pos g, (gone_ok g).1]
    exact mays_erase (gone_ok g).1
  · rw [if_neg g]
theorem add_no {out : Int} {p : Pl} {l : List Pl} (h : maysP l out = false) : (addR out p l).2 = 1 := by
  have : wrongAdd out p l = 1 := by unfold wrongAdd; rw [h]; rfl
  unfold addR
  rw [if_neg (by omega), this]
theorem gone_no {out k : Int} {b : List Int} {l : List Pl} (h : maysP l out = false) : (goneR out k b l).2 = 1 := by
  have : wrongGone out k b l = 1 := by unfold wrongGone; rw [h]; rfl
  unfold goneR
  rw [if_neg (by omega), this]
end Go.Proofs.Ytajofhjlkaenhaa.H
