import Derived.Test.YtodjlacbjcbafaaMoorVari
set_option linter.unusedVariables false
set_option linter.unusedSimpArgs false
/-! Plain laws of events (layer 14): what may be, is put, and read; no program in sight. -/
namespace Moor

structure Ev where
  kind : Int
  at_ : Int
  a : Int
  b : Int
  c : Int
  q : Int
  i : Int
  h : Int
  pair : Bool
deriving DecidableEq

/-- What an event of its kind may have. -/
def evHas (e : Ev) : Prop :=
  ((e.kind = 0 ∨ e.kind = 1) ∧ 0 ≤ e.a ∧ e.a ≤ 31 ∧ 0 ≤ e.b ∧ e.b ≤ 3 ∧ 0 ≤ e.c ∧ e.c ≤ 7) ∨
  (e.kind = 2 ∧ 0 ≤ e.a ∧ e.a ≤ 3 ∧ 1 ≤ e.b ∧ e.b ≤ 4 ∧ e.c = 0) ∨
  ((e.kind = 3 ∨ e.kind = 5) ∧ 0 ≤ e.a ∧ e.a ≤ 2 ∧ e.b = 0 ∧ e.c = 0) ∨
  (e.kind = 4 ∧ 0 ≤ e.a ∧ e.a ≤ 2 ∧ 1 ≤ e.b ∧ e.b ≤ 4 ∧ e.c = 0) ∨
  (e.kind = 6 ∧ e.a = 0 ∧ e.b = 0 ∧ e.c = 0 ∧ 1 ≤ e.q ∧ e.q ≤ 8 ∧ 1 ≤ e.i ∧ e.i ≤ 1048576 ∧ 0 ≤ e.h ∧ e.h ≤ 1048576)
instance (e : Ev) : Decidable (evHas e) := by unfold evHas; infer_instance
def evMay (e : Ev) : Prop := 0 ≤ e.at_ ∧ e.at_ ≤ 1073741824 ∧ (e.kind = 6 ∨ (e.q = 0 ∧ e.i = 0 ∧ e.h = 0 ∧ e.pair = false)) ∧ evHas e
instance (e : Ev) : Decidable (evMay e) := by unfold evMay; infer_instance
def numsE (e : Ev) : List Int :=
  if e.kind = 0 ∨ e.kind = 1 then [32 * e.a + 8 * e.b + e.c] else if e.kind = 2 ∨ e.kind = 4 then [8 * e.a + e.b] else if e.kind = 3 ∨ e.kind = 5 then [e.a] else [e.q, e.i, e.h, if e.pair = true then 1 else 0]
def okFrom (f : Int) : Prop := 0 ≤ f ∧ f ≤ 1073741824
instance (f : Int) : Decidable (okFrom f) := by unfold okFrom; infer_instance
/-- The numbers of events, from a tick on; or none. -/
def stepsE : Int → List Ev → Option (List Int)
  | _, [] => some []
  | f, e :: l => if evMay e ∧ f ≤ e.at_ then (stepsE e.at_ l).map (fun t => (16 * (e.at_ - f) + e.kind) :: (numsE e ++ t)) else none
def putE (f : Int) (l : List Ev) : List Int × Bool := if okFrom f then match stepsE f l with
    | some ns => vAll ns
    | none => ([], false) else ([], false)
/-- An event of a kind, at a tick, by the numbers behind its first one: and what is left. -/
def bodyE (k t : Int) (l : List Int) : Option (Ev × List Int) :=
  if k = 6 then match l with
    | q :: i :: h :: p :: r => if p > 1 then none else some (⟨k, t, 0, 0, 0, q, i, h, p == 1⟩, r)
    | _ => none
  else match l with
    | m :: r => if k = 0 ∨ k = 1 then some (⟨k, t, m / 32, m / 8 % 4, m % 8, 0, 0, 0, false⟩, r) else if k = 2 ∨ k = 4 then some (⟨k, t, m / 8, m % 8, 0, 0, 0, 0, false⟩, r) else some (⟨k, t, m, 0, 0, 0, 0, 0, false⟩, r)
    | [] => none
def oneE (f : Int) : List Int → Option (Ev × List Int)
  | [] => none
  | n :: l => if n % 16 ≥ 7 then none else match bodyE (n % 16) (f + n / 16) l with
    | some (e, r) => if evMay e then some (e, r) else none
    | none => none
theorem oneE_cons (f n : Int) (l : List Int) : oneE f (n :: l) = if n % 16 ≥ 7 then none else match bodyE (n % 16) (f + n / 16) l with
    | some (e, r) => if evMay e then some (e, r) else none
    | none => none := rfl
def decE : Nat → Int → List Int → Option (List Ev)
  | _, _, [] => some []
  | 0, _, _ :: _ => none
  | k + 1, f, n :: l => match oneE f (n :: l) with
    | some (e, r) => (decE k e.at_ r).map (e :: ·)
    | none => none
def readE (f : Int) (b : List Int) : List Ev × Bool :=
  if (vRead b).2 = true ∧ okFrom f then match decE (vRead b).1.length f (vRead b).1 with
    | some es => (es, true)
    | none => ([], false) else ([], false)

theorem numsE_may {e : Ev} (h : evMay e) : ∀ x ∈ numsE e, mayN x := by
  obtain ⟨h0, h1, h2, h3⟩ := h
  intro x hx
  unfold numsE at hx
  unfold evHas at h3
  unfold mayN
  by_cases k0 : e.kind = 0 ∨ e.kind = 1
  · rw [if_pos k0] at hx
    have := List.mem_singleton.1 hx
    omega
  · rw [if_neg k0] at hx
    by_cases k1 : e.kind = 2 ∨ e.kind = 4
    · rw [if_pos k1] at hx
      have := List.mem_singleton.1 hx
      omega
    · rw [if_neg k1] at hx
      by_cases k2 : e.kind = 3 ∨ e.kind = 5
      · rw [if_pos k2] at hx
        have := List.mem_singleton.1 hx
        omega
      · rw [if_neg k2] at hx
        simp only [List.mem_cons, List.not_mem_nil, or_false] at hx
        rcases hx with e1 | e1 | e1 | e1
        · omega
        · omega
        · omega
        · split at e1 <;> omega
theorem head_may {e : Ev} (h : evMay e) {f : Int} (hf : okFrom f) (hle : f ≤ e.at_) : mayN (16 * (e.at_ - f) + e.kind) := by
  obtain ⟨h0, h1, h2, h3⟩ := h
  unfold evHas at h3
  unfold okFrom at hf
  unfold mayN
  omega
theorem evMay_from {e : Ev} (h : evMay e) : okFrom e.at_ := ⟨h.1, h.2.1⟩
/-- What is put is read: the first event. -/
theorem oneE_put {e : Ev} (h : evMay e) {f : Int} (hle : f ≤ e.at_) (r : List Int) : oneE f ((16 * (e.at_ - f) + e.kind) :: (numsE e ++ r)) = some (e, r) := by
  have hm := h
  obtain ⟨h0, h1, h2, h3⟩ := h
  have hk : 0 ≤ e.kind ∧ e.kind ≤ 6 := by unfold evHas at h3; omega
  have e1 : (16 * (e.at_ - f) + e.kind) % 16 = e.kind := by omega
  have e2 : f + (16 * (e.at_ - f) + e.kind) / 16 = e.at_ := by omega
  rw [oneE_cons, e1, e2, if_neg (by omega)]
  have hb : bodyE e.kind e.at_ (numsE e ++ r) = some (e, r) := by
    unfold bodyE numsE evHas at *
    cases e with | mk kind at_ a b c q i h pair =>
    simp only at *
    by_cases k6 : kind = 6
    · have n0 : ¬ (kind = 0 ∨ kind = 1) := by omega
      have n1 : ¬ (kind = 2 ∨ kind = 4) := by omega
      have n2 : ¬ (kind = 3 ∨ kind = 5) := by omega
      rw [if_pos k6, if_neg n0, if_neg n1, if_neg n2]
      have ha : a = 0 ∧ b = 0 ∧ c = 0 := by omega
      obtain ⟨rfl, rfl, rfl⟩ := ha
      cases pair <;> simp
    · rw [if_neg k6]
      have hp : q = 0 ∧ i = 0 ∧ h = 0 ∧ pair = false := by
        rcases h2 with h2 | h2
        · exact absurd h2 k6
        · exact h2
      obtain ⟨rfl, rfl, rfl, rfl⟩ := hp
      by_cases n0 : kind = 0 ∨ kind = 1
      · rw [if_pos n0]
        simp only [List.cons_append, List.nil_append]
        rw [if_pos n0]
        have x1 : (32 * a + 8 * b + c) / 32 = a := by omega
        have x2 : (32 * a + 8 * b + c) / 8 % 4 = b := by omega
        have x3 : (32 * a + 8 * b + c) % 8 = c := by omega
        rw [x1, x2, x3]
      · by_cases n1 : kind = 2 ∨ kind = 4
        · rw [if_neg n0, if_pos n1]
          simp only [List.cons_append, List.nil_append]
          rw [if_neg n0, if_pos n1]
          have x1 : (8 * a + b) / 8 = a := by omega
          have x2 : (8 * a + b) % 8 = b := by omega
          have x3 : c = 0 := by omega
          rw [x1, x2, x3]
        · have n2 : kind = 3 ∨ kind = 5 := by omega
          rw [if_neg n0, if_neg n1, if_pos n2]
          simp only [List.cons_append, List.nil_append]
          rw [if_neg n0, if_neg n1]
          have x3 : b = 0 ∧ c = 0 := by omega
          rw [x3.1, x3.2]
  rw [hb]
  simp only
  rw [if_pos hm]
/-- What is read is put: the first event. -/
theorem oneE_of {f : Int} {l r : List Int} {e : Ev} (hl : ∀ x ∈ l, mayN x) (h : oneE f l = some (e, r)) : evMay e ∧ f ≤ e.at_ ∧ l = (16 * (e.at_ - f) + e.kind) :: (numsE e ++ r) := by
  cases l with
  | nil => cases h
  | cons n l =>
    have hn : mayN n := hl n (by simp)
    unfold mayN at hn
    rw [oneE_cons] at h
    by_cases h7 : n % 16 ≥ 7
    · rw [if_pos h7] at h; cases h
    · rw [if_neg h7] at h
      cases hb : bodyE (n % 16) (f + n / 16) l with
      | none => rw [hb] at h; cases h
      | some p =>
        obtain ⟨e', r'⟩ := p
        rw [hb] at h
        simp only at h
        by_cases hm : evMay e'
        · rw [if_pos hm] at h
          have := Option.some.inj h
          obtain ⟨rfl, rfl⟩ := Prod.mk.injEq .. ▸ this
          refine ⟨hm, ?_⟩
          unfold bodyE at hb
          by_cases k6 : n % 16 = 6
          · rw [if_pos k6] at hb
            match l, hb with
            | q :: i :: hh :: p :: rr, hb =>
              simp only at hb
              by_cases hp : p > 1
              · rw [if_pos hp] at hb; cases hb
              · rw [if_neg hp] at hb
                have := Option.some.inj hb
                obtain ⟨rfl, rfl⟩ := Prod.mk.injEq .. ▸ this
                have hp0 : mayN p := hl p (by simp)
                unfold mayN at hp0
                have e1 : 16 * (f + n / 16 - f) + n % 16 = n := by omega
                refine ⟨by show f ≤ f + n / 16; omega, ?_⟩
                show n :: q :: i :: hh :: p :: rr = (16 * (f + n / 16 - f) + n % 16) :: (numsE _ ++ rr)
                rw [e1]
                unfold numsE
                simp only
                rw [if_neg (by omega), if_neg (by omega), if_neg (by omega)]
                by_cases hp1 : p = 1
                · subst hp1; simp
                · have hp2 : p = 0 := by omega
                  subst hp2; simp
          · rw [if_neg k6] at hb
            match l, hb with
            | m :: rr, hb =>
              simp only at hb
              have hm0 : mayN m := hl m (by simp)
              unfold mayN at hm0
              have e1 : 16 * (f + n / 16 - f) + n % 16 = n := by omega
              by_cases n0 : n % 16 = 0 ∨ n % 16 = 1
              · rw [if_pos n0] at hb
                have := Option.some.inj hb
                obtain ⟨rfl, rfl⟩ := Prod.mk.injEq .. ▸ this
                refine ⟨by show f ≤ f + n / 16; omega, ?_⟩
                show n :: m :: rr = (16 * (f + n / 16 - f) + n % 16) :: (numsE _ ++ rr)
                rw [e1]
                unfold numsE
                simp only
                rw [if_pos n0]
                simp only [List.cons_append, List.nil_append, List.cons.injEq, and_true, true_and]
                omega
              · rw [if_neg n0] at hb
                by_cases n1 : n % 16 = 2 ∨ n % 16 = 4
                · rw [if_pos n1] at hb
                  have := Option.some.inj hb
                  obtain ⟨rfl, rfl⟩ := Prod.mk.injEq .. ▸ this
                  refine ⟨by show f ≤ f + n / 16; omega, ?_⟩
                  show n :: m :: rr = (16 * (f + n / 16 - f) + n % 16) :: (numsE _ ++ rr)
                  rw [e1]
                  unfold numsE
                  simp only
                  rw [if_neg n0, if_pos n1]
                  simp only [List.cons_append, List.nil_append, List.cons.injEq, and_true, true_and]
                  omega
                · rw [if_neg n1] at hb
                  have := Option.some.inj hb
                  obtain ⟨rfl, rfl⟩ := Prod.mk.injEq .. ▸ this
                  refine ⟨by show f ≤ f + n / 16; omega, ?_⟩
                  show n :: m :: rr = (16 * (f + n / 16 - f) + n % 16) :: (numsE _ ++ rr)
                  rw [e1]
                  unfold numsE
                  simp only
                  rw [if_neg n0, if_neg n1, if_pos (by omega)]
                  rfl
        · rw [if_neg hm] at h; cases h
end Moor

set_option linter.unusedVariables false
set_option linter.unusedSimpArgs false
/-! Plain laws of events: put and read. -/
namespace Moor
theorem stepsE_cons {f : Int} {e : Ev} {l : List Ev} {ns : List Int} (h : stepsE f (e :: l) = some ns) : evMay e ∧ f ≤ e.at_ ∧ ∃ t, stepsE e.at_ l = some t ∧ ns = (16 * (e.at_ - f) + e.kind) :: (numsE e ++ t) := by
  unfold stepsE at h
  by_cases hm : evMay e ∧ f ≤ e.at_
  · rw [if_pos hm] at h
    obtain ⟨t, h1, h2⟩ := Option.map_eq_some_iff.1 h
    exact ⟨hm.1, hm.2, t, h1, h2.symm⟩
  · rw [if_neg hm] at h; cases h
theorem stepsE_mk {f : Int} {e : Ev} {l : List Ev} {t : List Int} (h1 : evMay e) (h2 : f ≤ e.at_) (h : stepsE e.at_ l = some t) : stepsE f (e :: l) = some ((16 * (e.at_ - f) + e.kind) :: (numsE e ++ t)) := by
  unfold stepsE
  rw [if_pos ⟨h1, h2⟩, h]
  rfl
theorem stepsE_may : ∀ (l : List Ev) (f : Int) (ns : List Int), okFrom f → stepsE f l = some ns → ∀ x ∈ ns, mayN x
  | [], f, ns, hf, h => by cases h; intro x hx; cases hx
  | e :: l, f, ns, hf, h => by
    obtain ⟨h1, h2, t, h3, rfl⟩ := stepsE_cons h
    intro x hx
    rcases List.mem_cons.1 hx with rfl | hx
    · exact head_may h1 hf h2
    · rcases List.mem_append.1 hx with hx | hx
      · exact numsE_may h1 x hx
      · exact stepsE_may l e.at_ t (evMay_from h1) h3 x hx
theorem numsE_len (e : Ev) : 1 ≤ (numsE e).length ∧ (numsE e).length ≤ 4 := by
  unfold numsE
  split
  · simp
  · split
    · simp
    · split <;> simp
theorem stepsE_len : ∀ (l : List Ev) (f : Int) (ns : List Int), stepsE f l = some ns → 2 * l.length ≤ ns.length ∧ ns.length ≤ 5 * l.length
  | [], f, ns, h => by cases h; simp
  | e :: l, f, ns, h => by
    obtain ⟨h1, h2, t, h3, rfl⟩ := stepsE_cons h
    have := stepsE_len l e.at_ t h3
    have := numsE_len e
    simp
    omega
theorem stepsE_all : ∀ (l : List Ev) (f : Int) (ns : List Int), stepsE f l = some ns → ∀ e ∈ l, evMay e
  | [], f, ns, h => fun e he => by cases he
  | e :: l, f, ns, h => by
    obtain ⟨h1, h2, t, h3, rfl⟩ := stepsE_cons h
    intro x hx
    rcases List.mem_cons.1 hx with rfl | hx
    · exact h1
    · exact stepsE_all l _ t h3 x hx
theorem decE_cons (k : Nat) (f n : Int) (l : List Int) : decE (k + 1) f (n :: l) = match oneE f (n :: l) with
    | some (e, r) => (decE k e.at_ r).map (e :: ·)
    | none => none := rfl
theorem decE_put : ∀ (l : List Ev) (f : Int) (ns : List Int) (k : Nat), stepsE f l = some ns → ns.length ≤ k → decE k f ns = some l
  | [], f, ns, k, h, hk => by
    cases h
    cases k <;> rfl
  | e :: l, f, ns, k, h, hk => by
    obtain ⟨h1, h2, t, h3, rfl⟩ := stepsE_cons h
    have hn := numsE_len e
    obtain ⟨k, rfl⟩ : ∃ m, k = m + 1 := ⟨k - 1, by simp at hk; omega⟩
    rw [decE_cons, oneE_put h1 h2 t]
    simp only
    rw [decE_put l e.at_ t k h3 (by simp at hk; omega)]
    rfl
theorem decE_of : ∀ (k : Nat) (f : Int) (ns : List Int) (l : List Ev), (∀ x ∈ ns, mayN x) → decE k f ns = some l → stepsE f l = some ns
  | k, f, [], l, hn, h => by
    have : l = [] := by cases k <;> exact (Option.some.inj h).symm
    subst this
    rfl
  | 0, f, n :: ns, l, hn, h => by cases h
  | k + 1, f, n :: ns, l, hn, h => by
    rw [decE_cons] at h
    cases ho : oneE f (n :: ns) with
    | none => rw [ho] at h; cases h
    | some p =>
      obtain ⟨e, r⟩ := p
      rw [ho] at h
      simp only at h
      obtain ⟨y, h1, rfl⟩ := Option.map_eq_some_iff.1 h
      obtain ⟨g1, g2, g3⟩ := oneE_of hn ho
      have hr : ∀ x ∈ r, mayN x := fun x hx => hn x (by rw [g3]; simp [hx])
      have := decE_of k e.at_ r y hr h1
      rw [g3]
      exact stepsE_mk g1 g2 this
theorem putE_pos {f : Int} {l : List Ev} {ns : List Int} (hf : okFrom f) (h : stepsE f l = some ns) (hn : ns.length ≤ 400) : putE f l = (ns.flatMap put, true) := by
  unfold putE
  rw [if_pos hf, h]
  exact vAll_pos ⟨hn, stepsE_may l f ns hf h⟩
theorem putE_cases (f : Int) (l : List Ev) : (∃ ns, okFrom f ∧ stepsE f l = some ns ∧ ns.length ≤ 400 ∧ putE f l = (ns.flatMap put, true)) ∨ putE f l = ([], false) := by
  by_cases hf : okFrom f
  · cases hs : stepsE f l with
    | none => right; unfold putE; rw [if_pos hf, hs]
    | some ns =>
      by_cases hn : ns.length ≤ 400
      · exact .inl ⟨ns, hf, rfl, hn, putE_pos hf hs hn⟩
      · right
        unfold putE
        rw [if_pos hf, hs]
        exact vAll_neg (fun h => hn h.1)
  · right
    unfold putE
    rw [if_neg hf]
theorem putE_ok (f : Int) (l : List Ev) : okB (putE f l).1 ∧ (putE f l).1.length ≤ 2400 := by
  rcases putE_cases f l with ⟨ns, h1, h2, h3, h4⟩ | h
  · rw [h4]
    refine ⟨okB_flat (stepsE_may l f ns h1 h2), ?_⟩
    have := flat_le ns
    show (ns.flatMap put).length ≤ 2400
    omega
  · rw [h]
    exact ⟨okB_nil, by simp⟩
theorem putE_no {f : Int} {l : List Ev} (h : (putE f l).2 = false) : putE f l = ([], false) := by
  rcases putE_cases f l with ⟨ns, h1, h2, h3, h4⟩ | g
  · rw [h4] at h; cases h
  · exact g
/-- What is put is read. -/
theorem readE_put {f : Int} {l : List Ev} (h : (putE f l).2 = true) : readE f (putE f l).1 = (l, true) := by
  rcases putE_cases f l with ⟨ns, h1, h2, h3, h4⟩ | g
  · rw [h4]
    have hv : vRead (ns.flatMap put) = (ns, true) := vRead_pos (read_all (stepsE_may l f ns h1 h2)) h3
    unfold readE
    simp only
    rw [hv]
    rw [if_pos ⟨rfl, h1⟩]
    simp only
    rw [decE_put l f ns ns.length h2 (Nat.le_refl _)]
  · rw [g] at h; cases h
theorem readE_cases (f : Int) (b : List Int) (ho : okB b) : ((readE f b).2 = true ∧ putE f (readE f b).1 = (b, true)) ∨ readE f b = ([], false) := by
  unfold readE
  by_cases h : (vRead b).2 = true ∧ okFrom f
  · rw [if_pos h]
    cases hd : decE (vRead b).1.length f (vRead b).1 with
    | none => exact .inr rfl
    | some es =>
      left
      refine ⟨rfl, ?_⟩
      by_cases hr : ∃ m, read b = some m ∧ m.length ≤ 400
      · obtain ⟨m, g1, g2⟩ := hr
        rw [vRead_pos g1 g2] at hd
        obtain ⟨k1, k2, -, -⟩ := read_back ho g1
        have := decE_of _ _ _ _ k1 hd
        simp only
        rw [putE_pos h.2 this g2, k2]
      · rw [vRead_neg (fun m g1 g2 => hr ⟨m, g1, g2⟩)] at h
        cases h.1
  · rw [if_neg h]
    exact .inr rfl
theorem readE_no {f : Int} {b : List Int} (ho : okB b) (h : (readE f b).2 = false) : readE f b = ([], false) := by
  rcases readE_cases f b ho with ⟨g, -⟩ | g
  · rw [g] at h; cases h
  · exact g
/-- EventBack: other events have other bytes. -/
theorem putE_inj {f : Int} {l k : List Ev} (hl : (putE f l).2 = true) (hk : (putE f k).2 = true) : (putE f l).1 = (putE f k).1 ↔ l = k := by
  refine ⟨fun h => ?_, fun h => by rw [h]⟩
  have h1 := readE_put hl
  rw [h, readE_put hk] at h1
  exact (congrArg Prod.fst h1).symm
def lastT (f : Int) (l : List Ev) : Int := match l.getLast? with
  | some e => e.at_
  | none => f
theorem lastT_cons (f : Int) (e : Ev) (l : List Ev) : lastT f (e :: l) = lastT e.at_ l := by
  unfold lastT
  cases l with
  | nil => rfl
  | cons q l =>
    rw [List.getLast?_cons_cons]
    cases h : (q :: l).getLast? with
    | none => simp at h
    | some z => rfl
theorem stepsE_append : ∀ (l k : List Ev) (f : Int), stepsE f (l ++ k) = match stepsE f l with
    | some a => (stepsE (lastT f l) k).map (fun t => a ++ t)
    | none => none
  | [], k, f => by
    show stepsE f k = (stepsE (lastT f []) k).map (fun t => [] ++ t)
    have : lastT f [] = f := rfl
    rw [this]
    cases stepsE f k <;> rfl
  | e :: l, k, f => by
    rw [List.cons_append, lastT_cons]
    have ih := stepsE_append l k e.at_
    by_cases hm : evMay e ∧ f ≤ e.at_
    · have e1 : ∀ m, stepsE f (e :: m) = (stepsE e.at_ m).map (fun t => (16 * (e.at_ - f) + e.kind) :: (numsE e ++ t)) := fun m => by
        conv => lhs; unfold stepsE
        rw [if_pos hm]
      rw [e1, e1, ih]
      cases h1 : stepsE e.at_ l with
      | none => rfl
      | some a =>
        simp only [Option.map_some]
        cases stepsE (lastT e.at_ l) k with
        | none => rfl
        | some t => simp
    · have e1 : ∀ m, stepsE f (e :: m) = none := fun m => by
        unfold stepsE
        rw [if_neg hm]
      rw [e1, e1]
theorem lastT_ok : ∀ (l : List Ev) (f : Int) (ns : List Int), okFrom f → stepsE f l = some ns → okFrom (lastT f l)
  | [], f, ns, hf, h => hf
  | e :: l, f, ns, hf, h => by
    obtain ⟨h1, h2, t, h3, rfl⟩ := stepsE_cons h
    rw [lastT_cons]
    exact lastT_ok l e.at_ t (evMay_from h1) h3
/-- EventJoins: the bytes of the first ones, and of the others. -/
theorem putE_joins (f : Int) (l k : List Ev) (hl : (l ++ k).length ≤ 60) :
    (putE f (l ++ k)).2 = ((putE f l).2 && (putE (lastT f l) k).2) ∧ ((putE f (l ++ k)).2 = true → (putE f (l ++ k)).1 = (putE f l).1 ++ (putE (lastT f l) k).1) := by
  rw [List.length_append] at hl
  by_cases hf : okFrom f
  · have ha := stepsE_append l k f
    cases h1 : stepsE f l with
    | none =>
      rw [h1] at ha
      have e1 : putE f (l ++ k) = ([], false) := by unfold putE; rw [if_pos hf, ha]
      have e2 : putE f l = ([], false) := by unfold putE; rw [if_pos hf, h1]
      rw [e1, e2]
      exact ⟨rfl, fun h => by cases h⟩
    | some a =>
      rw [h1] at ha
      have hla := lastT_ok l f a hf h1
      have q1 := stepsE_len l f a h1
      have e2 := putE_pos hf h1 (by omega)
      cases h2 : stepsE (lastT f l) k with
      | none =>
        rw [h2] at ha
        have e1 : putE f (l ++ k) = ([], false) := by unfold putE; rw [if_pos hf, ha]; rfl
        have e3 : putE (lastT f l) k = ([], false) := by unfold putE; rw [if_pos hla, h2]
        rw [e1, e2, e3]
        exact ⟨rfl, fun h => by cases h⟩
      | some b =>
        rw [h2] at ha
        have q2 := stepsE_len k _ b h2
        have e3 := putE_pos hla h2 (by omega)
        have e1 := putE_pos (ns := a ++ b) hf ha (by rw [List.length_append]; omega)
        rw [e1, e2, e3]
        exact ⟨rfl, fun _ => by simp⟩
  · have e1 : putE f (l ++ k) = ([], false) := by unfold putE; rw [if_neg hf]
    have e2 : putE f l = ([], false) := by unfold putE; rw [if_neg hf]
    rw [e1, e2]
    exact ⟨rfl, fun h => by cases h⟩
theorem putF_len : ∀ (j f : Nat) (n : Int), 0 ≤ n → n < 128 ^ (j + 1) → (putF f n).length ≤ j + 1
  | j, 0, n, h0, h => by unfold putF; simp
  | j, f + 1, n, h0, h => by
    unfold putF
    by_cases h1 : n < 128
    · rw [if_pos h1]; simp
    · rw [if_neg h1]
      cases j with
      | zero => exact absurd (by simpa using h) h1
      | succ j =>
        have := putF_len j f (n / 128) (by omega) (pow_step j n h)
        simp
        omega
theorem put_len {n : Int} (j : Nat) (h0 : 0 ≤ n) (h : n < 128 ^ (j + 1)) : (put n).length ≤ j + 1 := putF_len j 5 n h0 h
theorem pow5 : (128 : Int) ^ (4 + 1) = 34359738368 := by rfl
theorem pow2 : (128 : Int) ^ (1 + 1) = 16384 := by rfl
theorem pow1 : (128 : Int) ^ (0 + 1) = 128 := by rfl
/-- EventShort: a grant, or a release, is short. -/
theorem putE_short {f : Int} {e : Ev} (h : (putE f [e]).2 = true) (hk : e.kind = 0 ∨ e.kind = 1) : 2 ≤ (putE f [e]).1.length ∧ (putE f [e]).1.length ≤ 7 ∧ (e.at_ = f → (putE f [e]).1.length ≤ 3) := by
  rcases putE_cases f [e] with ⟨ns, h1, h2, h3, h4⟩ | g
  · rw [h4]
    obtain ⟨g1, g2, t, g3, rfl⟩ := stepsE_cons h2
    cases g3
    have hn : numsE e = [32 * e.a + 8 * e.b + e.c] := by unfold numsE; rw [if_pos hk]
    rw [hn]
    have g4 := g1.2.2.2
    unfold evHas at g4
    have hb : 0 ≤ 32 * e.a + 8 * e.b + e.c ∧ 32 * e.a + 8 * e.b + e.c < 16384 := by omega
    have ha := g1.2.1
    have hf := h1.1
    have p1 := put_pos (16 * (e.at_ - f) + e.kind)
    have p2 := put_pos (32 * e.a + 8 * e.b + e.c)
    have p3 := put_len (n := 16 * (e.at_ - f) + e.kind) 4 (by omega) (by rw [pow5]; omega)
    have p4 := put_len (n := 32 * e.a + 8 * e.b + e.c) 1 hb.1 (by rw [pow2]; omega)
    have hl : ((16 * (e.at_ - f) + e.kind) :: ([32 * e.a + 8 * e.b + e.c] ++ []) : List Int).flatMap put = put (16 * (e.at_ - f) + e.kind) ++ put (32 * e.a + 8 * e.b + e.c) := by simp
    rw [hl]
    simp only [List.length_append]
    refine ⟨by omega, by omega, fun he => ?_⟩
    have p5 := put_len (n := 16 * (e.at_ - f) + e.kind) 0 (by omega) (by rw [pow1]; omega)
    omega
  · rw [g] at h; cases h
/-- EventStays: late. -/
theorem putE_one {f : Int} {e : Ev} (h : (putE f [e]).2 = true) : evMay e ∧ f ≤ e.at_ := by
  rcases putE_cases f [e] with ⟨ns, h1, h2, h3, h4⟩ | g
  · obtain ⟨g1, g2, -⟩ := stepsE_cons h2
    exact ⟨g1, g2⟩
  · rw [g] at h; cases h
theorem stepsE_prefix : ∀ (x l : List Ev) (f : Int) (nx r : List Int), stepsE f x = some nx → stepsE f l = some (nx ++ r) → ∃ y, l = x ++ y
  | [], l, f, nx, r, hx, hl => ⟨l, rfl⟩
  | e :: x, l, f, nx, r, hx, hl => by
    obtain ⟨g1, g2, t, g3, rfl⟩ := stepsE_cons hx
    cases l with
    | nil => cases hl
    | cons e' l =>
      obtain ⟨k1, k2, t', k3, k4⟩ := stepsE_cons hl
      have a1 := oneE_put g1 g2 (t ++ r)
      have a2 := oneE_put k1 k2 t'
      rw [← k4] at a2
      have a3 : (16 * (e.at_ - f) + e.kind) :: (numsE e ++ t) ++ r = (16 * (e.at_ - f) + e.kind) :: (numsE e ++ (t ++ r)) := by simp
      rw [a3, a1] at a2
      have a4 := Option.some.inj a2
      have e1 : e = e' := congrArg Prod.fst a4
      have e2 : t ++ r = t' := congrArg Prod.snd a4
      subst e1
      rw [← e2] at k3
      obtain ⟨y, rfl⟩ := stepsE_prefix x l e.at_ t r g3 k3
      exact ⟨y, rfl⟩
/-- EventCut: what a beginning of the bytes is read as. -/
theorem readE_cut {f : Int} {l : List Ev} (h : (putE f l).2 = true) (k : Nat) (hk : k ≤ (putE f l).1.length) (hr : (readE f ((putE f l).1.take k)).2 = true) :
    (readE f ((putE f l).1.take k)).1.length ≤ l.length ∧ (readE f ((putE f l).1.take k)).1 = l.take (readE f ((putE f l).1.take k)).1.length ∧ putE f (readE f ((putE f l).1.take k)).1 = ((putE f l).1.take k, true) := by
  rcases readE_cases f ((putE f l).1.take k) (okB_take (putE_ok f l).1 k) with ⟨g1, g2⟩ | g
  · generalize (readE f ((putE f l).1.take k)).1 = x at *
    rcases putE_cases f l with ⟨ns, h1, h2, h3, h4⟩ | g'
    · rcases putE_cases f x with ⟨nx, q1, q2, q3, q4⟩ | q
      · have hp : nx.flatMap put = (ns.flatMap put).take k := by
          rw [h4] at g2
          have := congrArg Prod.fst (q4.symm.trans g2)
          exact this
        have hs : ns.flatMap put = nx.flatMap put ++ (ns.flatMap put).drop k := by rw [hp, List.take_append_drop]
        have r1 := read_all (stepsE_may l f ns h1 h2)
        rw [hs, read_flat nx _ (stepsE_may x f nx q1 q2)] at r1
        obtain ⟨r, -, r3⟩ := Option.map_eq_some_iff.1 r1
        rw [← r3] at h2
        obtain ⟨y, rfl⟩ := stepsE_prefix x l f nx r q2 h2
        exact ⟨by simp, by simp, g2⟩
      · rw [q] at g2
        cases congrArg Prod.snd g2
    · rw [g'] at h; cases h
  · rw [g] at hr; cases hr
theorem putE_nil (f : Int) : putE f [] = ([], decide (okFrom f)) := by
  unfold putE
  by_cases h : okFrom f
  · rw [if_pos h, decide_eq_true h]
    rfl
  · rw [if_neg h, decide_eq_false h]
theorem readE_nil (f : Int) : readE f [] = ([], decide (okFrom f)) := by
  by_cases h : okFrom f
  · have h1 : (putE f []).2 = true := by rw [putE_nil, decide_eq_true h]
    have h2 := readE_put h1
    rw [putE_nil] at h2
    rw [decide_eq_true h]
    exact h2
  · unfold readE
    rw [if_neg (fun g => h g.2), decide_eq_false h]
end Moor
