/-! Plain laws of numbers as bytes (layer 1): what is put, got, read; no program in sight. -/
namespace Moor

def MaxNum : Int := 1099511627776

/-- Bytes: each from 0 to 255. -/
def okB (l : List Int) : Prop := ∀ x ∈ l, 0 ≤ x ∧ x ≤ 255
instance (l : List Int) : Decidable (okB l) := by unfold okB; infer_instance

def putF : Nat → Int → List Int
  | 0, n => [n % 256]
  | f + 1, n => if n < 128 then [n] else (n % 128 + 128) :: putF f (n / 128)

def mayN (n : Int) : Prop := 0 ≤ n ∧ n ≤ 1099511627776
instance (n : Int) : Decidable (mayN n) := by unfold mayN; infer_instance

def put (n : Int) : List Int := putF 5 n
def vPut (n : Int) : List Int := if mayN n then put n else []

/-- The number that bytes begin with, and how many of them it takes; f bytes at most. -/
def decF : Nat → List Int → Option (Int × Nat)
  | 0, _ => none
  | _ + 1, [] => none
  | f + 1, c :: t => if c < 128 then some (c, 1) else match decF f t with
    | some (m, k) => if m = 0 then none else some (c - 128 + 128 * m, k + 1)
    | none => none

/-- .. the number may be. -/
def dec (l : List Int) : Option (Int × Nat) := match decF 6 l with
  | some (n, k) => if n ≤ 1099511627776 then some (n, k) else none
  | none => none

def vGet (l : List Int) (at_ : Int) : Int × Int :=
  if at_ < 0 ∨ at_ > l.length then (0, -1) else match dec (l.drop at_.toNat) with
    | some (n, k) => (n, at_ + k)
    | none => (0, -1)

def vAll (l : List Int) : List Int × Bool := if l.length ≤ 400 ∧ ∀ x ∈ l, mayN x then (l.flatMap put, true) else ([], false)

def readF : Nat → List Int → Option (List Int)
  | _, [] => some []
  | 0, _ :: _ => none
  | f + 1, c :: t => match dec (c :: t) with
    | some (n, k) => (readF f ((c :: t).drop k)).map (n :: ·)
    | none => none
def read (l : List Int) : Option (List Int) := readF l.length l
def vRead (l : List Int) : List Int × Bool := match read l with
  | some out => if out.length ≤ 400 then (out, true) else ([], false)
  | none => ([], false)

/-! ### what is put -/
theorem putF_ok : ∀ (f : Nat) (n : Int), 0 ≤ n → n < 128 ^ (f + 1) → okB (putF f n)
  | 0, n, h0, h1 => by
    intro x hx
    simp [putF] at hx
    omega
  | f + 1, n, h0, h1 => by
    unfold putF
    split
    · intro x hx
      simp at hx
      omega
    · intro x hx
      have h2 : n / 128 < 128 ^ (f + 1) := by
        have : (128 : Int) ^ (f + 1 + 1) = 128 ^ (f + 1) * 128 := Int.pow_succ ..
        rw [this] at h1
        exact Int.ediv_lt_of_lt_mul (by decide) h1
      rcases List.mem_cons.1 hx with rfl | hx
      · omega
      · exact putF_ok f (n / 128) (by omega) h2 x hx
theorem put_ok {n : Int} (h : mayN n) : okB (put n) := putF_ok 5 n h.1 (by have := h.2; show n < 4398046511104; omega)

theorem putF_pos : ∀ (f : Nat) (n : Int), 0 < (putF f n).length
  | 0, _ => by simp [putF]
  | f + 1, n => by unfold putF; split <;> simp

theorem putF_le : ∀ (f : Nat) (n : Int), (putF f n).length ≤ f + 1
  | 0, _ => by simp [putF]
  | f + 1, n => by
    unfold putF
    split
    · simp
    · have := putF_le f (n / 128)
      simp
      omega
theorem put_pos (n : Int) : 0 < (put n).length := putF_pos 5 n
theorem put_le (n : Int) : (put n).length ≤ 6 := putF_le 5 n

theorem pow_step (f : Nat) (n : Int) (h1 : n < 128 ^ (f + 1 + 1)) : n / 128 < 128 ^ (f + 1) := by
  have : (128 : Int) ^ (f + 1 + 1) = 128 ^ (f + 1) * 128 := Int.pow_succ ..
  rw [this] at h1
  exact Int.ediv_lt_of_lt_mul (by decide) h1

/-- What is put is got, whatever stands behind it. -/
theorem dec_putF : ∀ (g f : Nat) (n : Int) (rest : List Int), g < f → 0 ≤ n → n < 128 ^ (g + 1) → decF f (putF g n ++ rest) = some (n, (putF g n).length)
  | 0, f, n, rest, hf, h0, h1 => by
    obtain ⟨f, rfl⟩ : ∃ m, f = m + 1 := ⟨f - 1, by omega⟩
    have e : n % 256 = n := by simp at h1; omega
    have : n < 128 := by simpa using h1
    simp [putF, decF, e, this]
  | g + 1, f, n, rest, hf, h0, h1 => by
    obtain ⟨f, rfl⟩ : ∃ m, f = m + 1 := ⟨f - 1, by omega⟩
    unfold putF
    split
    · rename_i h
      simp [decF, h]
    · rename_i h
      have ih := dec_putF g f (n / 128) rest (by omega) (by omega) (pow_step g n h1)
      have h2 : ¬ (n % 128 + 128 < 128) := by omega
      have h3 : ¬ (n / 128 = 0) := by omega
      simp only [List.cons_append, decF, h2, if_false, ih, h3, List.length_cons]
      congr 2
      omega
theorem dec_put {n : Int} (h : mayN n) (rest : List Int) : dec (put n ++ rest) = some (n, (put n).length) := by
  have h1 := h.1
  have h2 := h.2
  unfold dec put
  rw [dec_putF 5 6 n rest (by omega) h1 (by show n < 4398046511104; omega)]
  simp [h2]

/-- What is got was put. -/
theorem decF_put : ∀ (f : Nat) (l : List Int) (n : Int) (k : Nat), okB l → decF f l = some (n, k) →
    0 ≤ n ∧ n < 128 ^ f ∧ 0 < k ∧ k ≤ f ∧ k ≤ l.length ∧ (∀ g, k ≤ g + 1 → putF g n = l.take k) ∧ (2 ≤ k → 128 ≤ n)
  | 0, l, n, k, _, h => by simp [decF] at h
  | f + 1, [], n, k, _, h => by simp [decF] at h
  | f + 1, c :: t, n, k, ho, h => by
    have hc := ho c (by simp)
    have hp : (1 : Int) ≤ 128 ^ f := (by have := Int.pow_pos (n := 128) (m := f) (by decide); omega)
    have hs : (128 : Int) ^ (f + 1) = 128 ^ f * 128 := Int.pow_succ ..
    unfold decF at h
    split at h
    · rename_i hlt
      simp only [Option.some.injEq, Prod.mk.injEq] at h
      obtain ⟨rfl, rfl⟩ := h
      refine ⟨hc.1, by omega, by omega, by omega, by simp, fun g _ => ?_, by omega⟩
      cases g with
      | zero =>
        simp [putF]
        omega
      | succ g => simp [putF, hlt]
    · rename_i hge
      split at h
      · rename_i m j hm
        split at h
        · simp at h
        · rename_i hm0
          simp only [Option.some.injEq, Prod.mk.injEq] at h
          obtain ⟨rfl, rfl⟩ := h
          obtain ⟨h1, h2, h3, h4, h5, h6, h7⟩ := decF_put f t m j (fun x hx => ho x (by simp [hx])) hm
          refine ⟨by omega, by omega, by omega, by omega, by simp; omega, fun g hg => ?_, fun _ => by omega⟩
          cases g with
          | zero => omega
          | succ g =>
            have hn : ¬ (c - 128 + 128 * m < 128) := by omega
            simp only [putF, hn, if_false, List.take_succ_cons]
            have e1 : (c - 128 + 128 * m) % 128 + 128 = c := by omega
            have e2 : (c - 128 + 128 * m) / 128 = m := by omega
            rw [e1, e2, h6 g (by omega)]
      · simp at h

/-- A beginning of what is got, but all of it, is none. -/
theorem decF_take : ∀ (f : Nat) (l : List Int) (n : Int) (k j : Nat), decF f l = some (n, k) → j < k → decF f (l.take j) = none
  | 0, l, n, k, j, h, _ => by simp [decF] at h
  | f + 1, [], n, k, j, h, _ => by simp [decF] at h
  | f + 1, c :: t, n, k, 0, h, _ => by simp [decF]
  | f + 1, c :: t, n, k, j + 1, h, hj => by
    simp only [List.take_succ_cons]
    unfold decF at h ⊢
    split at h
    · simp at h
      omega
    · rename_i hge
      rw [if_neg hge]
      split at h
      · rename_i m i hm
        split at h
        · simp at h
        · simp at h
          rw [decF_take f t m i j hm (by omega)]
      · simp at h
theorem dec_some {l : List Int} {n : Int} {k : Nat} (h : dec l = some (n, k)) : decF 6 l = some (n, k) ∧ n ≤ 1099511627776 := by
  unfold dec at h
  split at h
  · rename_i m j hm
    split at h
    · simp at h
      obtain ⟨rfl, rfl⟩ := h
      exact ⟨hm, by assumption⟩
    · simp at h
  · simp at h
theorem dec_put_of {l : List Int} {n : Int} {k : Nat} (ho : okB l) (h : dec l = some (n, k)) : mayN n ∧ 0 < k ∧ k ≤ 6 ∧ k ≤ l.length ∧ put n = l.take k := by
  obtain ⟨h1, h2⟩ := dec_some h
  obtain ⟨a, b, c, d, e, g, _⟩ := decF_put 6 l n k ho h1
  exact ⟨⟨a, h2⟩, c, d, e, g 5 (by omega)⟩
theorem dec_take {l : List Int} {n : Int} {k j : Nat} (h : dec l = some (n, k)) (hj : j < k) : dec (l.take j) = none := by
  unfold dec
  rw [decF_take 6 l n k j (dec_some h).1 hj]
theorem dec_pos {l : List Int} {n : Int} {k : Nat} (h : dec l = some (n, k)) : 0 < k ∧ k ≤ l.length := by
  have : ∀ (f : Nat) (l : List Int) (n : Int) (k : Nat), decF f l = some (n, k) → 0 < k ∧ k ≤ l.length := by
    intro f
    induction f with
    | zero => intro l n k h; simp [decF] at h
    | succ f ih =>
      intro l n k h
      cases l with
      | nil => simp [decF] at h
      | cons c t =>
        unfold decF at h
        split at h
        · simp at h; simp; omega
        · split at h
          · rename_i m j hm
            split at h
            · simp at h
            · simp at h
              have := ih t m j hm
              simp; omega
          · simp at h
  exact this 6 l n k (dec_some h).1
theorem put_inj {n m : Int} (hn : mayN n) (hm : mayN m) (h : put n = put m) : n = m := by
  have a := dec_put hn []
  rw [h, dec_put hm []] at a
  simp at a
  exact a.symm
theorem putF_mono : ∀ (f : Nat) (n m : Int), n ≤ m → (putF f n).length ≤ (putF f m).length
  | 0, n, m, _ => by simp [putF]
  | f + 1, n, m, h => by
    unfold putF
    split
    · split <;> simp
    · rw [if_neg (by omega)]
      have := putF_mono f (n / 128) (m / 128) (by omega)
      simpa using this

/-! ### what is read -/
theorem okB_drop {l : List Int} (h : okB l) (k : Nat) : okB (l.drop k) := fun x hx => h x (List.mem_of_mem_drop hx)
theorem okB_take {l : List Int} (h : okB l) (k : Nat) : okB (l.take k) := fun x hx => h x (List.mem_of_mem_take hx)
theorem okB_append {l k : List Int} (h : okB l) (g : okB k) : okB (l ++ k) := fun x hx => (List.mem_append.1 hx).elim (h x) (g x)
theorem okB_nil : okB [] := fun x hx => by simp at hx
theorem okB_flat {l : List Int} (h : ∀ x ∈ l, mayN x) : okB (l.flatMap put) := by
  intro y hy
  obtain ⟨x, hx, hy⟩ := List.mem_flatMap.1 hy
  exact put_ok (h x hx) y hy

theorem readF_more : ∀ (f g : Nat) (l : List Int), l.length ≤ f → l.length ≤ g → readF f l = readF g l
  | f, g, [], _, _ => by cases f <;> cases g <;> simp [readF]
  | f + 1, g + 1, c :: t, hf, hg => by
    unfold readF
    split
    · rename_i n k hd
      have := dec_pos hd
      rw [readF_more f g ((c :: t).drop k) (by simp at *; omega) (by simp at *; omega)]
    · rfl
  | 0, _, c :: t, hf, _ => by simp at hf
  | _, 0, c :: t, _, hg => by simp at hg
theorem read_nil : read [] = some [] := rfl
theorem read_step {l : List Int} (hl : l ≠ []) {n : Int} {k : Nat} (h : dec l = some (n, k)) : read l = (read (l.drop k)).map (n :: ·) := by
  cases l with
  | nil => exact absurd rfl hl
  | cons c t =>
    have := dec_pos h
    have e : readF (t.length + 1) (c :: t) = (readF t.length ((c :: t).drop k)).map (n :: ·) := by simp only [readF, h]
    show readF (t.length + 1) (c :: t) = _
    rw [e, readF_more t.length ((c :: t).drop k).length _ (by simp at *; omega) (Nat.le_refl _)]
    rfl
theorem read_none {l : List Int} (hl : l ≠ []) (h : dec l = none) : read l = none := by
  cases l with
  | nil => exact absurd rfl hl
  | cons c t =>
    show readF (t.length + 1) (c :: t) = _
    unfold readF
    rw [h]
theorem read_put {n : Int} (h : mayN n) (rest : List Int) : read (put n ++ rest) = (read rest).map (n :: ·) := by
  have hp := put_pos n
  rw [read_step (by intro e; simp at e; rw [e.1] at hp; simp at hp) (dec_put h rest)]
  simp
/-- What all are is read as them. -/
theorem read_flat : ∀ (l : List Int) (rest : List Int), (∀ x ∈ l, mayN x) → read (l.flatMap put ++ rest) = (read rest).map (l ++ ·)
  | [], rest, _ => by cases h : read rest <;> simp [h]
  | n :: l, rest, h => by
    rw [List.flatMap_cons, List.append_assoc, read_put (h n (by simp)), read_flat l rest (fun x hx => h x (by simp [hx]))]
    cases read rest <;> simp
theorem read_all {l : List Int} (h : ∀ x ∈ l, mayN x) : read (l.flatMap put) = some l := by
  have := read_flat l [] h
  simpa [read_nil] using this
/-- What is read is all's bytes. -/
theorem read_of : ∀ (f : Nat) (b l : List Int), b.length ≤ f → okB b → read b = some l → (∀ x ∈ l, mayN x) ∧ l.flatMap put = b ∧ l.length ≤ b.length ∧ (b ≠ [] → l ≠ [])
  | _, [], l, _, _, h => by
    rw [read_nil] at h
    simp at h
    subst h
    simp
  | 0, c :: t, l, hf, _, _ => by simp at hf
  | f + 1, c :: t, l, hf, ho, h => by
    cases hd : dec (c :: t) with
    | none => rw [read_none (by simp) hd] at h; simp at h
    | some p =>
      obtain ⟨n, k⟩ := p
      rw [read_step (by simp) hd] at h
      obtain ⟨hn, hk, _, hkl, hp⟩ := dec_put_of ho hd
      cases hr : read ((c :: t).drop k) with
      | none => rw [hr] at h; simp at h
      | some m =>
        rw [hr] at h
        simp at h
        subst h
        obtain ⟨h1, h2, h3, _⟩ := read_of f _ m (by simp at *; omega) (okB_drop ho k) hr
        refine ⟨fun x hx => ?_, ?_, ?_, by simp⟩
        · rcases List.mem_cons.1 hx with rfl | hx
          · exact hn
          · exact h1 x hx
        · rw [List.flatMap_cons, h2, hp, List.take_append_drop]
        · simp at *
          omega
theorem read_back {b l : List Int} (ho : okB b) (h : read b = some l) : (∀ x ∈ l, mayN x) ∧ l.flatMap put = b ∧ l.length ≤ b.length ∧ (b ≠ [] → l ≠ []) := read_of b.length b l (Nat.le_refl _) ho h
theorem flat_inj {l k : List Int} (hl : ∀ x ∈ l, mayN x) (hk : ∀ x ∈ k, mayN x) (h : l.flatMap put = k.flatMap put) : l = k := by
  have a := read_all hl
  rw [h, read_all hk] at a
  simpa using a.symm

/-! ### what a reader hands on: numbers, and where each ends -/
def seqP : Nat → List Int → Nat → List (Int × Int)
  | 0, _, _ => []
  | f + 1, l, a => if a < l.length then vGet l a :: (if (vGet l a).2 = -1 then [] else seqP f l (vGet l a).2.toNat) else []
theorem vGet_some {l : List Int} {a : Nat} {n : Int} {k : Nat} (ha : a ≤ l.length) (h : dec (l.drop a) = some (n, k)) : vGet l a = (n, ((a + k : Nat) : Int)) := by
  unfold vGet
  rw [if_neg (by omega)]
  simp only [Int.toNat_natCast, h]
  simp
theorem vGet_none {l : List Int} {a : Nat} (h : dec (l.drop a) = none) : vGet l a = (0, -1) := by
  unfold vGet
  split
  · rfl
  · simp only [Int.toNat_natCast, h]
theorem vGet_bound (l : List Int) (a : Int) : (vGet l a).2 = -1 ∨ (0 ≤ a ∧ a < (vGet l a).2 ∧ (vGet l a).2 ≤ l.length) := by
  unfold vGet
  split
  · exact .inl rfl
  · rename_i h
    cases hd : dec (l.drop a.toNat) with
    | none => exact .inl rfl
    | some p =>
      obtain ⟨n, k⟩ := p
      have := dec_pos hd
      simp at this
      refine .inr ⟨by omega, ?_, ?_⟩ <;> simp <;> omega
theorem seqP_le : ∀ (f : Nat) (l : List Int) (a : Nat), (seqP f l a).length ≤ f
  | 0, _, _ => by simp [seqP]
  | f + 1, l, a => by
    unfold seqP
    split
    · split
      · simp
      · have := seqP_le f l (vGet l a).2.toNat
        simp
        omega
    · simp
/-- What was handed on whole, without an end of -1, is what is read. -/
theorem seqP_read : ∀ (f : Nat) (l : List Int) (a : Nat), a ≤ l.length → l.length - a ≤ f →
    read (l.drop a) = if ∀ p ∈ seqP f l a, p.2 ≠ -1 then some ((seqP f l a).map (·.1)) else none
  | 0, l, a, ha, hf => by
    have : l.drop a = [] := List.drop_eq_nil_iff.2 (by omega)
    rw [this, read_nil]
    simp [seqP]
  | f + 1, l, a, ha, hf => by
    by_cases hlt : a < l.length
    · have hne : l.drop a ≠ [] := fun e => by have := List.drop_eq_nil_iff.1 e; omega
      unfold seqP
      rw [if_pos hlt]
      cases hd : dec (l.drop a) with
      | none =>
        rw [read_none hne hd, vGet_none hd]
        simp
      | some p =>
        obtain ⟨n, k⟩ := p
        have hk := dec_pos hd
        simp at hk
        rw [read_step hne hd, vGet_some ha hd, List.drop_drop, seqP_read f l (a + k) (by omega) (by omega)]
        simp only [Int.toNat_natCast]
        have hn1 : ¬ (((a + k : Nat) : Int) = -1) := by omega
        rw [if_neg hn1]
        by_cases h : ∀ p ∈ seqP f l (a + k), p.2 ≠ -1
        · have h' : ∀ p ∈ (n, ((a + k : Nat) : Int)) :: seqP f l (a + k), p.2 ≠ -1 := fun p hp => by
            rcases List.mem_cons.1 hp with rfl | hp
            · exact hn1
            · exact h p hp
          rw [if_pos h, if_pos h']
          rfl
        · rw [if_neg h, if_neg (fun g => h fun p hp => g p (List.mem_cons_of_mem _ hp))]
          rfl
    · have : l.drop a = [] := List.drop_eq_nil_iff.2 (by omega)
      unfold seqP
      rw [this, read_nil, if_neg hlt]
      simp
theorem vRead_seq (l : List Int) : vRead l = if (∀ p ∈ seqP l.length l 0, p.2 ≠ -1) ∧ (seqP l.length l 0).length ≤ 400 then ((seqP l.length l 0).map (·.1), true) else ([], false) := by
  unfold vRead
  have := seqP_read l.length l 0 (by omega) (by omega)
  rw [List.drop_zero] at this
  rw [this]
  by_cases h : ∀ p ∈ seqP l.length l 0, p.2 ≠ -1
  · rw [if_pos h]
    simp only [List.length_map]
    by_cases h2 : (seqP l.length l 0).length ≤ 400
    · rw [if_pos h2, if_pos ⟨h, h2⟩]
    · rw [if_neg h2, if_neg (fun g => h2 g.2)]
  · rw [if_neg h, if_neg (fun g => h g.1)]

/-! ### the two answers of each -/
theorem vAll_pos {l : List Int} (h : l.length ≤ 400 ∧ ∀ x ∈ l, mayN x) : vAll l = (l.flatMap put, true) := by unfold vAll; rw [if_pos h]
theorem vAll_neg {l : List Int} (h : ¬ (l.length ≤ 400 ∧ ∀ x ∈ l, mayN x)) : vAll l = ([], false) := by unfold vAll; rw [if_neg h]
theorem flat_le : ∀ k : List Int, (k.flatMap put).length ≤ 6 * k.length
  | [] => by simp
  | x :: k => by
    have h1 := put_le x
    have h2 := flat_le k
    rw [List.flatMap_cons, List.length_append, List.length_cons]
    omega
theorem flat_ge : ∀ k : List Int, k.length ≤ (k.flatMap put).length
  | [] => by simp
  | x :: k => by
    have h1 := put_pos x
    have h2 := flat_ge k
    rw [List.flatMap_cons, List.length_append, List.length_cons]
    omega
theorem vAll_ok (l : List Int) : okB (vAll l).1 ∧ (vAll l).1.length ≤ 2400 := by
  by_cases h : l.length ≤ 400 ∧ ∀ x ∈ l, mayN x
  · rw [vAll_pos h]
    refine ⟨okB_flat h.2, ?_⟩
    have h1 := flat_le l
    have h2 := h.1
    show (l.flatMap put).length ≤ 2400
    omega
  · rw [vAll_neg h]
    exact ⟨okB_nil, by simp⟩
theorem vRead_pos {l m : List Int} (h : read l = some m) (hm : m.length ≤ 400) : vRead l = (m, true) := by unfold vRead; rw [h]; simp only; rw [if_pos hm]
theorem vRead_neg {l : List Int} (h : ∀ m, read l = some m → ¬ m.length ≤ 400) : vRead l = ([], false) := by
  unfold vRead
  cases hr : read l with
  | none => rfl
  | some m =>
    simp only
    rw [if_neg (h m hr)]
theorem vRead_le (l : List Int) : (vRead l).1.length ≤ 400 := by
  by_cases h : ∃ m, read l = some m ∧ m.length ≤ 400
  · obtain ⟨m, h1, h2⟩ := h
    rw [vRead_pos h1 h2]
    exact h2
  · rw [vRead_neg (fun m h1 h2 => h ⟨m, h1, h2⟩)]
    simp
theorem vPut_pos {n : Int} (h : mayN n) : vPut n = put n := by unfold vPut; rw [if_pos h]
theorem vPut_neg {n : Int} (h : ¬ mayN n) : vPut n = [] := by unfold vPut; rw [if_neg h]

end Moor
