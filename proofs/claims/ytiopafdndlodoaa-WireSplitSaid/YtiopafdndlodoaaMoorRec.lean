import Derived.Test.YtiopafdndlodoaaMoorCrc
set_option linter.unusedVariables false
set_option linter.unusedSimpArgs false
/-! Plain laws of records (layer 5): what is put, got; no program in sight. -/
namespace Moor

structure Rc where
  kind : Int
  body : List Int
deriving DecidableEq
def recMay (r : Rc) : Prop := 0 ≤ r.kind ∧ r.kind ≤ 255 ∧ r.body.length ≤ 1000
instance (r : Rc) : Decidable (recMay r) := by unfold recMay; infer_instance
def recBytes (r : Rc) : List Int := cSeal (r.kind :: (put (r.body.length : Int) ++ r.body))
def rPut (r : Rc) : List Int × Bool := if recMay r then (recBytes r, true) else ([], false)
/-- Might a number go on behind the end? -/
def openR (l : List Int) : Bool := decide (l.length < 6) && l.all fun c => decide (128 ≤ c)
/-- The record that bytes begin with, and its length; or why not. -/
def recF : List Int → (Rc × Nat) ⊕ Int
  | [] => .inr 4
  | c :: t => if openR t = true then .inr 4 else match dec t with
    | none => .inr 2
    | some (n, k) => if n > 1000 then .inr 2 else if (t.length : Int) < k + n + 4 then .inr 4
      else if (cOpen (c :: t.take (k + n.toNat + 4))).2 = true then .inl (⟨c, (cOpen (c :: t.take (k + n.toNat + 4))).1.drop (1 + k)⟩, 1 + k + n.toNat + 4) else .inr 3
theorem recF_cons (c : Int) (t : List Int) : recF (c :: t) = if openR t = true then .inr 4 else match dec t with
    | none => .inr 2
    | some (n, k) => if n > 1000 then .inr 2 else if (t.length : Int) < k + n + 4 then .inr 4
      else if (cOpen (c :: t.take (k + n.toNat + 4))).2 = true then .inl (⟨c, (cOpen (c :: t.take (k + n.toNat + 4))).1.drop (1 + k)⟩, 1 + k + n.toNat + 4) else .inr 3 := rfl
def rGet (b : List Int) (at_ : Int) : Rc × Int × Int :=
  if at_ < 0 ∨ at_ > b.length then (⟨0, []⟩, 0, 2) else match recF (b.drop at_.toNat) with
    | .inl (r, k) => (r, at_ + k, 0)
    | .inr e => (⟨0, []⟩, 0, e)

theorem decF_small : ∀ (f : Nat) (l : List Int) (n : Int) (k : Nat), decF f l = some (n, k) → ∃ x ∈ l, x < 128
  | 0, l, n, k, h => by simp [decF] at h
  | f + 1, [], n, k, h => by simp [decF] at h
  | f + 1, c :: t, n, k, h => by
    unfold decF at h
    by_cases hc : c < 128
    · exact ⟨c, by simp, hc⟩
    · rw [if_neg hc] at h
      cases hd : decF f t with
      | none => rw [hd] at h; simp at h
      | some p =>
        obtain ⟨m, j⟩ := p
        obtain ⟨x, hx, hl⟩ := decF_small f t m j hd
        exact ⟨x, by simp [hx], hl⟩
theorem openR_dec {l : List Int} {n : Int} {k : Nat} (h : dec l = some (n, k)) : openR l = false := by
  obtain ⟨x, hx, hl⟩ := decF_small 6 l n k (dec_some h).1
  unfold openR
  rw [Bool.and_eq_false_iff]
  right
  rw [List.all_eq_false]
  exact ⟨x, hx, by simp; omega⟩
theorem putF_open : ∀ (f : Nat) (n : Int) (j : Nat), 0 ≤ n → j < (putF f n).length → ∀ x ∈ (putF f n).take j, 128 ≤ x
  | 0, n, j, h, hj, x, hx => by
    unfold putF at hj hx
    have : j = 0 := by simp at hj; omega
    subst this
    simp at hx
  | f + 1, n, j, h, hj, x, hx => by
    unfold putF at hj hx
    by_cases hn : n < 128
    · rw [if_pos hn] at hj hx
      have : j = 0 := by simp at hj; omega
      subst this
      simp at hx
    · rw [if_neg hn] at hj hx
      cases j with
      | zero => simp at hx
      | succ j =>
        rw [List.take_succ_cons, List.mem_cons] at hx
        rcases hx with e | hx
        · omega
        · exact putF_open f (n / 128) j (by omega) (by simpa using hj) x hx
theorem mayN_len {r : Rc} (h : recMay r) : mayN (r.body.length : Int) := by unfold recMay at h; unfold mayN; omega
theorem recBytes_eq (r : Rc) : recBytes r = r.kind :: (put (r.body.length : Int) ++ (r.body ++ fourB (cSumV (r.kind :: (put (r.body.length : Int) ++ r.body))))) := by
  unfold recBytes cSeal
  simp
theorem fourB_length (v : R32) : (fourB v).length = 4 := by simp [fourB]
theorem recBytes_length (r : Rc) : (recBytes r).length = 5 + (put (r.body.length : Int)).length + r.body.length := by
  unfold recBytes
  rw [cSeal_length]
  simp
  omega
/-- What is put is got. -/
theorem recF_put {r : Rc} (h : recMay r) (c : List Int) : recF (recBytes r ++ c) = .inl (r, (recBytes r).length) := by
  have hm := mayN_len h
  have hl := recBytes_length r
  have hs : cOpen (recBytes r) = (r.kind :: (put (r.body.length : Int) ++ r.body), true) := by unfold recBytes; exact cOpen_seal _
  have he := recBytes_eq r
  have h3 := h.2.2
  generalize hk : put (r.body.length : Int) = pn at *
  have hd : ∀ rest, dec (pn ++ rest) = some ((r.body.length : Int), pn.length) := fun rest => by have := dec_put hm rest; rw [hk] at this; exact this
  have hf := fourB_length (cSumV (r.kind :: (pn ++ r.body)))
  generalize fourB (cSumV (r.kind :: (pn ++ r.body))) = fo at *
  have e1 : recBytes r ++ c = r.kind :: (pn ++ (r.body ++ fo ++ c)) := by rw [he]; simp
  have hdt := hd (r.body ++ fo ++ c)
  rw [e1, recF_cons, if_neg (by rw [openR_dec hdt]; decide), hdt]
  simp only
  have hlt : (pn ++ (r.body ++ fo ++ c)).length = pn.length + r.body.length + 4 + c.length := by simp [hf]; omega
  have e2 : r.kind :: (pn ++ (r.body ++ fo ++ c)).take (pn.length + ((r.body.length : Int)).toNat + 4) = recBytes r := by
    rw [he]
    have : pn ++ (r.body ++ fo ++ c) = (pn ++ (r.body ++ fo)) ++ c := by simp
    rw [this, List.take_left' (by simp [hf]; omega)]
  rw [if_neg (by omega), if_neg (by rw [hlt]; omega), e2, hs]
  simp only [if_true]
  have e3 : (r.kind :: (pn ++ r.body)).drop (1 + pn.length) = r.body := by
    rw [Nat.add_comm, List.drop_succ_cons, List.drop_left]
  rw [e3, hl, Int.toNat_natCast]
  have e4 : 1 + pn.length + r.body.length + 4 = 5 + pn.length + r.body.length := by omega
  rw [e4]
/-- What is got is put as the same bytes. -/
theorem recF_ok {l : List Int} (ho : okB l) {r : Rc} {k : Nat} (h : recF l = .inl (r, k)) : recMay r ∧ recBytes r = l.take k ∧ k ≤ l.length ∧ 6 ≤ k := by
  cases l with
  | nil => simp [recF] at h
  | cons c t =>
    have hc := ho c (by simp)
    have ht : okB t := fun x hx => ho x (by simp [hx])
    rw [recF_cons] at h
    by_cases h1 : openR t = true
    · rw [if_pos h1] at h; cases h
    · rw [if_neg h1] at h
      cases hd : dec t with
      | none => rw [hd] at h; cases h
      | some p =>
        obtain ⟨n, j⟩ := p
        rw [hd] at h
        simp only at h
        obtain ⟨hn, hj0, hj6, hjl, hp⟩ := dec_put_of ht hd
        by_cases h2 : n > 1000
        · rw [if_pos h2] at h; cases h
        · rw [if_neg h2] at h
          by_cases h3 : (t.length : Int) < j + n + 4
          · rw [if_pos h3] at h; cases h
          · rw [if_neg h3] at h
            have hn0 := hn.1
            obtain ⟨m, rfl⟩ := Int.eq_ofNat_of_zero_le hn0
            rw [Int.toNat_natCast] at h
            by_cases h4 : (cOpen (c :: t.take (j + m + 4))).2 = true
            · rw [if_pos h4] at h
              obtain ⟨g1, g2, g3⟩ := cSeal_open h4
              have hsl : (c :: t.take (j + m + 4)).length - 4 = 1 + (j + m) := by simp; omega
              rw [hsl] at g2
              have e1 : (c :: t.take (j + m + 4)).take (1 + (j + m)) = c :: (put (m : Int) ++ (t.drop j).take m) := by
                rw [Nat.add_comm 1, List.take_succ_cons, List.take_take, show min (j + m) (j + m + 4) = j + m by omega, List.take_add, hp]
              rw [e1] at g2
              rw [g2] at g3 h
              have hpl : (put (m : Int)).length = j := by rw [hp]; simp; omega
              have e2 : (c :: (put (m : Int) ++ (t.drop j).take m)).drop (1 + j) = (t.drop j).take m := by
                rw [Nat.add_comm, List.drop_succ_cons, ← hpl, List.drop_left]
              rw [e2] at h
              have hb : ((t.drop j).take m).length = m := by simp; omega
              have h5 := Sum.inl.inj h
              have hr : r = ⟨c, (t.drop j).take m⟩ := (congrArg Prod.fst h5).symm
              have hk : k = 1 + j + m + 4 := (congrArg Prod.snd h5).symm
              subst hr hk
              refine ⟨⟨hc.1, hc.2, by simp only [hb]; omega⟩, ?_, by simp; omega, by omega⟩
              unfold recBytes
              simp only [hb]
              rw [g3]
              have : 1 + j + m + 4 = (j + m + 4) + 1 := by omega
              rw [this, List.take_succ_cons]
            · rw [if_neg h4] at h; cases h
/-- A beginning of a record is short. -/
theorem recF_torn {r : Rc} (h : recMay r) {j : Nat} (hj : j < (recBytes r).length) : recF ((recBytes r).take j) = .inr 4 := by
  have hm := mayN_len h
  have hl := recBytes_length r
  have he := recBytes_eq r
  have h3 := h.2.2
  cases j with
  | zero => rfl
  | succ j =>
    rw [hl] at hj
    rw [he, List.take_succ_cons]
    have hf := fourB_length (cSumV (r.kind :: (put (r.body.length : Int) ++ r.body)))
    generalize fourB (cSumV (r.kind :: (put (r.body.length : Int) ++ r.body))) = fo at *
    rw [recF_cons]
    by_cases h1 : openR ((put (r.body.length : Int) ++ (r.body ++ fo)).take j) = true
    · rw [if_pos h1]
    · rw [if_neg h1]
      by_cases h2 : j < (put (r.body.length : Int)).length
      · refine absurd ?_ h1
        have h6 := put_le (r.body.length : Int)
        rw [List.take_append_of_le_length (by omega)]
        unfold openR
        rw [Bool.and_eq_true, decide_eq_true_eq, List.all_eq_true]
        refine ⟨by simp; omega, fun x hx => ?_⟩
        exact decide_eq_true (putF_open 5 _ j hm.1 h2 x hx)
      · have e1 : (put (r.body.length : Int) ++ (r.body ++ fo)).take j = put (r.body.length : Int) ++ (r.body ++ fo).take (j - (put (r.body.length : Int)).length) := by
          rw [List.take_append, List.take_of_length_le (by omega)]
        rw [e1, dec_put hm]
        simp only
        rw [if_neg (by omega), if_pos (by simp [hf]; omega)]
theorem rPut_pos {r : Rc} (h : recMay r) : rPut r = (recBytes r, true) := by unfold rPut; rw [if_pos h]
theorem rPut_neg {r : Rc} (h : ¬ recMay r) : rPut r = ([], false) := by unfold rPut; rw [if_neg h]
/-- RecLong: how long a record is. -/
theorem put_one {n : Int} (h0 : 0 ≤ n) (h : n < 128) : (put n).length = 1 := by
  unfold put putF
  rw [if_pos h]
  rfl
theorem put_two {n : Int} (h0 : 128 ≤ n) (h : n < 16384) : (put n).length = 2 := by
  unfold put putF
  rw [if_neg (by omega)]
  unfold putF
  rw [if_pos (by omega)]
  rfl
theorem rec_long (r : Rc) : (rPut r).2 = decide (recMay r) ∧ ((rPut r).2 = false → (rPut r).1 = []) ∧ ((rPut r).2 = true → (rPut r).1.length = r.body.length + if r.body.length < 128 then 6 else 7) := by
  by_cases h : recMay r
  · rw [rPut_pos h]
    refine ⟨(decide_eq_true h).symm, fun e => (by cases e), fun _ => ?_⟩
    show (recBytes r).length = _
    rw [recBytes_length]
    by_cases h1 : r.body.length < 128
    · rw [if_pos h1, put_one (by omega) (by omega)]
      omega
    · have := h.2.2
      rw [if_neg h1, put_two (by omega) (by omega)]
      omega
  · rw [rPut_neg h]
    exact ⟨(decide_eq_false h).symm, fun _ => rfl, fun e => by cases e⟩
/-- RecSame: records are the same just if their bytes are. -/
theorem recBytes_inj {r s : Rc} (hr : recMay r) (hs : recMay s) (h : recBytes r = recBytes s) : r = s := by
  have h1 := recF_put hr []
  have h2 := recF_put hs []
  rw [h] at h1
  rw [h1] at h2
  exact congrArg Prod.fst (Sum.inl.inj h2)

theorem rGet_inl {b : List Int} {a : Nat} (ha : a ≤ b.length) {r : Rc} {k : Nat} (h : recF (b.drop a) = .inl (r, k)) : rGet b a = (r, ((a + k : Nat) : Int), 0) := by
  unfold rGet
  rw [if_neg (by omega), Int.toNat_natCast, h]
  simp
theorem rGet_inr {b : List Int} {a : Nat} (ha : a ≤ b.length) {e : Int} (h : recF (b.drop a) = .inr e) : rGet b a = (⟨0, []⟩, 0, e) := by
  unfold rGet
  rw [if_neg (by omega), Int.toNat_natCast, h]
theorem recF_err : ∀ (l : List Int) {e : Int}, recF l = .inr e → e = 2 ∨ e = 3 ∨ e = 4
  | [], e, h => by right; right; exact (Sum.inr.inj h).symm
  | c :: t, e, h => by
    rw [recF_cons] at h
    by_cases h1 : openR t = true
    · rw [if_pos h1] at h; right; right; exact (Sum.inr.inj h).symm
    · rw [if_neg h1] at h
      cases hd : dec t with
      | none => rw [hd] at h; left; exact (Sum.inr.inj h).symm
      | some p =>
        obtain ⟨n, j⟩ := p
        rw [hd] at h
        simp only at h
        by_cases h2 : n > 1000
        · rw [if_pos h2] at h; left; exact (Sum.inr.inj h).symm
        · rw [if_neg h2] at h
          by_cases h3 : (t.length : Int) < j + n + 4
          · rw [if_pos h3] at h; right; right; exact (Sum.inr.inj h).symm
          · rw [if_neg h3] at h
            by_cases h4 : (cOpen (c :: t.take (j + n.toNat + 4))).2 = true
            · rw [if_pos h4] at h; cases h
            · rw [if_neg h4] at h; right; left; exact (Sum.inr.inj h).symm
/-- What is got, or nothing. -/
theorem rGet_cases (b : List Int) (hb : okB b) (at_ : Int) :
    ((rGet b at_).2.2 = 0 ∧ 0 ≤ at_ ∧ recMay (rGet b at_).1 ∧ ∃ k : Nat, (rGet b at_).2.1 = at_ + k ∧ 6 ≤ k ∧ at_ + k ≤ b.length ∧ recBytes (rGet b at_).1 = (b.drop at_.toNat).take k) ∨
      ((rGet b at_).2.2 ≠ 0 ∧ (rGet b at_).1 = ⟨0, []⟩ ∧ (rGet b at_).2.1 = 0) := by
  unfold rGet
  by_cases h : at_ < 0 ∨ at_ > b.length
  · rw [if_pos h]
    exact .inr ⟨by decide, rfl, rfl⟩
  · rw [if_neg h]
    cases hr : recF (b.drop at_.toNat) with
    | inl p =>
      obtain ⟨r, k⟩ := p
      obtain ⟨h1, h2, h3, h4⟩ := recF_ok (okB_drop hb _) hr
      rw [List.length_drop] at h3
      exact .inl ⟨rfl, by omega, h1, k, rfl, h4, by omega, h2⟩
    | inr e =>
      have := recF_err _ hr
      exact .inr ⟨by show e ≠ 0; omega, rfl, rfl⟩
/-- RecBack: what is put is got, whatever stands around it. -/
theorem rGet_put {r : Rc} (h : recMay r) (a c : List Int) : rGet (a ++ recBytes r ++ c) a.length = (r, ((a.length + (recBytes r).length : Nat) : Int), 0) := by
  refine rGet_inl (by simp) ?_
  have : (a ++ recBytes r ++ c).drop a.length = recBytes r ++ c := by simp
  rw [this]
  exact recF_put h c
/-- RecTorn: a beginning of a record is short. -/
theorem rGet_torn {r : Rc} (h : recMay r) (a : List Int) {j : Nat} (hj : j < (recBytes r).length) : rGet (a ++ (recBytes r).take j) a.length = (⟨0, []⟩, 0, 4) := by
  refine rGet_inr (by simp) ?_
  rw [List.drop_left]
  exact recF_torn h hj
/-- The records from a place on, and where they end. -/
def rScanF : Nat → List Int → Nat → List Rc × Nat
  | 0, _, a => ([], a)
  | f + 1, b, a => match recF (b.drop a) with
    | .inl (r, k) => (r :: (rScanF f b (a + k)).1, (rScanF f b (a + k)).2)
    | .inr _ => ([], a)
def rScan (b : List Int) : List Rc × Nat := rScanF (b.length + 1) b 0
def joinR (l : List Rc) : List Int := l.flatMap recBytes
theorem rScanF_ok : ∀ (f : Nat) (b : List Int) (a : Nat), okB b → a ≤ b.length → b.length - a < f →
    (∀ r ∈ (rScanF f b a).1, recMay r) ∧ a ≤ (rScanF f b a).2 ∧ (rScanF f b a).2 ≤ b.length ∧ b.take a ++ joinR (rScanF f b a).1 = b.take (rScanF f b a).2 ∧ ∃ e, recF (b.drop (rScanF f b a).2) = .inr e
  | 0, b, a, ho, ha, hf => by omega
  | f + 1, b, a, ho, ha, hf => by
    unfold rScanF
    cases hr : recF (b.drop a) with
    | inl p =>
      obtain ⟨r, k⟩ := p
      obtain ⟨h1, h2, h3, h4⟩ := recF_ok (okB_drop ho _) hr
      rw [List.length_drop] at h3
      obtain ⟨i1, i2, i3, i4, i5⟩ := rScanF_ok f b (a + k) ho (by omega) (by omega)
      dsimp only
      refine ⟨?_, by omega, i3, ?_, i5⟩
      · intro s hs
        rcases List.mem_cons.1 hs with e | hs
        · rw [e]; exact h1
        · exact i1 s hs
      · rw [← i4, List.take_add, ← h2]
        simp [joinR]
    | inr e => exact ⟨fun s hs => by simp at hs, Nat.le_refl _, ha, by simp [joinR], e, hr⟩
/-- RecScans: what is scanned. -/
theorem rScan_ok {b : List Int} (ho : okB b) : (∀ r ∈ (rScan b).1, recMay r) ∧ (rScan b).2 ≤ b.length ∧ joinR (rScan b).1 = b.take (rScan b).2 ∧ (rGet b ((rScan b).2 : Nat)).2.2 ≠ 0 := by
  obtain ⟨h1, h2, h3, h4, e, h5⟩ := rScanF_ok (b.length + 1) b 0 ho (by omega) (by omega)
  refine ⟨h1, h3, by show joinR (rScanF (b.length + 1) b 0).1 = b.take (rScanF (b.length + 1) b 0).2; simpa using h4, ?_⟩
  show (rGet b (((rScanF (b.length + 1) b 0).2 : Nat) : Int)).2.2 ≠ 0
  rw [rGet_inr h3 h5]
  have := recF_err _ h5
  show e ≠ 0
  omega
theorem rScanF_join : ∀ (l : List Rc) (f : Nat) (p t : List Int), (∀ r ∈ l, recMay r) → (∃ e, recF t = .inr e) → l.length < f →
    rScanF f (p ++ joinR l ++ t) p.length = (l, (p ++ joinR l).length)
  | [], f, p, t, hl, ht, hf => by
    obtain ⟨f, rfl⟩ : ∃ g, f = g + 1 := ⟨f - 1, by simp at hf; omega⟩
    obtain ⟨e, he⟩ := ht
    unfold rScanF
    have : (p ++ joinR [] ++ t).drop p.length = t := by simp [joinR]
    rw [this, he]
    simp [joinR]
  | r :: l, f, p, t, hl, ht, hf => by
    obtain ⟨f, rfl⟩ : ∃ g, f = g + 1 := ⟨f - 1, by simp at hf; omega⟩
    have hr := hl r (by simp)
    have e1 : (p ++ joinR (r :: l) ++ t).drop p.length = recBytes r ++ (joinR l ++ t) := by simp [joinR]
    have e2 : p ++ joinR (r :: l) ++ t = (p ++ recBytes r) ++ joinR l ++ t := by simp [joinR]
    have ih := rScanF_join l f (p ++ recBytes r) t (fun s hs => hl s (by simp [hs])) ht (by simpa using hf)
    rw [← e2, List.length_append] at ih
    unfold rScanF
    rw [e1, recF_put hr, ]
    simp only
    rw [ih]
    simp [joinR]
theorem joinR_long : ∀ (l : List Rc), l.length ≤ (joinR l).length
  | [] => by simp
  | r :: l => by
    have := joinR_long l
    have h := recBytes_length r
    simp [joinR] at this ⊢
    omega
/-- RecTorn: of records, one behind the other, and a beginning of another one, just the whole ones are told. -/
theorem rScan_torn {l : List Rc} (hl : ∀ r ∈ l, recMay r) {r : Rc} (hr : recMay r) {j : Nat} (hj : j < (recBytes r).length) : rScan (joinR l ++ (recBytes r).take j) = (l, (joinR l).length) := by
  have := rScanF_join l ((joinR l ++ (recBytes r).take j).length + 1) [] ((recBytes r).take j) hl ⟨4, recF_torn hr hj⟩ (by have := joinR_long l; simp; omega)
  simpa [rScan] using this

end Moor
