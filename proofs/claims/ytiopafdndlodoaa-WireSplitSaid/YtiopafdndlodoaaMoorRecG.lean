import Derived.Test.YtiopafdndlodoaaMoorRec
set_option linter.unusedVariables false
set_option linter.unusedSimpArgs false
/-! Plain laws of records: Get, step by step. -/
namespace Moor
/-- Where a record from a place on would end, and the bytes up to there. -/
def endR (b : List Int) (at_ : Nat) : Int := (vGet b ((at_ + 1 : Nat) : Int)).2 + (vGet b ((at_ + 1 : Nat) : Int)).1 + 4
def midR (b : List Int) (at_ : Nat) : List Int := (b.take (endR b at_).toNat).drop at_
theorem dec_facts {l : List Int} (ho : okB l) {n : Int} {k : Nat} (h : dec l = some (n, k)) : 0 ≤ n ∧ n ≤ 1099511627776 ∧ 0 < k ∧ k ≤ 6 ∧ k ≤ l.length := by
  obtain ⟨h1, h2, h3, h4, h5⟩ := dec_put_of ho h
  exact ⟨h1.1, h1.2, h2, h3, h4⟩
theorem vGet_nat {b : List Int} {a : Nat} (h : a ≤ b.length) : vGet b (a : Int) = match dec (b.drop a) with
    | some (n, k) => (n, (a : Int) + k)
    | none => (0, -1) := by
  unfold vGet
  rw [if_neg (by omega), Int.toNat_natCast]
  cases dec (b.drop a) <;> rfl
theorem rGet_step {b : List Int} (ho : okB b) {a : Nat} (h : a < b.length) :
    rGet b a = if openR (b.drop (a + 1)) = true then (⟨0, []⟩, 0, 4) else
      if (vGet b ((a + 1 : Nat) : Int)).2 = -1 ∨ (vGet b ((a + 1 : Nat) : Int)).1 > 1000 then (⟨0, []⟩, 0, 2) else
      if (b.length : Int) < endR b a then (⟨0, []⟩, 0, 4) else
      if (cOpen (midR b a)).2 = true then (⟨b[a], (cOpen (midR b a)).1.drop ((vGet b ((a + 1 : Nat) : Int)).2 - a).toNat⟩, endR b a, 0) else (⟨0, []⟩, 0, 3) := by
  have hd : b.drop a = b[a] :: b.drop (a + 1) := List.drop_eq_getElem_cons h
  have hv := vGet_nat (b := b) (a := a + 1) (by omega)
  have hod := okB_drop ho (a + 1)
  unfold rGet midR endR
  rw [if_neg (by omega), Int.toNat_natCast, hd, recF_cons, hv]
  have htl : (b.drop (a + 1)).length = b.length - (a + 1) := List.length_drop
  by_cases h1 : openR (b.drop (a + 1)) = true
  · rw [if_pos h1, if_pos h1]
  · rw [if_neg h1, if_neg h1]
    cases hdc : dec (b.drop (a + 1)) with
    | none => simp
    | some p =>
      obtain ⟨n, k⟩ := p
      obtain ⟨f1, f2, f3, f4, f5⟩ := dec_facts hod hdc
      simp only
      by_cases h2 : n > 1000
      · rw [if_pos h2, if_pos (show ((a + 1 : Nat) : Int) + k = -1 ∨ n > 1000 from .inr h2)]
      · rw [if_neg h2, if_neg (show ¬ (((a + 1 : Nat) : Int) + k = -1 ∨ n > 1000) by omega)]
        by_cases h3 : (b.length : Int) < ((a + 1 : Nat) : Int) + k + n + 4
        · rw [if_pos (show ((b.drop (a + 1)).length : Int) < k + n + 4 by rw [htl]; omega), if_pos h3]
        · rw [if_neg (show ¬ ((b.drop (a + 1)).length : Int) < k + n + 4 by rw [htl]; omega), if_neg h3]
          have e1 : (((a + 1 : Nat) : Int) + k + n + 4).toNat = a + 1 + (k + n.toNat + 4) := by omega
          have e2 : (b.take (a + 1 + (k + n.toNat + 4))).drop a = b[a] :: (b.drop (a + 1)).take (k + n.toNat + 4) := by
            rw [List.drop_take, hd, show a + 1 + (k + n.toNat + 4) - a = (k + n.toNat + 4) + 1 by omega, List.take_succ_cons]
          rw [e1, e2]
          have e3 : (((a + 1 : Nat) : Int) + (k : Int) - a).toNat = 1 + k := by omega
          rw [e3]
          by_cases h4 : (cOpen (b[a] :: (b.drop (a + 1)).take (k + n.toNat + 4))).2 = true
          · rw [if_pos h4, if_pos h4]
            simp only [Prod.mk.injEq, true_and, and_true]
            omega
          · rw [if_neg h4, if_neg h4]
/-- What is opened begins with the kind. -/
theorem midR_open {b : List Int} (ho : okB b) {a : Nat} (h : a < b.length) (h2 : (vGet b ((a + 1 : Nat) : Int)).2 ≠ -1) (h3 : ¬ (vGet b ((a + 1 : Nat) : Int)).1 > 1000) (h4 : ¬ (b.length : Int) < endR b a) :
    0 ≤ (vGet b ((a + 1 : Nat) : Int)).1 ∧ (a : Int) + 2 ≤ (vGet b ((a + 1 : Nat) : Int)).2 ∧ (vGet b ((a + 1 : Nat) : Int)).2 ≤ a + 7 ∧ (midR b a).length = (endR b a).toNat - a ∧
    ((cOpen (midR b a)).2 = true → ∃ t, (cOpen (midR b a)).1 = b[a] :: t ∧ (cOpen (midR b a)).1.length = (endR b a - a - 4).toNat) := by
  have hv := vGet_nat (b := b) (a := a + 1) (by omega)
  have hd : b.drop a = b[a] :: b.drop (a + 1) := List.drop_eq_getElem_cons h
  have hml : endR b a ≤ b.length → (midR b a).length = (endR b a).toNat - a := fun _ => by unfold midR; rw [List.length_drop, List.length_take]; omega
  cases hdc : dec (b.drop (a + 1)) with
  | none => rw [hdc] at hv; rw [hv] at h2; exact absurd rfl h2
  | some p =>
    obtain ⟨n, k⟩ := p
    obtain ⟨f1, f2, f3, f4, f5⟩ := dec_facts (okB_drop ho (a + 1)) hdc
    rw [hdc] at hv
    have hml2 := hml (by omega)
    have he : endR b a = ((a + 1 : Nat) : Int) + k + n + 4 := by unfold endR; rw [hv]
    rw [hv] at h3 ⊢
    refine ⟨f1, by show (a : Int) + 2 ≤ ((a + 1 : Nat) : Int) + k; omega, by show ((a + 1 : Nat) : Int) + k ≤ _; omega, hml2, fun hop => ?_⟩
    obtain ⟨g1, g2, g3⟩ := cSeal_open hop
    have e2 : midR b a = b[a] :: (b.drop (a + 1)).take ((endR b a).toNat - a - 1) := by
      unfold midR
      rw [List.drop_take, hd, show (endR b a).toNat - a = ((endR b a).toNat - a - 1) + 1 by omega, List.take_succ_cons]
      congr 2
    rw [g2]
    refine ⟨((b.drop (a + 1)).take ((endR b a).toNat - a - 1)).take ((midR b a).length - 4 - 1), ?_, ?_⟩
    · rw [e2, ← e2, show (midR b a).length - 4 = ((midR b a).length - 4 - 1) + 1 by rw [hml2]; omega]
      conv => lhs; rw [e2]
      rw [List.take_succ_cons]
      congr 2
      rw [← e2]
      omega
    · rw [List.length_take, hml2]; omega
end Moor
set_option linter.unusedVariables false
set_option linter.unusedSimpArgs false
/-! Plain laws of records: Scan, element by element. -/
namespace Moor
/-- The records from a place on, and where each ends. -/
def seqR : Nat → List Int → Nat → List (Rc × Int)
  | 0, _, _ => []
  | f + 1, b, a => match recF (b.drop a) with
    | .inl (r, k) => (r, ((a + k : Nat) : Int)) :: seqR f b (a + k)
    | .inr _ => []
def lastR (a : Int) (l : List (Rc × Int)) : Int := match l.getLast? with
  | some p => p.2
  | none => a
theorem lastR_cons (a : Int) (p : Rc × Int) (l : List (Rc × Int)) : lastR a (p :: l) = lastR p.2 l := by
  unfold lastR
  cases l with
  | nil => rfl
  | cons q l =>
    rw [List.getLast?_cons_cons]
    cases h : (q :: l).getLast? with
    | none => simp at h
    | some z => rfl
theorem lastR_snoc (a : Int) (p : Rc × Int) (l : List (Rc × Int)) : lastR a (l ++ [p]) = p.2 := by simp [lastR]
theorem rScanF_seq : ∀ (f : Nat) (b : List Int) (a : Nat), (rScanF f b a).1 = (seqR f b a).map (·.1) ∧ ((rScanF f b a).2 : Int) = lastR a (seqR f b a)
  | 0, b, a => ⟨rfl, rfl⟩
  | f + 1, b, a => by
    unfold rScanF seqR
    cases h : recF (b.drop a) with
    | inr e => exact ⟨rfl, rfl⟩
    | inl p =>
      obtain ⟨r, k⟩ := p
      obtain ⟨h1, h2⟩ := rScanF_seq f b (a + k)
      simp only
      exact ⟨by rw [h1]; rfl, by rw [h2, lastR_cons]⟩
theorem rScan_seq (b : List Int) : (rScan b).1 = (seqR (b.length + 1) b 0).map (·.1) ∧ ((rScan b).2 : Int) = lastR 0 (seqR (b.length + 1) b 0) := rScanF_seq _ b 0
/-- One step: a record is got, or none. -/
theorem seqR_step {b : List Int} (ho : okB b) {a f : Nat} (ha : a ≤ b.length) (hf : b.length - a < f) :
    ((rGet b a).2.2 = 0 ∧ ∃ a' : Nat, (rGet b a).2.1 = (a' : Int) ∧ a < a' ∧ a' ≤ b.length ∧ ∃ g, f = g + 1 ∧ b.length - a' < g ∧ seqR f b a = ((rGet b a).1, (rGet b a).2.1) :: seqR g b a') ∨
      ((rGet b a).2.2 ≠ 0 ∧ seqR f b a = []) := by
  obtain ⟨g, rfl⟩ : ∃ g, f = g + 1 := ⟨f - 1, by omega⟩
  cases h : recF (b.drop a) with
  | inl p =>
    obtain ⟨r, k⟩ := p
    left
    rw [rGet_inl ha h]
    obtain ⟨-, -, h3, h4⟩ := recF_ok (okB_drop ho a) h
    rw [List.length_drop] at h3
    refine ⟨rfl, a + k, rfl, by omega, by omega, g, rfl, by omega, ?_⟩
    conv => lhs; unfold seqR
    rw [h]
  | inr e =>
    right
    rw [rGet_inr ha h]
    have := recF_err _ h
    refine ⟨by show e ≠ 0; omega, ?_⟩
    unfold seqR
    rw [h]
end Moor
set_option linter.unusedVariables false
set_option linter.unusedSimpArgs false
/-! Plain laws of records: a spoiled one. -/
namespace Moor
theorem getD_take_eq {x y : List Int} {n : Nat} (hl : x.length = y.length) (h : ∀ i, i < n → x.getD i 0 = y.getD i 0) : x.take n = y.take n := by
  apply List.ext_getElem?
  intro i
  rw [List.getElem?_take, List.getElem?_take]
  by_cases hi : i < n
  · rw [if_pos hi, if_pos hi]
    have := h i hi
    rw [List.getD_eq_getElem?_getD, List.getD_eq_getElem?_getD] at this
    by_cases hx : i < x.length
    · rw [List.getElem?_eq_getElem hx, List.getElem?_eq_getElem (by omega)] at this ⊢
      simpa using this
    · rw [List.getElem?_eq_none (by omega), List.getElem?_eq_none (by omega)]
  · rw [if_neg hi, if_neg hi]
/-- RecSpoiled: a record of which some bits within 32 in a row, of its body or its sum, are others is not got. -/
theorem rGet_spoiled {r : Rc} (h : recMay r) {x : List Int} (hx : okB x) (hb : okB (recBytes r)) (hl : x.length = (recBytes r).length) (q : Nat) (hq : 1 + (put (r.body.length : Int)).length ≤ q)
    (hs : ∀ i, (i < q ∨ q + 4 ≤ i) → x.getD i 0 = (recBytes r).getD i 0) : x = recBytes r ∨ (rGet x 0).2.2 = 3 := by
  have hm := mayN_len h
  have hrl := recBytes_length r
  have he := recBytes_eq r
  have hso : (cOpen (recBytes r)).2 = true := by
    have : cOpen (recBytes r) = (r.kind :: (put (r.body.length : Int) ++ r.body), true) := by unfold recBytes; exact cOpen_seal _
    rw [this]
  have hbu := burst_bytes hl hs
  have hop := burst_open hbu hx hb hso
  have h3 := h.2.2
  have hpre : x.take (1 + (put (r.body.length : Int)).length) = r.kind :: put (r.body.length : Int) := by
    rw [getD_take_eq hl (n := 1 + (put (r.body.length : Int)).length) (fun i hi => hs i (.inl (by omega))), he, Nat.add_comm, List.take_succ_cons, List.take_left]
  have hx0 : x = r.kind :: (put (r.body.length : Int) ++ x.drop (1 + (put (r.body.length : Int)).length)) := by
    conv => lhs; rw [← List.take_append_drop (1 + (put (r.body.length : Int)).length) x, hpre]
    rfl
  by_cases hxe : x = recBytes r
  · exact .inl hxe
  · right
    have hno : (cOpen x).2 = false := by
      cases hc : (cOpen x).2 with
      | false => rfl
      | true => exact absurd (hop.1 hc) hxe
    have hdl : (x.drop (1 + (put (r.body.length : Int)).length)).length = r.body.length + 4 := by rw [List.length_drop, hl, hrl]; omega
    generalize x.drop (1 + (put (r.body.length : Int)).length) = z at *
    have hd := dec_put hm z
    have hg : recF x = .inr 3 := by
      rw [hx0, recF_cons, if_neg (by rw [openR_dec hd]; decide), hd]
      simp only
      rw [if_neg (by omega), if_neg (by rw [List.length_append, hdl]; omega)]
      have e : (put (r.body.length : Int) ++ z).take ((put (r.body.length : Int)).length + ((r.body.length : Int)).toNat + 4) = put (r.body.length : Int) ++ z := List.take_of_length_le (by rw [List.length_append, hdl]; omega)
      rw [e, ← hx0, if_neg (by rw [hno]; decide)]
    have := rGet_inr (b := x) (a := 0) (Nat.zero_le _) (e := 3) (by simpa using hg)
    have h0 : rGet x 0 = rGet x ((0 : Nat) : Int) := rfl
    rw [h0, this]
theorem take_mid (b : List Int) (e a f k : Nat) (h1 : a ≤ f) (h2 : f ≤ k) (h3 : k ≤ e) : (((b.take e).drop a).take (k - a)).drop (f - a) = (b.take k).drop f := by
  apply List.ext_getElem?
  intro i
  simp only [List.getElem?_drop, List.getElem?_take]
  by_cases hi : f + i < k
  · rw [if_pos (by omega), if_pos (by omega), if_pos hi]
    congr 1
    omega
  · rw [if_neg hi]
    split
    · omega
    · rfl
/-- What a record's body is, in place. -/
theorem midR_body {b : List Int} (ho : okB b) {a : Nat} (h : a < b.length) (h2 : (vGet b ((a + 1 : Nat) : Int)).2 ≠ -1) (h3 : ¬ (vGet b ((a + 1 : Nat) : Int)).1 > 1000) (h4 : ¬ (b.length : Int) < endR b a) (hop : (cOpen (midR b a)).2 = true) :
    (cOpen (midR b a)).1.drop ((vGet b ((a + 1 : Nat) : Int)).2 - a).toNat = (b.take ((vGet b ((a + 1 : Nat) : Int)).2 + (vGet b ((a + 1 : Nat) : Int)).1).toNat).drop ((vGet b ((a + 1 : Nat) : Int)).2).toNat := by
  obtain ⟨m1, m2, m3, m4, -⟩ := midR_open ho h h2 h3 h4
  obtain ⟨g1, g2, -⟩ := cSeal_open hop
  rw [g2, m4]
  have he : endR b a = (vGet b ((a + 1 : Nat) : Int)).2 + (vGet b ((a + 1 : Nat) : Int)).1 + 4 := rfl
  unfold midR
  generalize (vGet b ((a + 1 : Nat) : Int)).2 = fr at *
  generalize (vGet b ((a + 1 : Nat) : Int)).1 = n at *
  have e1 : (endR b a).toNat - a - 4 = (fr + n).toNat - a := by omega
  have e2 : (fr - a).toNat = fr.toNat - a := by omega
  rw [e1, e2]
  exact take_mid b (endR b a).toNat a fr.toNat (fr + n).toNat (by omega) (by omega) (by omega)
end Moor
