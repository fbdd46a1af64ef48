import Derived.Test.YtnicndnbloohhaaMoorRec
set_option linter.unusedVariables false
set_option linter.unusedSimpArgs false
/-! Plain laws of records: Get, step by step. -/
namespace Moor
/-- Where a record from a place on would end, and the bytes up to there. -/
def endR (b : List Int) (at_ : Nat) : Int := (vGet b ((at_ + 1 : Nat) : Int)).2 + (vGet b ((at_ + 1 : Nat) : Int)).1 + 4
def midR (b : List Int) (at_ : Nat) : List Int := (b.take (endR b at_).toNat).drop at_
theorem dec_facts {l : List Int} (ho : okB l) {n : Int} {k : Nat} (h : dec l = some (n, k)) : 0 ≤ n ∧ n ≤ 1099511627776 ∧ 0 < k ∧ k ≤ 6 ∧ k ≤ l.length := by
  obtain ⟨h1, h2, h3, h4, h5⟩ := dec_put_of ho h
  exact ⟨h1.1, h1.2, h2, h3, h4⟩
theorem vGet_nat {b : List Int} {a : Nat} (h : a ≤ b.length) : vGet b (a : Int) = match dec (b.drop a) with
    | some (n, k) => (n, (a : Int) + k)
    | none => (0, -1) := by
  unfold vGet
  rw [if_neg (by omega), Int.toNat_natCast]
  cases dec (b.drop a) <;> rfl
theorem rGet_step {b : List Int} (ho : okB b) {a : Nat} (h : a < b.length) :
    rGet b a = if openR (b.drop (a + 1)) = true then (⟨0, []⟩, 0, 4) else
      if (vGet b ((a + 1 : Nat) : Int)).2 = -1 ∨ (vGet b ((a + 1 : Nat) : Int)).1 > 1000 then (⟨0, []⟩, 0, 2) else
      if (b.length : Int) < endR b a then (⟨0, []⟩, 0, 4) else
      if (cOpen (midR b a)).2 = true then (⟨b[a], (cOpen (midR b a)).1.drop ((vGet b ((a + 1 : Nat) : Int)).2 - a).toNat⟩, endR b a, 0) else (⟨0, []⟩, 0, 3) := by
  have hd : b.drop a = b[a] :: b.drop (a + 1) := List.drop_eq_getElem_cons h
  have hv := vGet_nat (b := b) (a := a + 1) (by omega)
  have hod := okB_drop ho (a + 1)
  unfold rGet midR endR
  rw [if_neg (by omega), Int.toNat_natCast, hd, recF_cons, hv]
  have htl : (b.drop (a + 1)).length = b.length - (a + 1) := List.length_drop
  by_cases h1 : openR (b.drop (a + 1)) = true
  · rw [if_pos h1, if_pos h1]
  · rw [if_neg h1, if_neg h1]
    cases hdc : dec (b.drop (a + 1)) with
    | none => simp
    | some p =>
      obtain ⟨n, k⟩ := p
      obtain ⟨f1, f2, f3, f4, f5⟩ := dec_facts hod hdc
      simp only
      by_cases h2 : n > 1000
      · rw [if_pos h2, if_pos (show ((a + 1 : Nat) : Int) + k = -1 ∨ n > 1000 from .inr h2)]
      · rw [if_neg h2, if_neg (show ¬ (((a + 1 : Nat) : Int) + k = -1 ∨ n > 1000) by omega)]
        by_cases h3 : (b.length : Int) < ((a + 1 : Nat) : Int) + k + n + 4
        · rw [if_pos (show ((b.drop (a + 1)).length : Int) < k + n + 4 by rw [htl]; omega), if_pos h3]
        · rw [if_neg (show ¬ ((b.drop (a + 1)).length : Int) < k + n + 4 by rw [htl]; omega), if_neg h3]
          have e1 : (((a + 1 : Nat) : Int) + k + n + 4).toNat = a + 1 + (k + n.toNat + 4) := by omega
          have e2 : (b.take (a + 1 + (k + n.toNat + 4))).drop a = b[a] :: (b.drop (a + 1)).take (k + n.toNat + 4) := by
            rw [List.drop_take, hd, show a + 1 + (k + n.toNat + 4) - a = (k + n.toNat + 4) + 1 by omega, List.take_succ_cons]
          rw [e1, e2]
          have e3 : (((a + 1 : Nat) : Int) + (k : Int) - a).toNat = 1 + k := by omega
          rw [e3]
          by_cases h4 : (cOpen (b[a] :: (b.drop (a + 1)).take (k + n.toNat + 4))).2 = true
          · rw [if_pos h4, if_pos h4]
            simp only [Prod.mk.injEq, true_and, and_true]
            omega
          · rw [if_neg h4, if_neg h4]
/-- What is opened begins with the kind. -/
theorem midR_open {b : List Int} (ho : okB b) {a : Nat} (h : a < b.length) (h2 : (vGet b ((a + 1 : Nat) : Int)).2 ≠ -1) (h3 : ¬ (vGet b ((a + 1 : Nat) : Int)).1 > 1000) (h4 : ¬ (b.length : Int) < endR b a) :
    0 ≤ (vGet b ((a + 1 : Nat) : Int)).1 ∧ (a : Int) + 2 ≤ (vGet b ((a + 1 : Nat) : Int)).2 ∧ (vGet b ((a + 1 : Nat) : Int)).2 ≤ a + 7 ∧ (midR b a).length = (endR b a).toNat - a ∧
    ((cOpen (midR b a)).2 = true → ∃ t, (cOpen (midR b a)).1 = b[a] :: t ∧ (cOpen (midR b a)).1.length = (endR b a - a - 4).toNat) := by
  have hv := vGet_nat (b := b) (a := a + 1) (by omega)
  have hd : b.drop a = b[a] :: b.drop (a + 1) := List.drop_eq_getElem_cons h
  have hml : endR b a ≤ b.length → (midR b a).length = (endR b a).toNat - a := fun _ => by unfold midR; rw [List.length_drop, List.length_take]; omega
  cases hdc : dec (b.drop (a + 1)) with
  | none => rw [hdc] at hv; rw [hv] at h2; exact absurd rfl h2
  | some p =>
    obtain ⟨n, k⟩ := p
    obtain ⟨f1, f2, f3, f4, f5⟩ := dec_facts (okB_drop ho (a + 1)) hdc
    rw [hdc] at hv
    have hml2 := hml (by omega)
    have he : endR b a = ((a + 1 : Nat) : Int) + k + n + 4 := by unfold endR; rw [hv]
    rw [hv] at h3 ⊢
    refine ⟨f1, by show (a : Int) + 2 ≤ ((a + 1 : Nat) : Int) + k; omega, by show ((a + 1 : Nat) : Int) + k ≤ _; omega, hml2, fun hop => ?_⟩
    obtain ⟨g1, g2, g3⟩ := cSeal_open hop
    have e2 : midR b a = b[a] :: (b.drop (a + 1)).take ((endR b a).toNat - a - 1) := by
      unfold midR
      rw [List.drop_take, hd, show (endR b a).toNat - a = ((endR b a).toNat - a - 1) + 1 by omega, List.take_succ_cons]
      congr 2
    rw [g2]
    refine ⟨((b.drop (a + 1)).take ((endR b a).toNat - a - 1)).take ((midR b a).length - 4 - 1), ?_, ?_⟩
    · rw [e2, ← e2, show (midR b a).length - 4 = ((midR b a).length - 4 - 1) + 1 by rw [hml2]; omega]
      conv => lhs; rw [e2]
      rw [List.take_succ_cons]
      congr 2
      rw [← e2]
      omega
    · rw [List.length_take, hml2]; omega
end Moor
