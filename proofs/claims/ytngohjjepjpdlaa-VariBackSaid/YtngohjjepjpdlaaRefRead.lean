import Derived.Test.YtngohjjepjpdlaaRefGet
/-! The reference's Read. -/
namespace Go.Proofs.Ytngohjjepjpdlaa.H
open Go.RowKit Moor Go.Proofs.YtngohjjepjpdlaaW.PrintWords Go.Proofs.YtngohjjepjpdlaaW.PrintLast Go.Proofs.YtngohjjepjpdlaaW.PrintMore
set_option linter.unusedVariables false
set_option linter.unusedSimpArgs false

attribute [local irreducible] shl Go.bits

theorem read_loop (l : List Int) (ho : okB l) (hl : l.length ≤ 4611686018427387904) (d : Nat) : ∀ (k a : Nat) (out : List Int), a ≤ l.length → l.length - a ≤ d → d + 21 ≤ k → out.length ≤ 400 →
    B.mooringsref01_Read.l0 k l out (a : Int) = some (match read (l.drop a) with | some m => if out.length + m.length ≤ 400 then (out ++ m, true) else ([], false) | none => ([], false)) := by
  induction d with
  | zero =>
    intro k a out ha hd hk hol
    obtain ⟨k, rfl⟩ : ∃ m, k = m + 1 := ⟨k - 1, by omega⟩
    have : l.drop a = [] := List.drop_eq_nil_iff.2 (by omega)
    simp only [B.mooringsref01_Read.l0]
    rw [if_neg (show ¬ (a : Int) < l.length by omega), this, read_nil]
    simp [hol]
  | succ d ih =>
    intro k a out ha hd hk hol
    obtain ⟨k, rfl⟩ : ∃ m, k = m + 1 := ⟨k - 1, by omega⟩
    simp only [B.mooringsref01_Read.l0]
    by_cases hlt : a < l.length
    · have hne : l.drop a ≠ [] := fun e => by have := List.drop_eq_nil_iff.1 e; omega
      rw [if_pos (show (a : Int) < l.length by omega), refGet_tells l a ho (.inr hl) k (by omega)]
      simp only [Option.bind_some]
      unfold vGet
      rw [if_neg (show ¬ ((a : Int) < 0 ∨ (a : Int) > l.length) by omega)]
      simp only [Int.toNat_natCast]
      cases hdc : dec (l.drop a) with
      | none =>
        rw [read_none hne hdc]
        simp
      | some p =>
        obtain ⟨n, j⟩ := p
        have hj := dec_pos hdc
        simp at hj
        simp only
        rw [if_neg (show ¬ ((a : Int) + j < 0) by omega), read_step hne hdc]
        by_cases h400 : out.length = 400
        · rw [if_pos (show (out.length : Int) = 400 by omega)]
          cases hr : read ((l.drop a).drop j) <;> simp [h400]
        · rw [if_neg (show ¬ (out.length : Int) = 400 by omega), if_pos (by omega)]
          have := ih k (a + j) (out ++ [n]) (by omega) (by omega) (by omega) (by simp; omega)
          rw [show ((a + j : Nat) : Int) = (a : Int) + j by omega] at this
          rw [this, List.drop_drop]
          cases hr : read (l.drop (a + j)) with
          | none => simp
          | some m =>
            simp only [Option.map_some, List.length_append, List.length_cons, List.length_nil, List.append_assoc, List.cons_append, List.nil_append]
            rw [show out.length + (0 + 1) + m.length = out.length + (m.length + 1) by omega]
    · have : l.drop a = [] := List.drop_eq_nil_iff.2 (by omega)
      rw [if_neg (show ¬ (a : Int) < l.length by omega), this, read_nil]
      simp [hol]
theorem refRead_tells (l : List Int) (ho : okB l) (hl : l.length ≤ 4611686018427387904) (k : Nat) (hk : l.length + 21 ≤ k) : B.mooringsref01_Read.f k l = some (vRead l) := by
  unfold B.mooringsref01_Read.f vRead
  have := read_loop l ho hl l.length k 0 [] (by omega) (by omega) hk (by simp)
  simp only [Int.natCast_zero, List.drop_zero] at this
  rw [this]
  congr 1
  cases read l <;> simp

end Go.Proofs.Ytngohjjepjpdlaa.H
