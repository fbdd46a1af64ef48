import Derived.Test.YtegcphdlkheboaaCrcO
/-! mooringslaw04.turned. -/
namespace Go.Proofs.Ytegcphdlkheboaa.H
open Go.RowKit Moor Go.Proofs.YtegcphdlkheboaaW.PrintWords Go.Proofs.YtegcphdlkheboaaW.PrintLast Go.Proofs.YtegcphdlkheboaaW.PrintMore
set_option linter.unusedVariables false
set_option linter.unusedSimpArgs false

theorem shr_bit (k : Nat) : shr .u8 128 (((k % 8 : Nat) : Nat) : Int) = bitOf k := by
  have : ∀ j : Fin 8, shr .u8 128 ((j.1 : Nat) : Int) = ((128 >>> j.1 : Nat) : Int) := by decide
  exact this ⟨k % 8, by omega⟩
theorem xor_byte (a b : Int) (ha : 0 ≤ a ∧ a ≤ 255) (hb : 0 ≤ b ∧ b ≤ 255) : bits .xor .u8 a b = xorByte a b := by
  obtain ⟨n, rfl⟩ := Int.eq_ofNat_of_zero_le ha.1
  obtain ⟨m, rfl⟩ := Int.eq_ofNat_of_zero_le hb.1
  rw [u8_xor_nat n m (by omega) (by omega)]
  rfl
attribute [local irreducible] shr Go.bits

theorem turned_loop (p : Nat) (hp : p ≤ 4611686018427387904) (d : Nat) : ∀ (k i : Nat) (m : Nat) (l : List Int), i + d = 32 → d < k → okB l → l.length ≤ 281474976710656 → m < 4294967296 →
    B.mooringslaw04_turned.l0 k (p : Int) (m : Int) l (i : Int) = some (turnF d l p i m) := by
  induction d with
  | zero =>
    intro k i m l hd hk ho hl hm
    obtain ⟨k, rfl⟩ : ∃ q, k = q + 1 := ⟨k - 1, by omega⟩
    simp only [B.mooringslaw04_turned.l0]
    rw [if_neg (show ¬ (i : Int) < 32 by omega)]
    rfl
  | succ d ih =>
    intro k i m l hd hk ho hl hm
    obtain ⟨k, rfl⟩ : ∃ q, k = q + 1 := ⟨k - 1, by omega⟩
    have w1 : wrap64 ((p : Int) + i) = ((p + i : Nat) : Int) := by unfold wrap64; omega
    have w2 : wrap64 (8 * (l.length : Int)) = ((8 * l.length : Nat) : Int) := by unfold wrap64; omega
    have w3 : wrap64 ((i : Int) + 1) = ((i + 1 : Nat) : Int) := by unfold wrap64; omega
    have t1 : Int.tmod (m : Int) 2 = ((m % 2 : Nat) : Int) := by rw [Int.tmod_eq_emod_of_nonneg (by omega)]; omega
    have t2 : Int.tdiv (m : Int) 2 % 4294967296 = ((m / 2 : Nat) : Int) := by rw [Int.tdiv_eq_ediv_of_nonneg (by omega)]; omega
    have t3 : wrap64 (Int.tdiv ((p + i : Nat) : Int) 8) = (((p + i) / 8 : Nat) : Int) := by rw [Int.tdiv_eq_ediv_of_nonneg (by omega)]; unfold wrap64; omega
    have t4 : Int.tmod ((p + i : Nat) : Int) 8 = (((p + i) % 8 : Nat) : Int) := by rw [Int.tmod_eq_emod_of_nonneg (by omega)]; omega
    simp only [B.mooringslaw04_turned.l0]
    rw [if_pos (show (i : Int) < 32 by omega), w1, w2, w3, t1, t2, t3, t4, shr_bit]
    unfold turnF
    by_cases c1 : p + i < 8 * l.length
    · rw [if_pos (show ((p + i : Nat) : Int) < ((8 * l.length : Nat) : Int) by omega)]
      by_cases c2 : m % 2 = 1
      · have hlt : (p + i) / 8 < l.length := by omega
        have hr : rd l (((p + i) / 8 : Nat) : Int) = l.getD ((p + i) / 8) 0 := by unfold rd; rw [Int.toNat_natCast]
        have hg : 0 ≤ l.getD ((p + i) / 8) 0 ∧ l.getD ((p + i) / 8) 0 ≤ 255 := by
          rw [List.getD_eq_getElem?_getD, List.getElem?_eq_getElem hlt]
          exact ho _ (List.getElem_mem hlt)
        rw [if_pos (show ((m % 2 : Nat) : Int) = 1 by omega), if_pos (show (0 : Int) ≤ (((p + i) / 8 : Nat) : Int) by omega), if_pos (show (((p + i) / 8 : Nat) : Int) < (l.length : Int) by omega), if_pos (show (0 : Int) ≤ (((p + i) % 8 : Nat) : Int) by omega), hr, xor_byte _ _ hg (bitOf_ok _), Int.toNat_natCast]
        rw [if_pos ⟨c1, c2⟩]
        exact ih k (i + 1) (m / 2) (flipBit l (p + i)) (by omega) (by omega) (flip_ok ho _) (by rw [flip_length]; exact hl) (by omega)
      · rw [if_neg (show ¬ ((m % 2 : Nat) : Int) = 1 by omega), if_neg (fun g => c2 g.2)]
        exact ih k (i + 1) (m / 2) l (by omega) (by omega) ho hl (by omega)
    · rw [if_neg (show ¬ ((p + i : Nat) : Int) < ((8 * l.length : Nat) : Int) by omega), if_neg (fun g => c1 g.1)]
      exact ih k (i + 1) (m / 2) l (by omega) (by omega) ho hl (by omega)
theorem turned_tells (l : List Int) (a m : Int) (ho : okB l) (hl : l.length ≤ 140737488355327) (ha0 : 0 ≤ a) (ha : a ≤ 4611686018427387904) (hm0 : 0 ≤ m) (hm : m < 4294967296) : B.mooringslaw04_turned.f 40 l a m = some (turn l a.toNat m.toNat) := by
  unfold B.mooringslaw04_turned.f turn
  rw [if_pos (by simp; omega)]
  have := turned_loop a.toNat (by omega) 32 40 0 m.toNat l (by omega) (by omega) ho (by omega) (by omega)
  rw [show ((a.toNat : Nat) : Int) = a by omega, show ((m.toNat : Nat) : Int) = m by omega] at this
  simpa using this

end Go.Proofs.Ytegcphdlkheboaa.H
