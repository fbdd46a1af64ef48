import Derived.Test.YtiopafdndlodoaaVariA
/-! The reference's Get. -/
namespace Go.Proofs.Ytiopafdndlodoaa.H
open Go.RowKit Moor Go.Proofs.YtiopafdndlodoaaW.PrintWords Go.Proofs.YtiopafdndlodoaaW.PrintLast Go.Proofs.YtiopafdndlodoaaW.PrintMore
set_option linter.unusedVariables false
set_option linter.unusedSimpArgs false

attribute [local irreducible] shl Go.bits

theorem ref_get_loop (l : List Int) (a : Nat) (ho : okB l) (ha2 : a ≤ 4611686018427387904) (f : Nat) : ∀ (k i : Nat) (n : Int), i + f = 6 → 2 * f + 2 ≤ k → 0 ≤ n → n < 128 ^ i →
    B.mooringsref01_Get.l0 k l (a : Int) n (128 ^ i) ((a + i : Nat) : Int) = some (fin a (accF i n (decF f (l.drop (a + i))))) := by
  induction f with
  | zero =>
    intro k i n hf hk h0 h1
    obtain ⟨k, rfl⟩ : ∃ m, k = m + 2 := ⟨k - 2, by omega⟩
    simp only [B.mooringsref01_Get.l0, B.mooringsref01_Get.j1]
    have e : wrap64 (((a + i : Nat) : Int) - a) = i := by
      have : ((a + i : Nat) : Int) - a = i := by omega
      rw [this]
      exact wrap64_id (by omega) (by omega)
    rw [e, decide_eq_false (show ¬ (i : Int) < 6 by omega)]
    simp [decF, accF, fin]
  | succ f ih =>
    intro k i n hf hk h0 h1
    obtain ⟨k, rfl⟩ : ∃ m, k = m + 2 := ⟨k - 2, by omega⟩
    simp only [B.mooringsref01_Get.l0, B.mooringsref01_Get.j1]
    have hai : ((a + i : Nat) : Int) = (a : Int) + i := by omega
    have e : wrap64 (((a + i : Nat) : Int) - a) = i := by
      have : ((a + i : Nat) : Int) - a = i := by omega
      rw [this]
      exact wrap64_id (by omega) (by omega)
    rw [e]
    clear e
    by_cases hlt : a + i < l.length
    · have hdrop : l.drop (a + i) = l[a + i] :: l.drop (a + i + 1) := List.drop_eq_getElem_cons hlt
      have hc := ho l[a + i] (List.getElem_mem hlt)
      rw [if_pos (show ((a + i : Nat) : Int) < l.length by omega), decide_eq_true (show (i : Int) < 6 by omega), if_pos rfl, if_pos (show (0 : Int) ≤ ((a + i : Nat) : Int) by omega), if_pos (show ((a + i : Nat) : Int) < l.length by omega), rd_nat l (a + i) hlt, hdrop]
      generalize l[a + i] = c at hc ⊢
      have hp : (0 : Int) < 128 ^ i := Int.pow_pos (by decide)
      have hps : (128 : Int) ^ (i + 1) = 128 ^ i * 128 := Int.pow_succ ..
      have hpm : (128 : Int) ^ i ≤ 34359738368 := by
        have : 128 ^ i ≤ 128 ^ 5 := Nat.pow_le_pow_right (by omega) (by omega)
        have h5 : ((128 ^ i : Nat) : Int) = (128 : Int) ^ i := by simp
        omega
      have hm0 : 0 ≤ 128 ^ i * (c % 128) := Int.mul_nonneg (by omega) (by omega)
      have hm1 : 128 ^ i * (c % 128) ≤ 128 ^ i * 127 := Int.mul_le_mul_of_nonneg_left (by omega) (by omega)
      have em : Int.tmod c 128 = c % 128 := Int.tmod_eq_emod_of_nonneg hc.1
      have hb : n + 128 ^ i * (c % 128) ≤ 9223372036854775807 := by omega
      have hb' : -9223372036854775808 ≤ n + 128 ^ i * (c % 128) := by omega
      have hb2 : 128 ^ i * (c % 128) ≤ 9223372036854775807 := by omega
      have hb2' : -9223372036854775808 ≤ 128 ^ i * (c % 128) := by omega
      have hb3 : (128 : Int) ^ i * 128 ≤ 9223372036854775807 := by omega
      have hb3' : -9223372036854775808 ≤ (128 : Int) ^ i * 128 := by omega
      have hc2 : c ≤ 9223372036854775807 := by omega
      have hc3 : -9223372036854775808 ≤ c := by omega
      have hi6 : a + i ≤ 4611686018427387904 + 6 := by omega
      have ew : wrap64 (((a + i : Nat) : Int) + 1) = ((a + (i + 1) : Nat) : Int) := by
        have : ((a + i : Nat) : Int) + 1 = ((a + (i + 1) : Nat) : Int) := by omega
        rw [this]
        exact wrap64_id (by omega) (by omega)
      have hn2 : 0 ≤ n + 128 ^ i * (c % 128) := by omega
      have hn3 : n + 128 ^ i * (c % 128) < 128 ^ (i + 1) := by rw [hps]; clear ew; omega
      rw [wrap64_id hc3 hc2, em, wrap64_id hb2' hb2, wrap64_id hb' hb, wrap64_id hb3' hb3, ← hps, ew]
      clear ew
      have hfin : ∀ v : Int, fin (a : Int) (some (v, i + 1)) = if v ≤ 1099511627776 then (v, ((a + (i + 1) : Nat) : Int)) else (0, -1) := by
        intro v
        simp only [fin]
        split <;> simp <;> omega
      by_cases h128 : c < 128
      · have ec : c % 128 = c := by omega
        rw [if_pos h128, decF, if_pos h128, ec]
        by_cases hz : c = 0
        · subst hz
          have h9 : ¬ n > 1099511627776 ↔ n ≤ 1099511627776 := by omega
          by_cases hi0 : 0 < i
          · have : (((a + i : Nat) : Int) > (a : Int)) := by omega
            simp only [accF, hi0, this, if_true, true_and, fin]
            split <;> simp
          · have hi1 : i = 0 := by omega
            subst hi1
            have h1' : n < 1 := by simpa using h1
            have hn0 : n = 0 := by omega
            subst hn0
            simp [accF, fin]
        · rw [if_neg hz]
          simp only [accF, hz, and_false, if_false]
          rw [hfin, Int.mul_comm c]
          by_cases hv : n + 128 ^ i * c > 1099511627776
          · rw [if_pos hv, if_neg (by omega)]
          · rw [if_neg hv, if_pos (by omega)]
      · rw [if_neg h128, ih k (i + 1) _ (by omega) (by omega) hn2 hn3, decF, if_neg h128]
        congr 2
        rw [show a + (i + 1) = a + i + 1 by omega]
        cases hr : decF f (l.drop (a + i + 1)) with
        | none => rfl
        | some p =>
          obtain ⟨m, j⟩ := p
          by_cases hmz : m = 0
          · simp [accF, hmz]
          · have hge : 0 ≤ m := (decF_put f _ m j (okB_drop ho _) hr).1
            have hne : ¬ (c - 128 + 128 * m = 0) := by omega
            simp only [accF, hmz, hne, and_false, if_false, Option.some.injEq, Prod.mk.injEq]
            have : c % 128 = c - 128 := by omega
            refine ⟨?_, by omega⟩
            rw [this, hps, Int.add_mul, Int.add_assoc, Int.mul_comm (128 ^ i) (c - 128)]
            congr 2
            rw [Int.mul_comm 128 m, Int.mul_assoc, Int.mul_comm 128 (128 ^ i)]
    · have hdrop : l.drop (a + i) = [] := List.drop_eq_nil_iff.2 (by omega)
      rw [if_neg (show ¬ ((a + i : Nat) : Int) < l.length by omega), hdrop]
      simp [decF, accF, fin]
theorem refGet_tells (l : List Int) (a : Int) (ho : okB l) (ha : a ≤ 4611686018427387904 ∨ l.length ≤ 4611686018427387904) (k : Nat) (hk : 20 ≤ k) : B.mooringsref01_Get.f k l a = some (vGet l a) := by
  unfold B.mooringsref01_Get.f vGet
  by_cases h1 : a < 0
  · rw [if_pos h1, if_pos (.inl h1)]
  · rw [if_neg h1]
    by_cases h2 : a > l.length
    · rw [if_pos (.inr h2)]
      obtain ⟨k, rfl⟩ : ∃ m, k = m + 2 := ⟨k - 2, by omega⟩
      simp only [B.mooringsref01_Get.l0, B.mooringsref01_Get.j1]
      rw [if_neg (by omega)]
      simp
    · have h3 : ¬ (a < 0 ∨ a > (l.length : Int)) := by omega
      rw [if_neg h3]
      obtain ⟨b, rfl⟩ := Int.eq_ofNat_of_zero_le (show 0 ≤ a by omega)
      have := ref_get_loop l b ho (by omega) 6 k 0 0 (by omega) (by omega) (by omega) (by simp)
      simp only [Nat.add_zero, Int.pow_zero] at this
      rw [this]
      congr 1
      unfold dec
      simp only [Int.toNat_natCast]
      cases decF 6 (l.drop b) with
      | none => rfl
      | some p =>
        obtain ⟨m, j⟩ := p
        simp only [accF, fin]
        by_cases hm : m ≤ 1099511627776 <;> simp [hm]

end Go.Proofs.Ytiopafdndlodoaa.H
