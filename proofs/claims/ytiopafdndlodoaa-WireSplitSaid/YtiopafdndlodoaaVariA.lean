import Derived.Test.YtiopafdndlodoaaBx
import Derived.Test.YtiopafdndlodoaaMoorVari
import Derived.Laws.BitsAllLaws
import Derived.Laws.Bits128
/-! The printed functions of layer 1 answer as the plain ones. -/
namespace Go.Proofs.Ytiopafdndlodoaa.H
open Go.RowKit Moor Go.Proofs.YtiopafdndlodoaaW.PrintWords Go.Proofs.YtiopafdndlodoaaW.PrintLast Go.Proofs.YtiopafdndlodoaaW.PrintMore
set_option linter.unusedVariables false
set_option linter.unusedSimpArgs false

/-! ### bits -/
theorem i64_or_add (a b : Nat) (i : Nat) (ha : a < 2 ^ i) (hb : b * 2 ^ i < 9223372036854775808) (hi : a < 9223372036854775808) : bits .or .i64 (a : Int) ((b * 2 ^ i : Nat) : Int) = ((a + b * 2 ^ i : Nat) : Int) := by
  have e : a ||| b * 2 ^ i = a + b * 2 ^ i := by
    have := Nat.shiftLeft_add_eq_or_of_lt ha b
    rw [Nat.shiftLeft_eq] at this
    rw [Nat.or_comm, ← this]
    omega
  have h1 : (BitVec.ofInt 64 (a : Int)).toNat = a := by rw [BitVec.ofInt_natCast, BitVec.toNat_ofNat]; exact Nat.mod_eq_of_lt (by omega)
  have h2 : (BitVec.ofInt 64 ((b * 2 ^ i : Nat) : Int)).toNat = b * 2 ^ i := by rw [BitVec.ofInt_natCast, BitVec.toNat_ofNat]; exact Nat.mod_eq_of_lt (by omega)
  have hx : a ||| b * 2 ^ i < 2 ^ 63 := Nat.or_lt_two_pow (by omega) (by omega)
  show IntKind.i64.wrap ((BitVec.ofInt 64 (a : Int) ||| BitVec.ofInt 64 ((b * 2 ^ i : Nat) : Int)).toNat : Int) = _
  rw [BitVec.toNat_or, h1, h2, IntKind.wrap_i64, e]
  rw [e] at hx
  omega
theorem u8_low (c : Int) (h0 : 0 ≤ c) (h1 : c ≤ 255) : bits .andNot .u8 c 128 = c % 128 := by
  rw [u8_andNot c 128 h0 (by omega) (by omega) (by omega)]
  have : (c.toNat &&& (255 - (128 : Int).toNat)) = c.toNat % 128 := Nat.and_two_pow_sub_one_eq_mod c.toNat 7
  rw [this]
  omega
theorem wrap64_id {n : Int} (h0 : -9223372036854775808 ≤ n) (h1 : n ≤ 9223372036854775807) : wrap64 n = n := by unfold wrap64; omega
theorem wrap64_two (a i : Int) (h0 : 0 ≤ a) (h1 : a ≤ 4611686018427387904) (h2 : 0 ≤ i) (h3 : i ≤ 1000000) : wrap64 (wrap64 (a + i) + 1) = a + i + 1 := by unfold wrap64; omega
theorem wrap64_nat (i : Nat) (h : i ≤ 4611686018427387904) : wrap64 ((i : Int) + 1) = ((i + 1 : Nat) : Int) := by unfold wrap64; omega

attribute [local irreducible] shl Go.bits

/-! ### the least rounds -/
theorem putf_step (c : Int) (i : Nat) (n : Int) (h0 : 0 ≤ c) (hc : c ≤ 255) (hn : 0 ≤ n) (hi : i ≤ 5) (hlt : n < 128 ^ i) :
    bits .or .i64 n (shl .i64 (wrap64 (bits .andNot .u8 c 128)) (wrap64 (7 * (i : Int)))) = n + (c % 128) * 128 ^ i := by
  rw [u8_low c h0 hc, wrap64_id (by omega) (by omega), wrap64_id (by omega) (by omega)]
  obtain ⟨a, rfl⟩ := Int.eq_ofNat_of_zero_le hn
  obtain ⟨b, hb⟩ := Int.eq_ofNat_of_zero_le (show 0 ≤ c % 128 by omega)
  have hb' : b < 128 := by omega
  have e7 : (128 : Int) ^ i = ((2 ^ (7 * i) : Nat) : Int) := by rw [Nat.pow_mul]; simp
  have hp : 2 ^ (7 * i) ≤ 2 ^ 35 := Nat.pow_le_pow_right (by omega) (by omega)
  have hq : b * 2 ^ (7 * i) < 2 ^ 42 := by
    have : b * 2 ^ (7 * i) ≤ 127 * 2 ^ 35 := Nat.mul_le_mul (by omega) hp
    omega
  rw [e7] at hlt ⊢
  rw [hb]
  have es : shl .i64 (b : Int) (7 * (i : Int)) = ((b * 2 ^ (7 * i) : Nat) : Int) := by
    unfold shl
    rw [show (7 * (i : Int)).toNat = 7 * i from by omega, Nat.min_eq_left (show 7 * i ≤ IntKind.i64.bits from by show 7 * i ≤ 64; omega), IntKind.wrap_i64]
    have : ((b : Int) * 2 ^ (7 * i)) = ((b * 2 ^ (7 * i) : Nat) : Int) := by simp
    rw [this]
    omega
  rw [es, i64_or_add a b (7 * i) (by omega) (by omega) (by omega)]
  simp

def accF (i : Nat) (n : Int) : Option (Int × Nat) → Option (Int × Nat)
  | some (m, j) => if 0 < i ∧ m = 0 then none else some (n + m * 128 ^ i, i + j)
  | none => none
def fin (a : Int) : Option (Int × Nat) → Int × Int
  | some (v, j) => if v ≤ 1099511627776 then (v, a + j) else (0, -1)
  | none => (0, -1)

theorem may_pos (v : Int) (hv : 0 ≤ v) : B.vari_may.f v = some (decide (v ≤ 1099511627776)) := by unfold B.vari_may.f; rw [if_pos hv]
theorem rd_nat (l : List Int) (i : Nat) (h : i < l.length) : rd l (i : Int) = l[i] := by
  unfold rd
  simp [List.getD_eq_getElem?_getD, h]

set_option maxHeartbeats 4000000 in
theorem get_loop (a : Int) (L : List Int) (ho : okB L) (hL : L.length ≤ 6) (ha : 0 ≤ a) (ha2 : a ≤ 4611686018427387904) (d : Nat) : ∀ (k i : Nat) (n : Int), i + d = L.length → d < k → 0 ≤ n → n < 128 ^ i →
    B.vari_Get.l0 k a n L (L.length : Int) (i : Int) = some (fin a (accF i n (decF (6 - i) (L.drop i)))) := by
  induction d with
  | zero =>
    intro k i n hd hk h0 h1
    obtain ⟨k, rfl⟩ : ∃ m, k = m + 1 := ⟨k - 1, by omega⟩
    simp only [B.vari_Get.l0]
    rw [if_neg (by omega)]
    have : L.drop i = [] := List.drop_eq_nil_iff.2 (by omega)
    rw [this]
    have : decF (6 - i) [] = none := by cases h : 6 - i <;> rfl
    rw [this]
    rfl
  | succ d ih =>
    intro k i n hd hk h0 h1
    obtain ⟨k, rfl⟩ : ∃ m, k = m + 1 := ⟨k - 1, by omega⟩
    have hlt : i < L.length := by omega
    have hdrop : L.drop i = L[i] :: L.drop (i + 1) := List.drop_eq_getElem_cons hlt
    have hc := ho L[i] (List.getElem_mem hlt)
    obtain ⟨f, hf⟩ : ∃ f, 6 - i = f + 1 := ⟨5 - i, by omega⟩
    have hf' : f = 6 - (i + 1) := by omega
    have hst := putf_step L[i] i n hc.1 hc.2 h0 (by omega) h1
    simp only [B.vari_Get.l0]
    rw [if_pos (by omega), if_pos (by omega), if_pos (by omega), if_pos (by rw [wrap64_id (by omega) (by omega)]; omega), rd_nat L i hlt, hst, hdrop, hf]
    have hp : (0 : Int) < 128 ^ i := Int.pow_pos (by decide)
    have hps : (128 : Int) ^ (i + 1) = 128 ^ i * 128 := Int.pow_succ ..
    have hm0 : 0 ≤ (L[i] % 128) * 128 ^ i := Int.mul_nonneg (by omega) (by omega)
    have hm1 : (L[i] % 128) * 128 ^ i ≤ 127 * 128 ^ i := Int.mul_le_mul_of_nonneg_right (by omega) (by omega)
    have hi6 : i ≤ 4611686018427387904 := by omega
    have hi7 : (i : Int) ≤ 1000000 := by omega
    have hi8 : (0 : Int) ≤ (i : Int) := by omega
    by_cases h128 : L[i] ≥ 128
    · rw [if_pos h128, wrap64_nat i hi6, ih k (i + 1) (n + L[i] % 128 * 128 ^ i) (by omega) (by omega) (by omega) (by rw [hps]; omega), ← hf']
      congr 2
      rw [decF, if_neg (by omega)]
      cases hr : decF f (L.drop (i + 1)) with
      | none => rfl
      | some p =>
        obtain ⟨m, j⟩ := p
        by_cases hmz : m = 0
        · simp [accF, hmz]
        · have hge : 0 ≤ m := (decF_put f _ m j (okB_drop ho _) hr).1
          have hne : ¬ (L[i] - 128 + 128 * m = 0) := by omega
          simp only [accF, hmz, hne, and_false, if_false, Option.some.injEq, Prod.mk.injEq]
          have : L[i] % 128 = L[i] - 128 := by omega
          refine ⟨?_, by omega⟩
          rw [this, hps, Int.add_mul, Int.add_assoc]
          congr 2
          rw [Int.mul_comm 128 m, Int.mul_assoc, Int.mul_comm 128 (128 ^ i)]
    · rw [if_neg h128, decF, if_pos (show L[i] < 128 by omega)]
      have em : L[i] % 128 = L[i] := by omega
      rw [em] at hm0 hm1 ⊢
      have hmay : ∀ v : Int, 0 ≤ v → B.vari_may.f v = some (decide (v ≤ 1099511627776)) := fun v hv => may_pos v hv
      have hv0 : 0 ≤ n + L[i] * 128 ^ i := by omega
      rw [wrap64_two a i ha ha2 hi8 hi7, hmay _ hv0]
      simp only [Option.bind_some]
      have hfin : fin a (some (n + L[i] * 128 ^ i, i + 1)) = if n + L[i] * 128 ^ i ≤ 1099511627776 then (n + L[i] * 128 ^ i, a + i + 1) else (0, -1) := by
        simp only [fin]
        split <;> simp <;> omega
      have hend : (if decide (n + L[i] * 128 ^ i ≤ 1099511627776) = true then (some (n + L[i] * 128 ^ i, a + (i : Int) + 1)) else (some (0, (-1)))) = some (fin a (some (n + L[i] * 128 ^ i, i + 1))) := by
        rw [hfin]
        by_cases hv : n + L[i] * 128 ^ i ≤ 1099511627776 <;> simp [hv]
      by_cases hz : L[i] = 0
      · rw [if_pos hz]
        by_cases hi0 : (i : Int) > 0
        · rw [if_pos hi0]
          have : 0 < i := by omega
          simp [accF, hz, this, fin]
        · rw [if_neg hi0, hend]
          have : i = 0 := by omega
          simp only [accF, this]
          simp
      · rw [if_neg hz, hend]
        simp [accF, hz]

theorem decF_cut : ∀ (f : Nat) (l : List Int) (m : Nat), f ≤ m → decF f (l.take m) = decF f l
  | 0, _, _, _ => rfl
  | f + 1, [], m, _ => by simp
  | f + 1, c :: t, m, h => by
    obtain ⟨m, rfl⟩ : ∃ q, m = q + 1 := ⟨m - 1, by omega⟩
    simp only [List.take_succ_cons, decF, decF_cut f t m (by omega)]

set_option maxHeartbeats 4000000 in
/-- vari.Get, printed, is the plain one. -/
theorem get_tells (l : List Int) (a : Int) (ho : okB l) (hl : l.length ≤ 4611686018427387904) (k : Nat) (hk : 10 ≤ k) : B.vari_Get.f k l a = some (vGet l a) := by
  obtain ⟨k, rfl⟩ : ∃ m, k = m + 1 := ⟨k - 1, by omega⟩
  unfold B.vari_Get.f vGet
  by_cases h1 : a < 0
  · rw [if_pos h1, if_pos (.inl h1)]
    rfl
  · rw [if_neg h1]
    by_cases h2 : a > l.length
    · rw [if_pos (.inr h2), decide_eq_true h2]
      rfl
    · have h2' : ¬ (a < 0 ∨ a > (l.length : Int)) := by omega
      rw [if_neg h2', decide_eq_false h2]
      simp only [B.vari_Get.j0]
      have hmn : mn (l.length : Int) (wrap64 (a + mn 6 (wrap64 ((l.length : Int) - a)))) = a + mn 6 ((l.length : Int) - a) := by
        rw [wrap64_id (n := (l.length : Int) - a) (by omega) (by omega)]
        unfold mn
        split <;> rw [wrap64_id (by omega) (by omega)] <;> split <;> omega
      have hb0 : mn 6 ((l.length : Int) - a) ≤ 6 ∧ 0 ≤ mn 6 ((l.length : Int) - a) ∧ mn 6 ((l.length : Int) - a) ≤ l.length - a := by unfold mn; split <;> omega
      have hb1 : mn 6 ((l.length : Int) - a) = 6 ∨ mn 6 ((l.length : Int) - a) = l.length - a := by unfold mn; split <;> omega
      rw [hmn]
      generalize mn 6 ((l.length : Int) - a) = q at *
      rw [if_neg (by decide), if_pos (by omega), if_pos (by omega), if_pos (by omega)]
      have hLl : ((l.take (a + q).toNat).drop a.toNat).length = q.toNat := by simp; omega
      have hLe : (l.take (a + q).toNat).drop a.toNat = (l.drop a.toNat).take q.toNat := by
        rw [List.drop_take]
        congr 1
        omega
      have hd : decF 6 ((l.take (a + q).toNat).drop a.toNat) = decF 6 (l.drop a.toNat) := by
        rw [hLe]
        rcases hb1 with h | h
        · exact decF_cut 6 _ _ (by omega)
        · rw [List.take_of_length_le (by simp; omega)]
      have := get_loop a ((l.take (a + q).toNat).drop a.toNat) (okB_drop (okB_take ho _) _) (by omega) (by omega) (by omega) q.toNat k 0 0 (by omega) (by omega) (by omega) (by simp)
      simp only [Int.natCast_zero, Nat.sub_zero, List.drop_zero] at this
      rw [this, hd]
      congr 1
      unfold dec
      cases decF 6 (l.drop a.toNat) with
      | none => rfl
      | some p =>
        obtain ⟨m, j⟩ := p
        simp only [accF, fin]
        by_cases hm : m ≤ 1099511627776 <;> simp [hm]

end Go.Proofs.Ytiopafdndlodoaa.H
