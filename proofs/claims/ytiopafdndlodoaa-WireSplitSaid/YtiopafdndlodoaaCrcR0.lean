import Derived.Test.YtiopafdndlodoaaCrcB
/-! The reference's sums. -/
namespace Go.Proofs.Ytiopafdndlodoaa.H
open Go.RowKit Moor Go.Proofs.YtiopafdndlodoaaW.PrintWords Go.Proofs.YtiopafdndlodoaaW.PrintLast Go.Proofs.YtiopafdndlodoaaW.PrintMore
set_option linter.unusedVariables false
set_option linter.unusedSimpArgs false

/-- A byte, shifted by j. -/
def cut8 (c : Int) (j : Nat) : Int := c * 2 ^ j % 256
theorem cut8_bit (c : Int) (h : 0 ≤ c ∧ c ≤ 255) (j : Nat) (hj : j < 8) : decide (cut8 c j / 128 = 1) = (byteBits c).getD j false := by
  rw [byteBits_get c j hj, Nat.testBit_eq_decide_div_mod_eq]
  apply decide_eq_decide.2
  unfold cut8
  have : j = 0 ∨ j = 1 ∨ j = 2 ∨ j = 3 ∨ j = 4 ∨ j = 5 ∨ j = 6 ∨ j = 7 := by omega
  rcases this with rfl | rfl | rfl | rfl | rfl | rfl | rfl | rfl <;> simp only [Int.reducePow, Nat.reducePow, Nat.reduceSub] <;> omega
theorem cut8_next (c : Int) (j : Nat) : 2 * cut8 c j % 256 = cut8 c (j + 1) := by
  unfold cut8
  rw [Int.pow_succ, ← Int.mul_assoc, Int.mul_comm _ 2]
  generalize c * 2 ^ j = x
  omega
theorem ref_step (v : R32) (x : Int) (b : Bool) (h0 : 0 ≤ x) (h1 : x ≤ 255) (hb : decide (x / 128 = 1) = b) :
    (if (Int.tdiv ((v.toNat : Nat) : Int) 2147483648) % 4294967296 = (Int.tdiv x 128) % 256 then (2 * ((v.toNat : Nat) : Int)) % 4294967296 else bits .xor .u32 ((2 * ((v.toNat : Nat) : Int)) % 4294967296) 79764919) = (((stepB v b).toNat : Nat) : Int) := by
  have hlt := v.isLt
  rw [← stepI_tells]
  unfold stepI
  rw [Int.tdiv_eq_ediv_of_nonneg (by omega), Int.tdiv_eq_ediv_of_nonneg h0, Int.mul_comm 2]
  by_cases hh : (v.toNat : Int) / 2147483648 = 1
  · have h' : ((v.toNat : Int) / 2147483648 == 1) = true := by simpa using hh
    rw [h']
    cases b with
    | true => have := of_decide_eq_true hb; rw [if_pos (by omega), if_pos rfl]
    | false => have := of_decide_eq_false hb; rw [if_neg (by omega), if_neg (by decide)]
  · have h' : ((v.toNat : Int) / 2147483648 == 1) = false := by simpa using hh
    rw [h']
    cases b with
    | true => have := of_decide_eq_true hb; rw [if_neg (by omega), if_neg (by decide)]
    | false => have := of_decide_eq_false hb; rw [if_pos (by omega), if_pos rfl]
theorem ite_some {α : Type} {c : Prop} [Decidable c] (f : Int → Option α) (a b : Int) : (if c then f a else f b) = f (if c then a else b) := by split <;> rfl
theorem refRoll_in (l : List Int) (i : Int) (c : Int) (h : 0 ≤ c ∧ c ≤ 255) (d : Nat) : ∀ (K j : Nat) (v : R32), j + d = 8 →
    B.mooringsref04_roll.l1 (d + 1 + K) (v.toNat : Nat) l i (cut8 c j) (j : Int) = B.mooringsref04_roll.l0 K ((rollB v ((byteBits c).drop j)).toNat : Nat) l (wrap64 (i + 1)) := by
  induction d with
  | zero =>
    intro K j v hd
    have : (byteBits c).drop j = [] := List.drop_eq_nil_iff.2 (by rw [byteBits_length]; omega)
    rw [this, show 0 + 1 + K = K + 1 by omega]
    simp only [B.mooringsref04_roll.l1]
    rw [if_neg (show ¬ (j : Int) < 8 by omega)]
    rfl
  | succ d ih =>
    intro K j v hd
    have hj : j < 8 := by omega
    have hw : wrap64 ((j : Int) + 1) = ((j + 1 : Nat) : Int) := by unfold wrap64; omega
    have hst := ref_step v (cut8 c j) _ (by unfold cut8; omega) (by unfold cut8; omega) (cut8_bit c h j hj)
    have hdr : (byteBits c).drop j = (byteBits c).getD j false :: (byteBits c).drop (j + 1) := by
      have h8 : j < (byteBits c).length := hj
      rw [List.drop_eq_getElem_cons h8]
      simp [List.getD_eq_getElem?_getD, h8]
    rw [show d + 1 + 1 + K = (d + 1 + K) + 1 by omega]
    simp only [B.mooringsref04_roll.l1]
    rw [if_pos (show (j : Int) < 8 by omega), ite_some (fun x => B.mooringsref04_roll.l1 (d + 1 + K) x l i _ _), hst, cut8_next, hw, ih K (j + 1) _ (by omega), hdr]
    rfl
theorem refRoll_loop (l : List Int) (ho : okB l) (hl : l.length ≤ 4611686018427387904) (d : Nat) : ∀ (K i : Nat) (v : R32), i + d = l.length →
    B.mooringsref04_roll.l0 (10 * d + 1 + K) (v.toNat : Nat) l (i : Int) = some ((cRoll v (l.drop i)).toNat : Nat) := by
  induction d with
  | zero =>
    intro K i v hd
    have : l.drop i = [] := List.drop_eq_nil_iff.2 (by omega)
    rw [this, show 10 * 0 + 1 + K = K + 1 by omega]
    simp only [B.mooringsref04_roll.l0]
    rw [if_neg (show ¬ (i : Int) < l.length by omega)]
    rfl
  | succ d ih =>
    intro K i v hd
    have hlt : i < l.length := by omega
    have hdrop : l.drop i = l[i] :: l.drop (i + 1) := List.drop_eq_getElem_cons hlt
    have hr : rd l (i : Int) = l[i] := by unfold rd; simp [List.getD_eq_getElem?_getD, hlt]
    have hc := ho l[i] (List.getElem_mem hlt)
    have hw : wrap64 ((i : Int) + 1) = ((i + 1 : Nat) : Int) := by unfold wrap64; omega
    have hz : rd l (i : Int) = cut8 l[i] 0 := by rw [hr]; unfold cut8; simp; omega
    rw [show 10 * (d + 1) + 1 + K = (8 + 1 + (10 * d + 1 + K)) + 1 by omega]
    simp only [B.mooringsref04_roll.l0]
    have hin := refRoll_in l (i : Int) l[i] hc 8 (10 * d + 1 + K) 0 v rfl
    rw [if_pos (show (i : Int) < l.length by omega), if_pos (show (0 : Int) ≤ i by omega), hz]
    simp only [Int.natCast_zero] at hin
    rw [hin, hw, ih K (i + 1) _ (by omega), hdrop]
    congr 2
theorem refRoll_tells (l : List Int) (ho : okB l) (hl : l.length ≤ 4611686018427387904) (v : R32) (k : Nat) (hk : 10 * l.length + 1 ≤ k) : B.mooringsref04_roll.f k (v.toNat : Nat) l = some ((cRoll v l).toNat : Nat) := by
  unfold B.mooringsref04_roll.f
  obtain ⟨K, rfl⟩ : ∃ K, k = 10 * l.length + 1 + K := ⟨k - (10 * l.length + 1), by omega⟩
  have := refRoll_loop l ho hl l.length K 0 v (by omega)
  simpa using this
theorem sub_all (v : R32) : (4294967295 - ((v.toNat : Nat) : Int)) % 4294967296 = (((v ^^^ cAll).toNat : Nat) : Int) := by
  have hlt := v.isLt
  have h : v ^^^ cAll = ~~~ v := by unfold cAll; exact BitVec.xor_allOnes
  rw [h, BitVec.toNat_not]
  omega
theorem refSum_tells (l : List Int) (ho : okB l) (hl : l.length ≤ 4611686018427387904) (k : Nat) (hk : 10 * l.length + 1 ≤ k) : B.mooringsref04_Sum.f k l = some (cSum l) := by
  unfold B.mooringsref04_Sum.f
  have h := refRoll_tells l ho hl cAll k hk
  rw [show ((cAll.toNat : Nat) : Int) = 4294967295 from rfl] at h
  rw [h]
  show some ((4294967295 - (((cRoll cAll l).toNat : Nat) : Int)) % 4294967296) = _
  rw [sub_all]
  rfl
theorem refFour_tells (v : R32) : B.mooringsref04_Four.f ((v.toNat : Nat) : Int) = some (fourB v) := by
  unfold B.mooringsref04_Four.f fourB
  have := v.isLt
  congr 1
  simp only [List.cons.injEq, and_true, Int.tdiv_eq_ediv_of_nonneg (Int.natCast_nonneg v.toNat), Int.tmod_eq_emod_of_nonneg (Int.natCast_nonneg v.toNat)]
  omega
theorem refSeal_tells (l : List Int) (ho : okB l) (hl : l.length ≤ 140737488355323) (k : Nat) (hk : 10 * l.length + 1 ≤ k) : B.mooringsref04_Seal.f k l = some (cSeal l) := by
  unfold B.mooringsref04_Seal.f
  rw [if_pos (by simp; omega)]
  simp only [Option.bind_some, List.nil_append]
  rw [refSum_tells l ho (by omega) k hk]
  simp only [Option.bind_some]
  rw [show cSum l = (((cSumV l).toNat : Nat) : Int) from rfl, refFour_tells]
  simp only [Option.bind_some]
  have h4 : (fourB (cSumV l)).length = 4 := rfl
  rw [if_pos (by omega)]
  rfl

end Go.Proofs.Ytiopafdndlodoaa.H
