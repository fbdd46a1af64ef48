import Derived.Test.YtngohjjepjpdlaaVariA
/-! The printed functions of layer 1 answer as the plain ones: put, all. -/
namespace Go.Proofs.Ytngohjjepjpdlaa.H
open Go.RowKit Moor Go.Proofs.YtngohjjepjpdlaaW.PrintWords Go.Proofs.YtngohjjepjpdlaaW.PrintLast Go.Proofs.YtngohjjepjpdlaaW.PrintMore
set_option linter.unusedVariables false
set_option linter.unusedSimpArgs false

set_option maxRecDepth 20000 in
theorem or128 : ∀ a : Nat, a < 256 → (a ||| 128) = a % 128 + 128 := by decide
theorem u8_or128 (n : Int) (h : 0 ≤ n) : bits .or .u8 (n % 256) 128 = n % 128 + 128 := by
  rw [u8_or (n % 256) 128 (by omega) (by omega) (by omega) (by omega)]
  have := or128 (n % 256).toNat (by omega)
  rw [show (128 : Int).toNat = 128 from rfl, this]
  omega

attribute [local irreducible] shl Go.bits

theorem put_loop (f : Nat) : ∀ (k : Nat) (out : List Int) (n : Int), f < k → 0 ≤ n → n < 128 ^ (f + 1) → out.length + f < 140737488355328 → B.vari_put.l0 k out n = some (out ++ putF f n) := by
  induction f with
  | zero =>
    intro k out n hk h0 h1 hl
    obtain ⟨k, rfl⟩ : ∃ m, k = m + 1 := ⟨k - 1, by omega⟩
    have h2 : n < 128 := by simpa using h1
    simp only [B.vari_put.l0]
    rw [if_neg (show ¬ n ≥ 128 by omega), if_pos (by omega)]
    rfl
  | succ f ih =>
    intro k out n hk h0 h1 hl
    obtain ⟨k, rfl⟩ : ∃ m, k = m + 1 := ⟨k - 1, by omega⟩
    simp only [B.vari_put.l0]
    have hol : out.length < 140737488355328 := by omega
    by_cases h : n < 128
    · rw [if_neg (show ¬ n ≥ 128 by omega), if_pos hol, putF, if_pos h]
      have : n % 256 = n := by omega
      rw [this]
    · rw [if_pos (show n ≥ 128 by omega), if_pos hol, u8_or128 n h0, ih k _ (n / 128) (by omega) (by omega) (pow_step f n h1) (by simp; omega), putF, if_neg h]
      simp
theorem vput_tells (out : List Int) (n : Int) (hn : mayN n) (hl : out.length < 140737488355000) (k : Nat) (hk : 10 ≤ k) : B.vari_put.f k out n = some (out ++ put n) :=
  put_loop 5 k out n (by omega) hn.1 (by have := hn.2; show n < 4398046511104; omega) (by omega)
theorem vmay_tells (n : Int) : B.vari_may.f n = some (decide (mayN n)) := by
  unfold B.vari_may.f
  by_cases h : n ≥ 0
  · rw [if_pos h]
    congr 1
    exact decide_eq_decide.2 ⟨fun g => ⟨h, g⟩, fun g => g.2⟩
  · rw [if_neg h, decide_eq_false (show ¬ mayN n from fun g => h g.1)]
/-- .. all, from the i-th on. -/
theorem all_loop (l : List Int) (hl : l.length ≤ 400) (d : Nat) : ∀ (k i : Nat) (out : List Int), i + d = l.length → d + 10 < k → out.length ≤ 6 * i →
    B.vari_All.l0 k out l (l.length : Int) (i : Int) = some (if ∀ x ∈ l.drop i, mayN x then (out ++ (l.drop i).flatMap put, true) else ([], false)) := by
  induction d with
  | zero =>
    intro k i out hd hk ho
    obtain ⟨k, rfl⟩ : ∃ m, k = m + 1 := ⟨k - 1, by omega⟩
    have : l.drop i = [] := List.drop_eq_nil_iff.2 (by omega)
    simp only [B.vari_All.l0]
    rw [if_neg (show ¬ (i : Int) < l.length by omega), this]
    simp
  | succ d ih =>
    intro k i out hd hk ho
    obtain ⟨k, rfl⟩ : ∃ m, k = m + 1 := ⟨k - 1, by omega⟩
    have hlt : i < l.length := by omega
    have hdrop : l.drop i = l[i] :: l.drop (i + 1) := List.drop_eq_getElem_cons hlt
    have hi6 : i ≤ 4611686018427387904 := by omega
    simp only [B.vari_All.l0]
    rw [if_pos (show (i : Int) < l.length by omega), if_pos (show (0 : Int) ≤ i by omega), if_pos (show (i : Int) < l.length by omega), rd_nat l i hlt, vmay_tells, hdrop]
    simp only [Option.bind_some]
    by_cases h : mayN l[i]
    · have hp := put_le l[i]
      rw [decide_eq_true h, if_pos rfl, vput_tells out l[i] h (by omega) k (by omega)]
      simp only [Option.bind_some]
      rw [wrap64_nat i hi6, ih k (i + 1) (out ++ put l[i]) (by omega) (by omega) (by simp; omega)]
      simp only [List.forall_mem_cons, List.flatMap_cons, List.append_assoc, h, true_and]
    · rw [decide_eq_false h]
      simp only [List.forall_mem_cons, h, false_and, if_false]
      rfl
theorem vAll_tells (l : List Int) (k : Nat) (hk : 420 ≤ k) : B.vari_All.f k l = some (vAll l) := by
  unfold B.vari_All.f vAll
  by_cases h : l.length ≤ 400
  · rw [if_neg (show ¬ (l.length : Int) > 400 by omega)]
    have := all_loop l h l.length k 0 [] (by omega) (by omega) (by simp)
    simp only [Int.natCast_zero, List.drop_zero, List.nil_append] at this
    rw [this]
    simp [h]
  · rw [if_pos (show (l.length : Int) > 400 by omega)]
    simp [h]

end Go.Proofs.Ytngohjjepjpdlaa.H
