import Derived.Test.YtiallcoopdlneaaBx
import Derived.Test.YtiallcoopdlneaaVariA
import Derived.Test.YtiallcoopdlneaaMoorZig
/-! The printed functions of layer 2 answer as the plain ones. -/
namespace Go.Proofs.Ytiallcoopdlneaa.H
open Go.RowKit Moor Go.Proofs.YtiallcoopdlneaaW.PrintWords Go.Proofs.YtiallcoopdlneaaW.PrintLast Go.Proofs.YtiallcoopdlneaaW.PrintMore
set_option linter.unusedVariables false
set_option linter.unusedSimpArgs false

theorem i64_xor_m1 (x : Int) (h0 : -9223372036854775808 ≤ x) (h1 : x ≤ 9223372036854775807) : bits .xor .i64 (-1) x = -x - 1 := by
  show IntKind.i64.wrap ((BitVec.ofInt 64 (-1) ^^^ BitVec.ofInt 64 x).toNat : Int) = _
  have e : BitVec.ofInt 64 (-1) = BitVec.allOnes 64 := by decide
  rw [e, BitVec.allOnes_xor, BitVec.toNat_not, BitVec.toNat_ofInt, IntKind.wrap_i64]
  omega
theorem i64_xor_right (x : Int) (h0 : -9223372036854775808 ≤ x) (h1 : x ≤ 9223372036854775807) : bits .xor .i64 x (-1) = -x - 1 := by
  rw [← i64_xor_m1 x h0 h1]
  show IntKind.i64.wrap ((BitVec.ofInt 64 x ^^^ BitVec.ofInt 64 (-1)).toNat : Int) = IntKind.i64.wrap ((BitVec.ofInt 64 (-1) ^^^ BitVec.ofInt 64 x).toNat : Int)
  rw [BitVec.xor_comm]
theorem i64_xor_0 (x : Int) (h0 : -9223372036854775808 ≤ x) (h1 : x ≤ 9223372036854775807) : bits .xor .i64 x 0 = x := by
  show IntKind.i64.wrap ((BitVec.ofInt 64 x ^^^ BitVec.ofInt 64 0).toNat : Int) = _
  have e : BitVec.ofInt 64 0 = 0#64 := by decide
  rw [e, BitVec.xor_zero, BitVec.toNat_ofInt, IntKind.wrap_i64]
  omega
theorem i64_and_1 (x : Int) (h0 : 0 ≤ x) (h1 : x ≤ 9223372036854775807) : bits .and .i64 x 1 = x % 2 := by
  obtain ⟨a, rfl⟩ := Int.eq_ofNat_of_zero_le h0
  show IntKind.i64.wrap ((BitVec.ofInt 64 (a : Int) &&& BitVec.ofInt 64 1).toNat : Int) = _
  have e1 : (BitVec.ofInt 64 (a : Int)).toNat = a := by rw [BitVec.ofInt_natCast, BitVec.toNat_ofNat]; exact Nat.mod_eq_of_lt (by omega)
  have e2 : (BitVec.ofInt 64 1).toNat = 1 := by decide
  rw [BitVec.toNat_and, e1, e2, Nat.and_one_is_mod, IntKind.wrap_i64]
  omega

theorem zig_tells (n : Int) (k : Nat) (hk : 1 ≤ k) : B.zig_Zig.f k n = some (vZig n) := by
  obtain ⟨k, rfl⟩ : ∃ m, k = m + 1 := ⟨k - 1, by omega⟩
  unfold B.zig_Zig.f vZig
  by_cases h1 : n < -274877906944
  · rw [if_pos h1, if_pos (.inl h1)]
    rfl
  · rw [if_neg h1]
    by_cases h2 : n > 274877906944
    · rw [decide_eq_true h2, if_pos (.inr h2)]
      rfl
    · rw [decide_eq_false h2, if_neg (by omega)]
      simp only [B.zig_Zig.j0]
      rw [if_neg (by decide), wrap64_id (n := n * 2) (by omega) (by omega)]
      unfold zig
      by_cases h3 : n < 0
      · rw [if_pos h3, if_pos h3, i64_xor_m1 (n * 2) (by omega) (by omega)]
        congr 1
        omega
      · rw [if_neg h3, if_neg h3]
        congr 1
        omega
theorem zag_tells (n : Int) : B.zig_Zag.f n = some (vZag n) := by
  unfold B.zig_Zag.f vZag
  by_cases h1 : n < 0
  · rw [if_pos h1, if_pos (.inl h1)]
  · rw [if_neg h1]
    by_cases h2 : n > 549755813888
    · rw [if_pos h2, if_pos (.inr h2)]
    · rw [if_neg h2, if_neg (by omega), i64_and_1 n (by omega) (by omega)]
      unfold zag
      by_cases h3 : n % 2 = 1
      · rw [if_pos h3, h3, wrap64_id (n := -1) (by omega) (by omega), i64_xor_right (n / 2) (by omega) (by omega)]
      · have h4 : n % 2 = 0 := by omega
        rw [if_neg h3, h4, wrap64_id (n := -0) (by omega) (by omega)]
        rw [show (-0 : Int) = 0 from rfl, i64_xor_0 (n / 2) (by omega) (by omega)]
theorem zin_tells (n : Int) : B.zig_in.f n = some (decide (zin n)) := by
  unfold B.zig_in.f
  by_cases h : n ≥ 0
  · rw [if_pos h]
    congr 1
    exact decide_eq_decide.2 ⟨fun g => ⟨h, g⟩, fun g => g.2⟩
  · rw [if_neg h, decide_eq_false (show ¬ zin n from fun g => h g.1)]

end Go.Proofs.Ytiallcoopdlneaa.H
