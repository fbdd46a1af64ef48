/- CrcLinear: what is another bit in one place makes the same difference of the sum, whatever the bytes are, as long as they are as many. No conditions. -/
import Derived.Test.YtegcphdlkheboaaLx5
import Derived.Test.YtegcphdlkheboaaStr
namespace Go.Proofs.Ytegcphdlkheboaa.Pure
open Go.RowKit Go.Proofs.Ytegcphdlkheboaa.L Go.Proofs.Ytegcphdlkheboaa.H Moor Go.Proofs.YtegcphdlkheboaaW.PrintWords Go.Proofs.YtegcphdlkheboaaW.PrintLast

attribute [local irreducible] shr Go.bits

theorem set_flip (l : List Int) (k : Nat) (ho : okB l) (hk : k < 8 * l.length) :
    l.set ((((k / 8 : Nat) : Int)).toNat) (Go.bits .xor .u8 (rd l ((k / 8 : Nat) : Int)) (shr .u8 128 ((k % 8 : Nat) : Int))) = flipBit l k := by
  have hlt : k / 8 < l.length := by omega
  have hr : rd l ((k / 8 : Nat) : Int) = l.getD (k / 8) 0 := by unfold rd; rw [Int.toNat_natCast]
  have hg : 0 ≤ l.getD (k / 8) 0 ∧ l.getD (k / 8) 0 ≤ 255 := by
    rw [List.getD_eq_getElem?_getD, List.getElem?_eq_getElem hlt]
    exact ho _ (List.getElem_mem hlt)
  rw [hr, shr_bit, xor_byte _ _ hg (bitOf_ok _), Int.toNat_natCast]
  rfl
theorem xor_sums (a b : List Int) : Go.bits .xor .u32 (cSum a) (cSum b) = (((cSumV a ^^^ cSumV b).toNat : Nat) : Int) := by
  have h1 := (cSumV a).isLt
  have h2 := (cSumV b).isLt
  show Go.bits .xor .u32 (((cSumV a).toNat : Nat) : Int) (((cSumV b).toNat : Nat) : Int) = _
  rw [u32_xor_nat _ _ (by omega) (by omega), BitVec.toNat_xor]

theorem CrcLinear : mooringslaw04_CrcLinear.Pure := by
  intro l0 l1 a2 m0 h0 w0 m1 h1 w1 wb
  have o0 := okB_wf w0
  have o1 := okB_wf w1
  refine ⟨1, ?_⟩
  unfold mooringslaw04_CrcLinear.f
  simp only [mooringslaw04_awake.f, Option.bind_some, if_true]
  by_cases a : (l0.length : Int) > 300
  · rw [if_pos a]
    simp [mooringslaw04_CrcLinear.j0]
  · rw [if_neg a]
    by_cases b : (l0.length : Int) = (l1.length : Int)
    · rw [if_pos b]
      by_cases c : a2 < 0
      · rw [if_pos c]
        simp [mooringslaw04_CrcLinear.j0]
      · rw [if_neg c]
        have hw8 : wrap64 (8 * (l0.length : Int)) = 8 * (l0.length : Int) := by unfold wrap64; omega
        rw [hw8]
        by_cases d : a2 ≥ 8 * (l0.length : Int)
        · rw [decide_eq_true d]
          simp [mooringslaw04_CrcLinear.j0]
        · rw [decide_eq_false d]
          obtain ⟨k, rfl⟩ := Int.eq_ofNat_of_zero_le (show 0 ≤ a2 by omega)
          have hk0 : k < 8 * l0.length := by omega
          have hk1 : k < 8 * l1.length := by omega
          have t3 : wrap64 (Int.tdiv (k : Int) 8) = ((k / 8 : Nat) : Int) := by rw [Int.tdiv_eq_ediv_of_nonneg (by omega)]; unfold wrap64; omega
          have t4 : Int.tmod (k : Int) 8 = ((k % 8 : Nat) : Int) := by rw [Int.tmod_eq_emod_of_nonneg (by omega)]; omega
          have f0 := set_flip l0 k o0 hk0
          have f1 := set_flip l1 k o1 hk1
          have n0 : (flipBit l0 k).length ≤ 300 := by rw [flip_length]; omega
          have n1 : (flipBit l1 k).length ≤ 300 := by rw [flip_length]; omega
          have x0 := xor_sums (flipBit l0 k) l0
          have x1 := xor_sums (flipBit l1 k) l1
          have hne := flip_other o0 k hk0
          simp only [mooringslaw04_CrcLinear.j0, crc_Sum.f, Option.bind_some, List.nil_append, t3, t4, f0, f1]
          rw [if_neg (by decide), if_pos (show ([] : List Int).length + l0.length < 140737488355328 by simp; omega), if_pos (show ([] : List Int).length + l1.length < 140737488355328 by simp; omega), if_pos (show (0 : Int) ≤ ((k / 8 : Nat) : Int) by omega), if_pos (show ((k / 8 : Nat) : Int) < (l0.length : Int) by omega), if_pos (show (0 : Int) ≤ ((k % 8 : Nat) : Int) by omega), if_pos (show ((k / 8 : Nat) : Int) < (l1.length : Int) by omega), if_pos ⟨flip_ok o0 k, by omega⟩]
          simp only [Option.bind_some]
          rw [if_pos ⟨o0, by omega⟩]
          simp only [Option.bind_some]
          rw [if_pos ⟨flip_ok o1 k, by omega⟩]
          simp only [Option.bind_some]
          rw [if_pos ⟨o1, by omega⟩]
          simp only [Option.bind_some]
          rw [x0, x1, one_bit (show l0.length = l1.length by omega) k hk0, if_pos rfl]
          simpa using hne
    · rw [if_neg b]
      simp [mooringslaw04_CrcLinear.j0]
end Go.Proofs.Ytegcphdlkheboaa.Pure
