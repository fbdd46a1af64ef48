import Derived.Test.YtiopafdndlodoaaBx
import Derived.Test.YtiopafdndlodoaaMoorCrc
import Derived.Lib.Hide
import Derived.Outline
import Derived.Deep.RegionWith
import Derived.Maps.AppendAt
import Derived.OwnWalk
import Derived.RangeFuncBox
import Derived.Laws.BitsAllLaws
import Derived.Laws.Bits128
/-! crc's register, walked. -/
namespace Go.Proofs.Ytiopafdndlodoaa.H
open Go.RowKit Moor Go.Proofs.YtiopafdndlodoaaW.PrintWords Go.Proofs.YtiopafdndlodoaaW.PrintLast Go.Proofs.YtiopafdndlodoaaW.PrintMore
set_option linter.unusedVariables false
set_option linter.unusedSimpArgs false

/-- One bit into the register, as numbers. -/
def stepI (n : Int) (b : Bool) : Int := if (n / 2147483648 == 1) = b then n * 2 % 4294967296 else bits .xor .u32 (n * 2 % 4294967296) 79764919

theorem u32_xor_nat (a b : Nat) (ha : a < 4294967296) (hb : b < 4294967296) : bits .xor .u32 (a : Int) (b : Int) = ((a ^^^ b : Nat) : Int) := by
  have h1 : (BitVec.ofInt 32 (a : Int)).toNat = a := by rw [BitVec.ofInt_natCast, BitVec.toNat_ofNat]; exact Nat.mod_eq_of_lt (by omega)
  have h2 : (BitVec.ofInt 32 (b : Int)).toNat = b := by rw [BitVec.ofInt_natCast, BitVec.toNat_ofNat]; exact Nat.mod_eq_of_lt (by omega)
  have hx : a ^^^ b < 2 ^ 32 := Nat.xor_lt_two_pow (by omega) (by omega)
  show IntKind.u32.wrap ((BitVec.ofInt 32 (a : Int) ^^^ BitVec.ofInt 32 (b : Int)).toNat : Int) = _
  rw [BitVec.toNat_xor, h1, h2]
  show (((a ^^^ b : Nat) : Int)) % 4294967296 = _
  omega
theorem u8_xor_nat (a b : Nat) (ha : a < 256) (hb : b < 256) : bits .xor .u8 (a : Int) (b : Int) = ((a ^^^ b : Nat) : Int) := by
  have h1 : (BitVec.ofInt 8 (a : Int)).toNat = a := by rw [BitVec.ofInt_natCast, BitVec.toNat_ofNat]; exact Nat.mod_eq_of_lt (by omega)
  have h2 : (BitVec.ofInt 8 (b : Int)).toNat = b := by rw [BitVec.ofInt_natCast, BitVec.toNat_ofNat]; exact Nat.mod_eq_of_lt (by omega)
  have hx : a ^^^ b < 2 ^ 8 := Nat.xor_lt_two_pow (by omega) (by omega)
  show IntKind.u8.wrap ((BitVec.ofInt 8 (a : Int) ^^^ BitVec.ofInt 8 (b : Int)).toNat : Int) = _
  rw [BitVec.toNat_xor, h1, h2]
  show (((a ^^^ b : Nat) : Int)) % 256 = _
  omega
theorem msb_div (v : R32) : v.msb = decide ((v.toNat : Int) / 2147483648 = 1) := by
  rw [BitVec.msb_eq_decide]
  have := v.isLt
  apply decide_eq_decide.2
  omega
theorem shl_toNat (v : R32) : ((v <<< 1).toNat : Int) = (v.toNat : Int) * 2 % 4294967296 := by
  rw [BitVec.toNat_shiftLeft, Nat.shiftLeft_eq]
  omega
theorem stepI_tells (v : R32) (b : Bool) : stepI (v.toNat : Nat) b = ((stepB v b).toNat : Nat) := by
  have hs : (v ^^^ inB b) <<< 1 = v <<< 1 := by
    rw [BitVec.shiftLeft_xor_distrib]
    cases b <;> simp [inB]
  have hm : (v ^^^ inB b).msb = (v.msb ^^ b) := by
    rw [BitVec.msb_xor]
    congr 1
    cases b <;> decide
  unfold stepB lfsr
  rw [hs, hm, msb_div]
  unfold stepI
  have hlt := (v <<< 1).isLt
  by_cases h : (v.toNat : Int) / 2147483648 = 1
  · have h' : ((v.toNat : Int) / 2147483648 == 1) = true := by simpa using h
    rw [h', decide_eq_true h]
    cases b with
    | true => rw [if_pos rfl, if_neg (by decide), shl_toNat]
    | false =>
      rw [if_neg (by decide), if_pos (by decide), BitVec.toNat_xor, ← shl_toNat, show (79764919 : Int) = ((79764919 : Nat) : Int) from rfl, u32_xor_nat _ 79764919 hlt (by decide)]
      rfl
  · have h' : ((v.toNat : Int) / 2147483648 == 1) = false := by simpa using h
    rw [h', decide_eq_false h]
    cases b with
    | false => rw [if_pos rfl, if_neg (by decide), shl_toNat]
    | true =>
      rw [if_neg (by decide), if_pos (by decide), BitVec.toNat_xor, ← shl_toNat, show (79764919 : Int) = ((79764919 : Nat) : Int) from rfl, u32_xor_nat _ 79764919 hlt (by decide)]
      rfl
theorem stepI_ok (v : R32) (b : Bool) : 0 ≤ stepI (v.toNat : Nat) b ∧ stepI (v.toNat : Nat) b ≤ 4294967295 := by
  rw [stepI_tells]
  have := (stepB v b).isLt
  omega

set_option maxHeartbeats 1000000 in
/-- One bit into the register. -/
theorem bit_calls (B : Nat) (n : Int) (b : Bool) (w : World) (hb : Boxed w B 97 (.int .u32 n)) (h0 : 0 ≤ n) (h1 : n ≤ 4294967295) :
    Calls Try.prog 67 #[.pointer (some ⟨B, 0, none⟩), .bool b] w fun e w' => e = .returned (.tuple #[]) ∧ Boxed w' B 97 (.int .u32 (stepI n b)) ∧ w.grownBy w' (some B) := by
  have hc := hb.cell
  have hf := hb.frozen
  by_cases hq : n / 2147483648 = 1
  · have hq1 : (n / 2147483648 == 1) = true := by simpa using hq
    have hS : ∀ b, stepI n b = if b = true then n * 2 % 4294967296 else bits .xor .u32 (n * 2 % 4294967296) 79764919 := by
      intro b
      unfold stepI
      rw [hq1]
      cases b <;> rfl
    clear hq
    have HS := Lib.hid hS
    clear hS
    cases b with
    | true =>
      go_enter Try.func67, Try.ntmps67
      go_wp2_with (fail)
      go_end0
      refine ⟨rfl, ?_, grownBy_setCell' _ _ _⟩
      rw [HS.out, if_pos rfl]
      exact hb.set _
    | false =>
      go_enter Try.func67, Try.ntmps67
      go_wp2_with (fail)
      go_end0
      refine ⟨rfl, ?_, World.grownBy.trans (grownBy_setCell' _ _ _) (grownBy_setCell' _ _ _)⟩
      rw [HS.out, if_neg (by decide)]
      exact (hb.set _).set _
  · have hq1 : (n / 2147483648 == 1) = false := by simpa using hq
    have hS : ∀ b, stepI n b = if b = true then bits .xor .u32 (n * 2 % 4294967296) 79764919 else n * 2 % 4294967296 := by
      intro b
      unfold stepI
      rw [hq1]
      cases b <;> rfl
    clear hq
    have HS := Lib.hid hS
    clear hS
    cases b with
    | false =>
      go_enter Try.func67, Try.ntmps67
      go_wp2_with (fail)
      go_end0
      refine ⟨rfl, ?_, grownBy_setCell' _ _ _⟩
      rw [HS.out, if_neg (by decide)]
      exact hb.set _
    | true =>
      go_enter Try.func67, Try.ntmps67
      go_wp2_with (fail)
      go_end0
      refine ⟨rfl, ?_, World.grownBy.trans (grownBy_setCell' _ _ _) (grownBy_setCell' _ _ _)⟩
      rw [HS.out, if_pos rfl]
      exact (hb.set _).set _
theorem bit_calls' (B : Nat) (v : R32) (b : Bool) (w : World) (hb : Boxed w B 97 (.int .u32 (v.toNat : Nat))) :
    Calls Try.prog 67 #[.pointer (some ⟨B, 0, none⟩), .bool b] w fun e w' => e = .returned (.tuple #[]) ∧ Boxed w' B 97 (.int .u32 ((stepB v b).toNat : Nat)) ∧ w.grownBy w' (some B) := by
  have := v.isLt
  have h := bit_calls B _ b w hb (by omega) (by omega)
  rw [stepI_tells] at h
  exact h

theorem u8_and_one (a : Int) (h0 : 0 ≤ a) (h1 : a ≤ 255) : bits .and .u8 a 1 = a % 2 := by
  obtain ⟨n, rfl⟩ := Int.eq_ofNat_of_zero_le h0
  have e1 : (BitVec.ofInt 8 ((n : Nat) : Int)).toNat = n := by rw [BitVec.ofInt_natCast, BitVec.toNat_ofNat]; exact Nat.mod_eq_of_lt (by omega)
  show IntKind.u8.wrap ((BitVec.ofInt 8 (n : Int) &&& BitVec.ofInt 8 1).toNat : Int) = _
  rw [BitVec.toNat_and, e1]
  have e2 : (BitVec.ofInt 8 1).toNat = 1 := by decide
  rw [e2, Nat.and_one_is_mod]
  show (((n % 2 : Nat) : Int)) % 256 = _
  omega
theorem byteBits_get (x : Int) (j : Nat) (hj : j < 8) : (byteBits x).getD j false = x.toNat.testBit (7 - j) := by
  have : j = 0 ∨ j = 1 ∨ j = 2 ∨ j = 3 ∨ j = 4 ∨ j = 5 ∨ j = 6 ∨ j = 7 := by omega
  rcases this with rfl | rfl | rfl | rfl | rfl | rfl | rfl | rfl <;> rfl
theorem bit_at (x : Int) (h : 0 ≤ x ∧ x ≤ 255) (j : Nat) (hj : j < 8) : (bits .and .u8 (x / 2 ^ (7 - j)) 1 == 1) = (byteBits x).getD j false := by
  obtain ⟨n, rfl⟩ := Int.eq_ofNat_of_zero_le h.1
  have e : ((n : Int) / 2 ^ (7 - j)) = ((n / 2 ^ (7 - j) : Nat) : Int) := by simp
  have hle : n / 2 ^ (7 - j) ≤ n := Nat.div_le_self _ _
  rw [e, u8_and_one _ (Int.natCast_nonneg _) (Int.le_trans (Int.ofNat_le.2 hle) h.2), byteBits_get _ _ hj, Int.toNat_natCast, Nat.testBit_eq_decide_div_mod_eq]
  rw [Bool.eq_iff_iff]
  simp
  omega
theorem byteBits_take (x : Int) (j : Nat) (hj : j < 8) : (byteBits x).take (j + 1) = (byteBits x).take j ++ [(byteBits x).getD j false] := by
  have h8 : j < (byteBits x).length := hj
  rw [List.take_succ_eq_append_getElem h8]
  simp [List.getD_eq_getElem?_getD, h8]
theorem cell_of8 {w : World} {A : Option Addr} {l : List Int} (h : Kd.C (Kd.int .u8) w A l.length l) (k : Nat) (hk : k < l.length) : ∃ ad, A = some ad ∧ w.cell? (ad.add k) = some (.int .u8 l[k]) := by
  obtain ⟨ad, e, hc⟩ := Kd.at_int h (k : Int) (by omega) (by omega)
  have hr : rd l (k : Int) = l[k] := by unfold rd; simp [List.getD_eq_getElem?_getD, hk]
  rw [hr] at hc
  exact ⟨ad, e, by simpa using hc⟩
set_option maxHeartbeats 2000000 in
theorem roll_calls (w0 : World) (A : Option Addr) (c : Nat) (l : List Int) (B : Nat) (v : R32) (w : World) (hR : Kd.C (Kd.int .u8) w0 A l.length l) (hc : l.length ≤ c) (ho : okB l) (hW : Below w0.heap.size w0 w) (hB : w0.heap.size ≤ B)
    (hb : Boxed w B 97 (.int .u32 (v.toNat : Nat))) :
    Calls Try.prog 66 #[.slice A l.length c, .func (.func 67) #[.pointer (some ⟨B, 0, none⟩)] #[]] w fun e w' => e = .returned (.tuple #[]) ∧ Boxed w' B 97 (.int .u32 ((cRoll v l).toNat : Nat)) ∧ w.grownBy w' (some B) := by
  have hll : l.length ≤ 9223372036854775807 := Kd.C_max hR
  go_enter Try.func66, Try.ntmps66
  go_wp2_with (fail)
  go_loopw [9] (fun i wr => ∃ k : Nat, k ≤ l.length ∧ i = .int .i64 (k : Int) ∧ Boxed wr B 97 (.int .u32 ((cRoll v (l.take k)).toNat : Nat)) ∧ w.grownBy wr (some B))
    (fun i _ => l.length - (intOf i).toNat)
  case atStart => exact ⟨0, Nat.zero_le _, rfl, hb, World.grownBy.refl _ _⟩
  case round =>
    obtain ⟨k, hk, rfl, hbx, hg⟩ := hrel
    by_cases hlt : k < l.length
    · have hlti : (k : Int) < (l.length : Int) := by omega
      have hBw : Below w0.heap.size w0 wr := hW.grown hg hW.size (fun j e => by cases e; exact hB)
      obtain ⟨ad, rfl, hcell⟩ := cell_of8 (Kd.C_below hR hBw) k hlt
      have hok := ho l[k] (List.getElem_mem hlt)
      have hnx : cRoll v (l.take (k + 1)) = rollB (cRoll v (l.take k)) (byteBits l[k]) := by
        rw [List.take_succ_eq_append_getElem hlt, cRoll_append]
        show rollB _ (bitsOf [l[k]]) = _
        simp [bitsOf]
      generalize hx : l[k] = x at *
      generalize hv : cRoll v (l.take k) = vk at *
      have HN := Lib.hid hnx
      clear hx hb hnx hv
      go_wp2_with (fail)
      go_loopw [13] (fun i wq => ∃ j : Nat, j ≤ 8 ∧ i = .int .i64 (j : Int) ∧ Boxed wq B 97 (.int .u32 ((rollB vk ((byteBits x).take j)).toNat : Nat)) ∧ w.grownBy wq (some B))
        (fun i _ => 8 - (intOf i).toNat)
      case atStart => exact ⟨0, by omega, rfl, hbx, hg⟩
      case round =>
        obtain ⟨j, hj, rfl, hbq, hgq⟩ := hrel
        by_cases hj8 : j < 8
        · have hj8i : (j : Int) < 8 := by omega
          clear hbx hcell
          go_wp2_with (fail)
          rw [bit_at x hok j hj8]
          refine (bit_calls' B _ _ wr hbq).mono ?_
          rintro e w2 ⟨rfl, hb2, hg2⟩
          have hst : rollB vk ((byteBits x).take (j + 1)) = stepB (rollB vk ((byteBits x).take j)) ((byteBits x).getD j false) := by
            rw [byteBits_take x j hj8, rollB_append]
            rfl
          rw [← hst] at hb2
          generalize (byteBits x).getD j false = bb at *
          clear hst hbq
          go_wp2_with (fail)
          go_roundw
          case rel => exact ⟨j + 1, by omega, by go_num, hb2, World.grownBy.trans hgq hg2⟩
          case measure => simp [intOf]; omega
        · have hj8i : ¬ ((j : Int) < 8) := by omega
          obtain rfl : j = 8 := by omega
          have hb3 : Boxed wr B 97 (.int .u32 ((cRoll v (l.take (k + 1))).toNat : Nat)) := by
            rw [HN.out]
            exact hbq
          clear hbq hbx
          go_wp2_with (fail)
          go_roundw
          case rel => exact ⟨k + 1, by omega, by go_num, hb3, hgq⟩
          case measure => simp [intOf]; omega
    · have hnl : ¬ ((k : Int) < (l.length : Int)) := by omega
      obtain rfl : k = l.length := by omega
      rw [List.take_length] at hbx
      clear hb
      go_wp2_with (fail)
      go_end0
      exact ⟨rfl, hbx, hg⟩
end Go.Proofs.Ytiopafdndlodoaa.H
