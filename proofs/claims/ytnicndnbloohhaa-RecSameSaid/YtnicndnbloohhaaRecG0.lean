import Derived.Test.YtnicndnbloohhaaRecP
/-! Layer 5: Get, its parts. -/
namespace Go.Proofs.Ytnicndnbloohhaa.H
open Go.RowKit Moor Go.Proofs.YtnicndnbloohhaaW.PrintWords Go.Proofs.YtnicndnbloohhaaW.PrintLast Go.Proofs.YtnicndnbloohhaaW.PrintMore
set_option linter.unusedVariables false
set_option linter.unusedSimpArgs false

/-- A part of three numbers. -/
theorem mid3B (A : Option Addr) (c : Nat) (l : List Int) (a b : Int) (h0 : 0 ≤ a) (h1 : a ≤ b) (hm : b ≤ l.length) (hc : l.length ≤ c) :
    ∃ A' : Option Addr, (∀ W : World, (Instr.slice 22 (.slice A l.length c) (some (.int .i64 a)) (some (.int .i64 b)) (some (.int .i64 b))).run Try.prog W = .ok (.slice A' ((l.take b.toNat).drop a.toNat).length (b.toNat - a.toNat)) W) ∧
      (∀ w : World, Kd.C (Kd.int .u8) w A l.length l → Kd.C (Kd.int .u8) w A' ((l.take b.toNat).drop a.toNat).length ((l.take b.toNat).drop a.toNat)) ∧ ((l.take b.toNat).drop a.toNat).length ≤ b.toNat - a.toNat := by
  obtain ⟨i0, hi, hz0, hz1, hz2⟩ := info_parts infoU8
  have hlt : (l.take b.toNat).length = b.toNat := by rw [List.length_take]; omega
  have hl : ((l.take b.toNat).drop a.toNat).length = b.toNat - a.toNat := by rw [List.length_drop, hlt]
  refine ⟨if b.toNat = a.toNat then A else A.map (·.add a.toNat), fun W => ?_, fun w h => ?_, by rw [hl]; omega⟩
  · have ht : Try.prog.underlying 22 = some (.slice 5) := Try.underlying22
    have hel : Try.prog.elem 22 = 5 := by simp [Program.elem, ht]
    have hu : Try.prog.underlying 22 = some (.slice (Try.prog.elem 22)) := by rw [hel]; exact ht
    rw [run_slice_lhm W 22 A l.length c hu .i64 .i64 .i64 a b b h0 h1 (Int.le_refl _) (by omega), hel, hl]
    simp [sizeOf, typeInfo, hi, hz1, sliced, Result.andThen]
  · have hr : ReadsOf (Value.int .u8) (0 : Int) w A l.length l := Kd.reads_of_C (h1 := fun _ => rfl) h
    have h2 := (hr.take_ b.toNat (by omega)).drop_ (c := b.toNat) a.toNat (by omega) (by omega)
    rw [hl]
    exact Kd.C_of_reads (h1 := fun _ => rfl) h2
theorem add_blockR (ad : Addr) (n : Nat) : (ad.add n).block = ad.block := by
  cases ad
  unfold Addr.add
  split <;> simp_all
/-- A part between two places. -/
theorem midB (A : Option Addr) (c : Nat) (l : List Int) (a b : Int) (h0 : 0 ≤ a) (h1 : a ≤ b) (hm : b ≤ l.length) (hc : l.length ≤ c) :
    ∃ A' : Option Addr, (∀ W : World, (Instr.slice 22 (.slice A l.length c) (some (.int .i64 a)) (some (.int .i64 b)) none).run Try.prog W = .ok (.slice A' ((l.take b.toNat).drop a.toNat).length (c - a.toNat)) W) ∧
      (∀ w : World, Kd.C (Kd.int .u8) w A l.length l → Kd.C (Kd.int .u8) w A' ((l.take b.toNat).drop a.toNat).length ((l.take b.toNat).drop a.toNat)) ∧ ((l.take b.toNat).drop a.toNat).length ≤ c - a.toNat := by
  obtain ⟨i0, hi, hz0, hz1, hz2⟩ := info_parts infoU8
  obtain ⟨A', k1, k2, k3⟩ := print_mid_of (P := Try.prog) (Value.int .u8) (0 : Int) 22 5 .i64 .i64 Try.underlying22 hi hz1 A c l a b h0 h1 hm hc
  exact ⟨A', k1, fun w h => Kd.C_of_reads (h1 := fun _ => rfl) (k2 w (Kd.reads_of_C (h1 := fun _ => rfl) h)), k3⟩
/-- A part from a place on; it lies in the same block. -/
theorem dropB2 (A : Option Addr) (c : Nat) (l : List Int) (j : Int) (h0 : 0 ≤ j) (hm : j ≤ l.length) (hc : l.length ≤ c) :
    ∃ A' : Option Addr, (∀ W : World, (Instr.slice 22 (.slice A l.length c) (some (.int .i64 j)) none none).run Try.prog W = .ok (.slice A' (l.drop j.toNat).length (c - j.toNat)) W) ∧
      (∀ w : World, Kd.C (Kd.int .u8) w A l.length l → Kd.C (Kd.int .u8) w A' (l.drop j.toNat).length (l.drop j.toNat)) ∧ (l.drop j.toNat).length ≤ c - j.toNat ∧ (∀ ad', A' = some ad' → ∃ ad, A = some ad ∧ ad'.block = ad.block) := by
  obtain ⟨i0, hi, hz0, hz1, hz2⟩ := info_parts infoU8
  have hl : (l.drop j.toNat).length = l.length - j.toNat := List.length_drop
  refine ⟨if c = j.toNat then A else A.map (·.add j.toNat), fun W => ?_, fun w h => ?_, by rw [hl]; omega, fun ad' he => ?_⟩
  · have ht : Try.prog.underlying 22 = some (.slice 5) := Try.underlying22
    have hel : Try.prog.elem 22 = 5 := by simp [Program.elem, ht]
    have hu : Try.prog.underlying 22 = some (.slice (Try.prog.elem 22)) := by rw [hel]; exact ht
    rw [run_slice_l W 22 A l.length c hu .i64 j h0 hm, hel, hl]
    simp [sizeOf, typeInfo, hi, hz1, sliced, Result.andThen]
  · have hr : ReadsOf (Value.int .u8) (0 : Int) w A l.length l := Kd.reads_of_C (h1 := fun _ => rfl) h
    have h2 := hr.drop_ (c := c) j.toNat (by omega) hc
    rw [hl]
    exact Kd.C_of_reads (h1 := fun _ => rfl) h2
  · cases A with
    | none => split at he <;> simp at he
    | some ad =>
      refine ⟨ad, rfl, ?_⟩
      split at he
      · cases he; rfl
      · simp at he
        rw [← he, add_blockR]

end Go.Proofs.Ytnicndnbloohhaa.H
