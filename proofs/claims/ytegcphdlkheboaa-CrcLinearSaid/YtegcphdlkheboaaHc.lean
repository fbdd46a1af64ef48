import Derived.Test.YtegcphdlkheboaaCrcT
/-! Contracts of functions in their plain form, out of the printed ones. -/
namespace Go.Proofs.Ytegcphdlkheboaa.H
open Go.RowKit Moor Go.Proofs.YtegcphdlkheboaaW.PrintWords Go.Proofs.YtegcphdlkheboaaW.PrintLast Go.Proofs.YtegcphdlkheboaaW.PrintMore
set_option linter.unusedVariables false
set_option linter.unusedSimpArgs false

def mooringsref04_Sum.f (l0 : List Int) : Option (Int) := if okB l0 ∧ l0.length ≤ 140737488355323 then some (cSum l0) else none
theorem mooringsref04_Sum.calls (A0 : Option Addr) (c0 : Nat) (l0 : List Int) (r : Int) (w : World) (hr0 : Kd.C (Kd.int .u8) w A0 l0.length l0) (hc0 : l0.length ≤ c0) (h : mooringsref04_Sum.f l0 = some r) :
    Calls Try.prog 13 #[.slice A0 l0.length c0] w fun e w' => e = .returned (.int .u32 r) ∧ Below w.heap.size w w' := by
  unfold mooringsref04_Sum.f at h
  by_cases hg : okB l0 ∧ l0.length ≤ 140737488355323
  · rw [if_pos hg] at h
    exact (B.mooringsref04_Sum.calls (10 * l0.length + 1) A0 c0 l0 r w hr0 hc0 (by rw [refSum_tells l0 hg.1 (by omega) _ (by omega)]; exact h)).mono fun e w' h => ⟨h.1, h.2.below⟩
  · rw [if_neg hg] at h
    cases h

def mooringsref04_More.f (a0 : Int) (l1 : List Int) : Option (Int) := if (0 ≤ a0 ∧ a0 ≤ 4294967295) ∧ okB l1 ∧ l1.length ≤ 140737488355323 then some (cMore a0 l1) else none
theorem mooringsref04_More.calls (a0 : Int) (A1 : Option Addr) (c1 : Nat) (l1 : List Int) (r : Int) (w : World) (hr1 : Kd.C (Kd.int .u8) w A1 l1.length l1) (hc1 : l1.length ≤ c1) (h : mooringsref04_More.f a0 l1 = some r) :
    Calls Try.prog 15 #[.int .u32 a0, .slice A1 l1.length c1] w fun e w' => e = .returned (.int .u32 r) ∧ Below w.heap.size w w' := by
  unfold mooringsref04_More.f at h
  by_cases hg : (0 ≤ a0 ∧ a0 ≤ 4294967295) ∧ okB l1 ∧ l1.length ≤ 140737488355323
  · rw [if_pos hg] at h
    exact (B.mooringsref04_More.calls (10 * l1.length + 1) a0 A1 c1 l1 r w hr1 hc1 (by rw [refMore_tells a0 hg.1.1 hg.1.2 l1 hg.2.1 (by omega) _ (by omega)]; exact h)).mono fun e w' h => ⟨h.1, h.2.below⟩
  · rw [if_neg hg] at h
    cases h

def mooringsref04_Seal.f (l0 : List Int) : Option (List Int) := if okB l0 ∧ l0.length ≤ 140737488355323 then some (cSeal l0) else none
theorem mooringsref04_Seal.calls (A0 : Option Addr) (c0 : Nat) (l0 : List Int) (r : List Int) (w : World) (hr0 : Kd.C (Kd.int .u8) w A0 l0.length l0) (hc0 : l0.length ≤ c0) (h : mooringsref04_Seal.f l0 = some r) :
    Calls Try.prog 17 #[.slice A0 l0.length c0] w fun e w' => ∃ v0_ : Value, e = .returned (v0_) ∧ Kd.R (Kd.int .u8) 5 w' w.heap.size (fun _ => True) v0_ r ∧ Below w.heap.size w w' := by
  unfold mooringsref04_Seal.f at h
  by_cases hg : okB l0 ∧ l0.length ≤ 140737488355323
  · rw [if_pos hg] at h
    exact (B.mooringsref04_Seal.calls (10 * l0.length + 1) A0 c0 l0 r w hr0 hc0 (by rw [refSeal_tells l0 hg.1 (by omega) _ (by omega)]; exact h))
  · rw [if_neg hg] at h
    cases h

def mooringslaw04_turned.f (l0 : List Int) (a1 : Int) (a2 : Int) : Option (List Int) := if (okB l0 ∧ l0.length ≤ 140737488355323) ∧ (0 ≤ a1 ∧ a1 ≤ 1000000) ∧ (0 ≤ a2 ∧ a2 < 4294967296) then some (turn l0 a1.toNat a2.toNat) else none
theorem mooringslaw04_turned.calls (A0 : Option Addr) (c0 : Nat) (l0 : List Int) (a1 : Int) (a2 : Int) (r : List Int) (w : World) (hr0 : Kd.C (Kd.int .u8) w A0 l0.length l0) (hc0 : l0.length ≤ c0) (h : mooringslaw04_turned.f l0 a1 a2 = some r) :
    Calls Try.prog 18 #[.slice A0 l0.length c0, .int .i64 a1, .int .u32 a2] w fun e w' => ∃ v0_ : Value, e = .returned (v0_) ∧ Kd.R (Kd.int .u8) 5 w' w.heap.size (fun _ => True) v0_ r ∧ Below w.heap.size w w' := by
  unfold mooringslaw04_turned.f at h
  by_cases hg : (okB l0 ∧ l0.length ≤ 140737488355323) ∧ (0 ≤ a1 ∧ a1 ≤ 1000000) ∧ (0 ≤ a2 ∧ a2 < 4294967296)
  · rw [if_pos hg] at h
    exact (B.mooringslaw04_turned.calls (40) A0 c0 l0 a1 a2 r w hr0 hc0 (by rw [turned_tells l0 a1 a2 hg.1.1 (by omega) hg.2.1.1 (by omega) hg.2.2.1 hg.2.2.2]; exact h))
  · rw [if_neg hg] at h
    cases h

def crc_Sum.f (l0 : List Int) : Option (Int) := if okB l0 ∧ l0.length ≤ 140737488355323 then some (cSum l0) else none
theorem crc_Sum.calls (A0 : Option Addr) (c0 : Nat) (l0 : List Int) (r : Int) (w : World) (hr0 : Kd.C (Kd.int .u8) w A0 l0.length l0) (hc0 : l0.length ≤ c0) (h : crc_Sum.f l0 = some r) :
    Calls Try.prog 12 #[.slice A0 l0.length c0] w fun e w' => e = .returned (.int .u32 r) ∧ Below w.heap.size w w' := by
  unfold crc_Sum.f at h
  by_cases hg : okB l0 ∧ l0.length ≤ 140737488355323
  · rw [if_pos hg] at h
    obtain rfl : cSum l0 = r := by simpa using h
    exact sum_calls A0 c0 l0 w hr0 hc0 hg.1
  · rw [if_neg hg] at h
    cases h
def crc_More.f (a0 : Int) (l1 : List Int) : Option (Int) := if 0 ≤ a0 ∧ a0 ≤ 4294967295 ∧ okB l1 then some (cMore a0 l1) else none
theorem crc_More.calls (a0 : Int) (A1 : Option Addr) (c1 : Nat) (l1 : List Int) (r : Int) (w : World) (hr1 : Kd.C (Kd.int .u8) w A1 l1.length l1) (hc1 : l1.length ≤ c1) (h : crc_More.f a0 l1 = some r) :
    Calls Try.prog 14 #[.int .u32 a0, .slice A1 l1.length c1] w fun e w' => e = .returned (.int .u32 r) ∧ Below w.heap.size w w' := by
  unfold crc_More.f at h
  by_cases hg : 0 ≤ a0 ∧ a0 ≤ 4294967295 ∧ okB l1
  · rw [if_pos hg] at h
    obtain rfl : cMore a0 l1 = r := by simpa using h
    exact more_calls a0 A1 c1 l1 w hg.1 hg.2.1 hr1 hc1 hg.2.2
  · rw [if_neg hg] at h
    cases h
def crc_Seal.f (l0 : List Int) : Option (List Int) := if okB l0 ∧ l0.length ≤ 140737488355323 then some (cSeal l0) else none
theorem crc_Seal.calls (A0 : Option Addr) (c0 : Nat) (l0 : List Int) (r : List Int) (w : World) (hr0 : Kd.C (Kd.int .u8) w A0 l0.length l0) (hc0 : l0.length ≤ c0) (h : crc_Seal.f l0 = some r) :
    Calls Try.prog 16 #[.slice A0 l0.length c0] w fun e w' => ∃ v0_ : Value, e = .returned v0_ ∧ Kd.R (Kd.int .u8) 5 w' w.heap.size (fun _ => True) v0_ r ∧ Below w.heap.size w w' := by
  unfold crc_Seal.f at h
  by_cases hg : okB l0 ∧ l0.length ≤ 140737488355323
  · rw [if_pos hg] at h
    obtain rfl : cSeal l0 = r := by simpa using h
    exact seal_calls A0 c0 l0 w hr0 hc0 hg.1 (by omega)
  · rw [if_neg hg] at h
    cases h
def crc_Open.f (l0 : List Int) : Option (List Int × Bool) := if okB l0 ∧ l0.length ≤ 140737488355323 then some (cOpen l0) else none
theorem crc_Open.calls (A0 : Option Addr) (c0 : Nat) (l0 : List Int) (r1 : List Int) (r2 : Bool) (w : World) (hr0 : Kd.C (Kd.int .u8) w A0 l0.length l0) (hc0 : l0.length ≤ c0) (h : crc_Open.f l0 = some (r1, r2)) :
    Calls Try.prog 10 #[.slice A0 l0.length c0] w fun e w' => ∃ v0_ : Value, e = .returned (.tuple #[v0_, .bool r2]) ∧ Kd.R (Kd.int .u8) 5 w' w.heap.size (fun _ => True) v0_ r1 ∧ Below w.heap.size w w' := by
  unfold crc_Open.f at h
  by_cases hg : okB l0 ∧ l0.length ≤ 140737488355323
  · rw [if_pos hg] at h
    obtain ⟨h1, h2⟩ : cOpen l0 = (r1, r2) ∧ True := ⟨by simpa using h, trivial⟩
    have hh := open_calls A0 c0 l0 w hr0 hc0 hg.1 (by omega)
    rw [h1] at hh
    exact hh
  · rw [if_neg hg] at h
    cases h
def mooringsref04_Open.f (l0 : List Int) : Option (List Int × Bool) := if okB l0 ∧ l0.length ≤ 140737488355323 then some (cOpen l0) else none
theorem mooringsref04_Open.calls (A0 : Option Addr) (c0 : Nat) (l0 : List Int) (r1 : List Int) (r2 : Bool) (w : World) (hr0 : Kd.C (Kd.int .u8) w A0 l0.length l0) (hc0 : l0.length ≤ c0) (h : mooringsref04_Open.f l0 = some (r1, r2)) :
    Calls Try.prog 11 #[.slice A0 l0.length c0] w fun e w' => ∃ v0_ : Value, e = .returned (.tuple #[v0_, .bool r2]) ∧ Kd.R (Kd.int .u8) 5 w' w.heap.size (fun _ => True) v0_ r1 ∧ Below w.heap.size w w' := by
  unfold mooringsref04_Open.f at h
  by_cases hg : okB l0 ∧ l0.length ≤ 140737488355323
  · rw [if_pos hg] at h
    obtain ⟨h1, h2⟩ : cOpen l0 = (r1, r2) ∧ True := ⟨by simpa using h, trivial⟩
    have hh := refOpen_calls A0 c0 l0 w hr0 hc0 hg.1 hg.2
    rw [h1] at hh
    exact hh
  · rw [if_neg hg] at h
    cases h

end Go.Proofs.Ytegcphdlkheboaa.H
