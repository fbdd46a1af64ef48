import Derived.Test.YtngohjjepjpdlaaVariR
import Derived.Test.YtngohjjepjpdlaaVariPut
import Derived.Test.YtngohjjepjpdlaaRefAll
import Derived.Test.YtngohjjepjpdlaaRefRead
import Derived.Test.YtngohjjepjpdlaaRefInts
/-! Contracts of functions in their plain form, out of the printed ones. -/
namespace Go.Proofs.Ytngohjjepjpdlaa.H
open Go.RowKit Moor Go.Proofs.YtngohjjepjpdlaaW.PrintWords Go.Proofs.YtngohjjepjpdlaaW.PrintLast Go.Proofs.YtngohjjepjpdlaaW.PrintMore
set_option linter.unusedVariables false
set_option linter.unusedSimpArgs false

def vari_Get.f (l0 : List Int) (a1 : Int) : Option (Int × Int) := if okB l0 ∧ l0.length ≤ 140737488355328 then some (vGet l0 a1) else none
theorem vari_Get.calls (A0 : Option Addr) (c0 : Nat) (l0 : List Int) (a1 : Int) (r1 : Int) (r2 : Int) (w : World) (hr0 : Kd.C (Kd.int .u8) w A0 l0.length l0) (hc0 : l0.length ≤ c0) (h : vari_Get.f l0 a1 = some (r1, r2)) :
    Calls Try.prog 10 #[.slice A0 l0.length c0, .int .i64 a1] w fun e w' => e = .returned (.tuple #[.int .i64 r1, .int .i64 r2]) ∧ Below w.heap.size w w' := by
  unfold vari_Get.f at h
  by_cases hg : okB l0 ∧ l0.length ≤ 140737488355328
  · rw [if_pos hg] at h
    exact (B.vari_Get.calls (10) A0 c0 l0 a1 r1 r2 w hr0 hc0 (by rw [get_tells l0 a1 hg.1 (by omega) 10 (by omega)]; exact h))
  · rw [if_neg hg] at h
    cases h

def mooringsref01_Get.f (l0 : List Int) (a1 : Int) : Option (Int × Int) := if okB l0 ∧ l0.length ≤ 140737488355328 then some (vGet l0 a1) else none
theorem mooringsref01_Get.calls (A0 : Option Addr) (c0 : Nat) (l0 : List Int) (a1 : Int) (r1 : Int) (r2 : Int) (w : World) (hr0 : Kd.C (Kd.int .u8) w A0 l0.length l0) (hc0 : l0.length ≤ c0) (h : mooringsref01_Get.f l0 a1 = some (r1, r2)) :
    Calls Try.prog 11 #[.slice A0 l0.length c0, .int .i64 a1] w fun e w' => e = .returned (.tuple #[.int .i64 r1, .int .i64 r2]) ∧ Below w.heap.size w w' := by
  unfold mooringsref01_Get.f at h
  by_cases hg : okB l0 ∧ l0.length ≤ 140737488355328
  · rw [if_pos hg] at h
    exact (B.mooringsref01_Get.calls (20) A0 c0 l0 a1 r1 r2 w hr0 hc0 (by rw [refGet_tells l0 a1 hg.1 (.inr (by omega)) 20 (by omega)]; exact h)).mono fun e w' h => ⟨h.1, h.2.below⟩
  · rw [if_neg hg] at h
    cases h

def vari_All.f (l0 : List Int) : Option (List Int × Bool) := some (vAll l0)
theorem vari_All.calls (A0 : Option Addr) (c0 : Nat) (l0 : List Int) (r1 : List Int) (r2 : Bool) (w : World) (hr0 : Kd.C (Kd.int .i64) w A0 l0.length l0) (hc0 : l0.length ≤ c0) (h : vari_All.f l0 = some (r1, r2)) :
    Calls Try.prog 12 #[.slice A0 l0.length c0] w fun e w' => ∃ v0_ : Value, e = .returned (.tuple #[v0_, .bool r2]) ∧ Kd.R (Kd.int .u8) 5 w' w.heap.size (fun _ => True) v0_ r1 ∧ Below w.heap.size w w' := by
  unfold vari_All.f at h
  exact (B.vari_All.calls (420) A0 c0 l0 r1 r2 w hr0 hc0 (by rw [vAll_tells l0 420 (by omega)]; exact h))

def mooringsref01_All.f (l0 : List Int) : Option (List Int × Bool) := some (vAll l0)
theorem mooringsref01_All.calls (A0 : Option Addr) (c0 : Nat) (l0 : List Int) (r1 : List Int) (r2 : Bool) (w : World) (hr0 : Kd.C (Kd.int .i64) w A0 l0.length l0) (hc0 : l0.length ≤ c0) (h : mooringsref01_All.f l0 = some (r1, r2)) :
    Calls Try.prog 13 #[.slice A0 l0.length c0] w fun e w' => ∃ v0_ : Value, e = .returned (.tuple #[v0_, .bool r2]) ∧ Kd.R (Kd.int .u8) 5 w' w.heap.size (fun _ => True) v0_ r1 ∧ Below w.heap.size w w' := by
  unfold mooringsref01_All.f at h
  exact (B.mooringsref01_All.calls (420) A0 c0 l0 r1 r2 w hr0 hc0 (by rw [refAll_tells l0 420 (by omega)]; exact h))

def vari_Put.f (a0 : Int) : Option (List Int) := some (vPut a0)
theorem vari_Put.calls (a0 : Int) (r : List Int) (w : World) (h : vari_Put.f a0 = some r) :
    Calls Try.prog 17 #[.int .i64 a0] w fun e w' => ∃ v0_ : Value, e = .returned (v0_) ∧ Kd.R (Kd.int .u8) 5 w' w.heap.size (fun _ => True) v0_ r ∧ Below w.heap.size w w' := by
  unfold vari_Put.f at h
  exact (B.vari_Put.calls (10) a0 r w (by rw [vPut_tells a0 10 (by omega)]; exact h))

def mooringsref01_Put.f (a0 : Int) : Option (List Int) := some (vPut a0)
theorem mooringsref01_Put.calls (a0 : Int) (r : List Int) (w : World) (h : mooringsref01_Put.f a0 = some r) :
    Calls Try.prog 18 #[.int .i64 a0] w fun e w' => ∃ v0_ : Value, e = .returned (v0_) ∧ Kd.R (Kd.int .u8) 5 w' w.heap.size (fun _ => True) v0_ r ∧ Below w.heap.size w w' := by
  unfold mooringsref01_Put.f at h
  exact (B.mooringsref01_Put.calls (10) a0 r w (by rw [refPut_tells a0 10 (by omega)]; exact h))

def mooringsref01_Read.f (l0 : List Int) : Option (List Int × Bool) := if okB l0 ∧ l0.length ≤ 140737488355328 then some (vRead l0) else none
theorem mooringsref01_Read.calls (A0 : Option Addr) (c0 : Nat) (l0 : List Int) (r1 : List Int) (r2 : Bool) (w : World) (hr0 : Kd.C (Kd.int .u8) w A0 l0.length l0) (hc0 : l0.length ≤ c0) (h : mooringsref01_Read.f l0 = some (r1, r2)) :
    Calls Try.prog 15 #[.slice A0 l0.length c0] w fun e w' => ∃ v0_ : Value, e = .returned (.tuple #[v0_, .bool r2]) ∧ Kd.R (Kd.int .i64) 3 w' w.heap.size (fun _ => True) v0_ r1 ∧ Below w.heap.size w w' := by
  unfold mooringsref01_Read.f at h
  by_cases hg : okB l0 ∧ l0.length ≤ 140737488355328
  · rw [if_pos hg] at h
    exact (B.mooringsref01_Read.calls (l0.length + 21) A0 c0 l0 r1 r2 w hr0 hc0 (by rw [refRead_tells l0 hg.1 (by omega) _ (by omega)]; exact h))
  · rw [if_neg hg] at h
    cases h

def mooringsref01_Ints.f (l0 : List Int) (l1 : List Int) : Option (Bool) := if l0.length ≤ 140737488355328 then some (decide (l0 = l1)) else none
theorem mooringsref01_Ints.calls (A0 : Option Addr) (c0 : Nat) (l0 : List Int) (A1 : Option Addr) (c1 : Nat) (l1 : List Int) (r : Bool) (w : World) (hr0 : Kd.C (Kd.int .i64) w A0 l0.length l0) (hc0 : l0.length ≤ c0) (hr1 : Kd.C (Kd.int .i64) w A1 l1.length l1) (hc1 : l1.length ≤ c1) (h : mooringsref01_Ints.f l0 l1 = some r) :
    Calls Try.prog 16 #[.slice A0 l0.length c0, .slice A1 l1.length c1] w fun e w' => e = .returned (.bool r) ∧ Below w.heap.size w w' := by
  unfold mooringsref01_Ints.f at h
  by_cases hg : l0.length ≤ 140737488355328
  · rw [if_pos hg] at h
    exact (B.mooringsref01_Ints.calls (l0.length + 1) A0 c0 l0 A1 c1 l1 r w hr0 hc0 hr1 hc1 (by rw [refInts_tells l0 l1 (by omega) _ (by omega)]; exact h)).mono fun e w' h => ⟨h.1, h.2.below⟩
  · rw [if_neg hg] at h
    cases h

def vari_Read.f (l0 : List Int) : Option (List Int × Bool) := if okB l0 ∧ l0.length ≤ 140737488355328 then some (vRead l0) else none
theorem vari_Read.calls (A0 : Option Addr) (c0 : Nat) (l0 : List Int) (r1 : List Int) (r2 : Bool) (w : World) (hr0 : Kd.C (Kd.int .u8) w A0 l0.length l0) (hc0 : l0.length ≤ c0) (h : vari_Read.f l0 = some (r1, r2)) :
    Calls Try.prog 14 #[.slice A0 l0.length c0] w fun e w' => ∃ v0_ : Value, e = .returned (.tuple #[v0_, .bool r2]) ∧ Kd.R (Kd.int .i64) 3 w' w.heap.size (fun _ => True) v0_ r1 ∧ Below w.heap.size w w' := by
  unfold vari_Read.f at h
  by_cases hg : okB l0 ∧ l0.length ≤ 140737488355328
  · rw [if_pos hg] at h
    obtain ⟨h1, h2⟩ : vRead l0 = (r1, r2) ∧ True := ⟨by simpa using h, trivial⟩
    refine (callsIn_wide.1 (read_in 6 (Nat.le_refl _) A0 c0 l0 hg.1 hc0 hg.2 w hr0)).mono ?_
    rintro e w' ⟨v, rfl, hv, hb⟩
    rw [h1] at hv ⊢
    exact ⟨v, rfl, Kd.R_of_own hv (fun _ _ => trivial), hb⟩
  · rw [if_neg hg] at h
    cases h

end Go.Proofs.Ytngohjjepjpdlaa.H
