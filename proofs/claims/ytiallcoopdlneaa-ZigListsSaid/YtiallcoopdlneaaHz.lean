import Derived.Test.YtiallcoopdlneaaZigW
import Derived.Test.YtiallcoopdlneaaRefInts
/-! Contracts of functions in their plain form, out of the printed ones. -/
namespace Go.Proofs.Ytiallcoopdlneaa.H
open Go.RowKit Moor Go.Proofs.YtiallcoopdlneaaW.PrintWords Go.Proofs.YtiallcoopdlneaaW.PrintLast Go.Proofs.YtiallcoopdlneaaW.PrintMore
set_option linter.unusedVariables false
set_option linter.unusedSimpArgs false

def zig_Zig.f (a0 : Int) : Option (Int) := some (vZig a0)
theorem zig_Zig.calls (a0 : Int) (r : Int) (w : World) (h : zig_Zig.f a0 = some r) :
    Calls Try.prog 9 #[.int .i64 a0] w fun e w' => e = .returned (.int .i64 r) ∧ Below w.heap.size w w' := by
  unfold zig_Zig.f at h
  exact (B.zig_Zig.calls (1) a0 r w (by rw [zig_tells a0 1 (by omega)]; exact h)).mono fun e w' h => ⟨h.1, h.2.below⟩

def zig_Zag.f (a0 : Int) : Option (Int) := some (vZag a0)
theorem zig_Zag.calls (a0 : Int) (r : Int) (w : World) (h : zig_Zag.f a0 = some r) :
    Calls Try.prog 10 #[.int .i64 a0] w fun e w' => e = .returned (.int .i64 r) ∧ Below w.heap.size w w' := by
  unfold zig_Zag.f at h
  exact (B.zig_Zag.calls a0 r w (by rw [zag_tells a0]; exact h)).mono fun e w' h => ⟨h.1, h.2.below⟩

def mooringsref01_Ints.f (l0 : List Int) (l1 : List Int) : Option (Bool) := if l0.length ≤ 140737488355328 then some (decide (l0 = l1)) else none
theorem mooringsref01_Ints.calls (A0 : Option Addr) (c0 : Nat) (l0 : List Int) (A1 : Option Addr) (c1 : Nat) (l1 : List Int) (r : Bool) (w : World) (hr0 : Kd.C (Kd.int .i64) w A0 l0.length l0) (hc0 : l0.length ≤ c0) (hr1 : Kd.C (Kd.int .i64) w A1 l1.length l1) (hc1 : l1.length ≤ c1) (h : mooringsref01_Ints.f l0 l1 = some r) :
    Calls Try.prog 13 #[.slice A0 l0.length c0, .slice A1 l1.length c1] w fun e w' => e = .returned (.bool r) ∧ Below w.heap.size w w' := by
  unfold mooringsref01_Ints.f at h
  by_cases hg : l0.length ≤ 140737488355328
  · rw [if_pos hg] at h
    exact (B.mooringsref01_Ints.calls (l0.length + 1) A0 c0 l0 A1 c1 l1 r w hr0 hc0 hr1 hc1 (by rw [refInts_tells l0 l1 (by omega) _ (by omega)]; exact h)).mono fun e w' h => ⟨h.1, h.2.below⟩
  · rw [if_neg hg] at h
    cases h

def zig_Steps.f (l0 : List Int) : Option (List Int × Bool) := if l0.length ≤ 17592186044416 then some (vSteps l0) else none
theorem zig_Steps.calls (A0 : Option Addr) (c0 : Nat) (l0 : List Int) (r1 : List Int) (r2 : Bool) (w : World) (hr0 : Kd.C (Kd.int .i64) w A0 l0.length l0) (hc0 : l0.length ≤ c0) (h : zig_Steps.f l0 = some (r1, r2)) :
    Calls Try.prog 11 #[.slice A0 l0.length c0] w fun e w' => ∃ v0_ : Value, e = .returned (.tuple #[v0_, .bool r2]) ∧ Kd.R (Kd.int .u8) 5 w' w.heap.size (fun _ => True) v0_ r1 ∧ Below w.heap.size w w' := by
  unfold zig_Steps.f at h
  by_cases hg : l0.length ≤ 17592186044416
  · rw [if_pos hg] at h
    obtain ⟨h1, h2⟩ : vSteps l0 = (r1, r2) ∧ True := ⟨by simpa using h, trivial⟩
    refine (steps_calls A0 c0 l0 w hr0 hc0 (by omega)).mono ?_
    rintro e w' ⟨v, rfl, hv, hb⟩
    rw [h1] at hv ⊢
    exact ⟨v, rfl, hv, hb⟩
  · rw [if_neg hg] at h
    cases h
def zig_Sums.f (l0 : List Int) : Option (List Int × Bool) := if okB l0 ∧ l0.length ≤ 140737488355328 then some (vSums l0) else none
theorem zig_Sums.calls (A0 : Option Addr) (c0 : Nat) (l0 : List Int) (r1 : List Int) (r2 : Bool) (w : World) (hr0 : Kd.C (Kd.int .u8) w A0 l0.length l0) (hc0 : l0.length ≤ c0) (h : zig_Sums.f l0 = some (r1, r2)) :
    Calls Try.prog 12 #[.slice A0 l0.length c0] w fun e w' => ∃ v0_ : Value, e = .returned (.tuple #[v0_, .bool r2]) ∧ Kd.R (Kd.int .i64) 3 w' w.heap.size (fun _ => True) v0_ r1 ∧ Below w.heap.size w w' := by
  unfold zig_Sums.f at h
  by_cases hg : okB l0 ∧ l0.length ≤ 140737488355328
  · rw [if_pos hg] at h
    obtain ⟨h1, h2⟩ : vSums l0 = (r1, r2) ∧ True := ⟨by simpa using h, trivial⟩
    refine (sums_calls A0 c0 l0 w hr0 hc0 hg.1 hg.2).mono ?_
    rintro e w' ⟨v, rfl, hv, hb⟩
    rw [h1] at hv ⊢
    exact ⟨v, rfl, hv, hb⟩
  · rw [if_neg hg] at h
    cases h

end Go.Proofs.Ytiallcoopdlneaa.H
