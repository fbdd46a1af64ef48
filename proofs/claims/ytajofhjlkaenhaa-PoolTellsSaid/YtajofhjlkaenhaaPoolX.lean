import Derived.Test.YtajofhjlkaenhaaPoolW
/-! Layer 11: contracts of the reference's plain functions; lengths. -/
namespace Go.Proofs.Ytajofhjlkaenhaa.H
open Go.RowKit Go.Proofs.YtajofhjlkaenhaaW.PrintWords Go.Proofs.YtajofhjlkaenhaaW.PrintLast Go.Proofs.YtajofhjlkaenhaaW.PrintMore
set_option linter.unusedVariables false
set_option linter.unusedSimpArgs false

theorem addR_len (out : Int) (p : Pl) (l : List Pl) : (addR out p l).1.length ≤ l.length + 1 := by
  unfold addR
  by_cases g : wrongAdd out p l = 0
  · rw [if_pos g]; simp
  · rw [if_neg g]; exact Nat.le_succ _
theorem drainR_len (out k : Int) (l : List Pl) : (drainR out k l).1.length ≤ l.length + 1 := by
  unfold drainR
  by_cases g : wrongDrain out k l = 0
  · rw [if_pos g]; simp
  · rw [if_neg g]; exact Nat.le_succ _
theorem sizeR_len (out k n : Int) (b : List Int) (l : List Pl) : (sizeR out k n b l).1.length ≤ l.length + 1 := by
  unfold sizeR
  by_cases g : wrongSize out k n b l = 0
  · rw [if_pos g]; simp
  · rw [if_neg g]; exact Nat.le_succ _
theorem goneR_len (out k : Int) (b : List Int) (l : List Pl) : (goneR out k b l).1.length ≤ l.length + 1 := by
  unfold goneR
  by_cases g : wrongGone out k b l = 0
  · rw [if_pos g]
    have := (List.eraseIdx_sublist l k.toNat).length_le
    show (l.eraseIdx k.toNat).length ≤ _
    omega
  · rw [if_neg g]; exact Nat.le_succ _
theorem refSame_calls (A : Option Addr) (c : Nat) (x : List Pl) (A' : Option Addr) (c' : Nat) (y : List Pl) (b : Bool) (hb : decide (x = y) = b) (w : World) (hR : Kd.C kP w A x.length x) (hc : x.length ≤ c) (hR' : Kd.C kP w A' y.length y) (hc' : y.length ≤ c') (hl : x.length ≤ 90) :
    Calls Try.prog 23 #[.slice A x.length c, .slice A' y.length c'] w fun e w' => e = .returned (.bool b) ∧ Below w.heap.size w w' :=
  (B.mooringsref11_Same.calls 100 A c x A' c' y b w hR hc hR' hc' (by rw [refSame_tells x y hl, hb])).mono fun e w' h => ⟨h.1, h.2.below⟩
theorem refMay_calls (A : Option Addr) (c : Nat) (l : List Pl) (out : Int) (w : World) (hR : Kd.C kP w A l.length l) (hc : l.length ≤ c) :
    Calls Try.prog 24 #[.slice A l.length c, .int .i64 out] w fun e w' => e = .returned (.bool (maysP l out)) ∧ Below w.heap.size w w' := B.mooringsref11_May.calls 100 A c l out _ w hR hc (refMay_tells l out)
theorem refGives_calls (A : Option Addr) (c : Nat) (l : List Pl) (x : Int) (w : World) (hR : Kd.C kP w A l.length l) (hc : l.length ≤ c) (hl : l.length ≤ 90) :
    Calls Try.prog 25 #[.slice A l.length c, .int .i64 x] w fun e w' => e = .returned (.bool (givesP l x)) ∧ Below w.heap.size w w' := B.mooringsref11_Gives.calls 100 A c l x _ w hR hc (refGives_tells l x hl)
theorem refOf_calls (A : Option Addr) (c : Nat) (l : List Pl) (x : Int) (w : World) (hR : Kd.C kP w A l.length l) (hc : l.length ≤ c) (hl : l.length ≤ 90) :
    Calls Try.prog 26 #[.slice A l.length c, .int .i64 x] w fun e w' => e = .returned (.int .i64 (ofP l x)) ∧ Below w.heap.size w w' := B.mooringsref11_Of.calls 100 A c l x _ w hR hc (refOf_tells l x hl)

end Go.Proofs.Ytajofhjlkaenhaa.H
