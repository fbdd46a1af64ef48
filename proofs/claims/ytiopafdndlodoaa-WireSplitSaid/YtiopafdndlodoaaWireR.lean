import Derived.Test.YtiopafdndlodoaaWireAw
import Derived.Deep.RegionHeld3
import Derived.Deep.QuietTactic
import Derived.BigQuiet
/-! Layer 19: the reference's Rows. -/
namespace Go.Proofs.Ytiopafdndlodoaa.H
open Go.RowKit Moor Go.Proofs.YtiopafdndlodoaaW.PrintWords Go.Proofs.YtiopafdndlodoaaW.PrintLast Go.Proofs.YtiopafdndlodoaaW.PrintMore
set_option linter.unusedVariables false
set_option linter.unusedSimpArgs false

theorem take_eq_succ {x y : List (List Int)} {k : Nat} (h1 : k < x.length) (h2 : k < y.length) (h : x.take k = y.take k) (he : x[k] = y[k]) : x.take (k + 1) = y.take (k + 1) := by
  rw [List.take_succ_eq_append_getElem h1, List.take_succ_eq_append_getElem h2, h, he]
set_option maxRecDepth 100000 in
set_option maxHeartbeats 4000000 in
theorem rows_calls (x y : List (List Int)) (A : Option Addr) (c : Nat) (A' : Option Addr) (c' : Nat) (w : World) (hR : Kd.C kBB w A x.length x) (hc : x.length ≤ c) (hR' : Kd.C kBB w A' y.length y) (hc' : y.length ≤ c') (ho : ∀ r ∈ x, okB r) (ho' : ∀ r ∈ y, okB r) (hl : x.length ≤ 1000000) (b : Bool) (hb : decide (x = y) = b) :
    Calls Try.prog 21 #[.slice A x.length c, .slice A' y.length c'] w fun e w' => e = .returned (.bool b) ∧ Below w.heap.size w w' := by
  have HR := Lib.hid hR
  have HR' := Lib.hid hR'
  have HO := Lib.hid ho
  have HO' := Lib.hid ho'
  have HBB := Lib.hid hb
  clear hR hR' ho ho' hb
  by_cases hlen : x.length = y.length
  · have HLN := Lib.hid hlen
    rw [← hlen]
    have hc'' : x.length ≤ c' := by omega
    clear hlen hc'
    go_enter Try.func21, Try.ntmps21
    go_wp2_with (fail)
    go_loopw [5] (fun v wr => ∃ (k m : Nat), k ≤ x.length ∧ v = .int .i64 (k : Int) ∧ wr = w.drewN m ∧ Hid (x.take k = y.take k)) (fun v _ => x.length - (intOf v).toNat)
    case atStart => exact ⟨0, 0, Nat.zero_le _, rfl, rfl, Lib.hid rfl⟩
    case round =>
      obtain ⟨k, m, hk, rfl, rfl, HT⟩ := hrel
      by_cases hlt : k < x.length
      · have hlt2 : k < y.length := by have := HLN.out; omega
        have hlti : (k : Int) < (x.length : Int) := by omega
        obtain ⟨ad1, A1, c1, rfl, y1, q1, C1⟩ := row_at HR.out k hlt
        obtain ⟨ad2, A2, c2, rfl, y2, q2, C2⟩ := row_at HR'.out k hlt2
        have hv1 := fun n => Kd.C_string (P := Try.prog) (c := c1) Try.underlying29 Try.underlying5 Try.underlying9 (Kd.C_drewN C1 n)
        have hv2 := fun n => Kd.C_string (P := Try.prog) (c := c2) Try.underlying29 Try.underlying5 Try.underlying9 (Kd.C_drewN C2 n)
        have hse := str_eq (HO.out _ (List.getElem_mem hlt)) (HO'.out _ (List.getElem_mem hlt2))
        have HNX := Lib.hid (fun h => take_eq_succ hlt hlt2 HT.out h)
        have HNE := Lib.hid (show x[k] ≠ y[k] → b = false from fun h => by
          rw [← HBB.out]
          exact decide_eq_false (fun e => h (by subst e; rfl)))
        clear C1 C2 HT
        generalize x[k] = xk at *
        generalize y[k] = yk at *
        clear hlt2
        by_cases he : xk = yk
        · have hs1 : ((strOfNums xk).toList == (strOfNums yk).toList) = true := by rw [hse]; exact decide_eq_true he
          have HNX2 := Lib.hid (HNX.out he)
          clear hse HNX HNE he
          go_wp2_with (fail)
          go_quiet (fail)
          all_goals
            go_wp2_with (fail)
            go_roundw
            case rel => first | exact ⟨k + 1, _, by omega, by go_num, rfl, HNX2⟩ | exact ⟨k + 1, _, by omega, by go_num, World.drewN_drewN _ _ _, HNX2⟩
            case measure => simp [intOf]; omega
        · have hs1 : ((strOfNums xk).toList == (strOfNums yk).toList) = false := by rw [hse]; exact decide_eq_false he
          have hbf := Lib.hid (HNE.out he)
          clear hse HNX HNE he
          go_wp2_with (fail)
          go_quiet (fail)
          all_goals
            go_wp2_with (fail)
            go_ret
            exact ⟨by rw [hbf.out]; rfl, pw_below_drewN (pw_below_drewN (Below.refl _ _) _) _⟩
      · have hlti : ¬ (k : Int) < (x.length : Int) := by omega
        have hbt := Lib.hid (show b = true from by
          rw [← HBB.out]
          apply decide_eq_true
          have q := HT.out
          have h1 : k = x.length := by omega
          have h2 : k = y.length := by have := HLN.out; omega
          rw [h1, List.take_length, ← h1, h2, List.take_length] at q
          exact q)
        clear HT
        go_wp2_with (fail)
        go_ret
        exact ⟨by rw [hbt.out]; rfl, pw_below_drewN (Below.refl _ _) _⟩
  · have hbf := Lib.hid (show b = false from by
      rw [← HBB.out]
      exact decide_eq_false (fun e => hlen (by rw [e])))
    have hlb : ((x.length : Int) != (y.length : Int)) = true := by simpa using (show ¬ (x.length : Int) = (y.length : Int) by omega)
    have hlb2 : (x.length == y.length) = false := by simpa using hlen
    clear hlen
    go_enter Try.func21, Try.ntmps21
    go_wp2_with (fail)
    go_ret
    exact ⟨by rw [hbf.out]; rfl, Below.refl _ _⟩
end Go.Proofs.Ytiopafdndlodoaa.H
