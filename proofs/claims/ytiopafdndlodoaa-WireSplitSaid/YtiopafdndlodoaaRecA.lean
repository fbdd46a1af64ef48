import Derived.Test.YtiopafdndlodoaaCrcO
import Derived.Test.YtiopafdndlodoaaVariPut
import Derived.Test.YtiopafdndlodoaaRefPut
import Derived.Test.YtiopafdndlodoaaRefGet
import Derived.Test.YtiopafdndlodoaaMoorRec
/-! Layer 5: open, walked. -/
namespace Go.Proofs.Ytiopafdndlodoaa.H
open Go.RowKit Moor Go.Proofs.YtiopafdndlodoaaW.PrintWords Go.Proofs.YtiopafdndlodoaaW.PrintLast Go.Proofs.YtiopafdndlodoaaW.PrintMore
set_option linter.unusedVariables false
set_option linter.unusedSimpArgs false

def idxP {α : Type} (f : α → Bool) : List α → Int → Int
  | [], _ => -1
  | p :: l, k => if f p then k else idxP f l (k + 1)
/-- A predicate of bytes that is handed on. -/
def PredB (g : FuncId) (lb : Array Value) (p : Int → Bool) (w0 : World) : Prop :=
  ∀ (x : Int) (W : World), Below w0.heap.size w0 W → Calls Try.prog g (#[.int .u8 x] ++ lb) W fun e w' => e = .returned (.bool (p x)) ∧ Below W.heap.size W w'
theorem cell_ofB {w : World} {A : Option Addr} {l : List Int} (h : Kd.C (Kd.int .u8) w A l.length l) (k : Nat) (hk : k < l.length) : ∃ ad, A = some ad ∧ w.cell? (ad.add k) = some (.int .u8 l[k]) := by
  obtain ⟨ad, e, hc⟩ := Kd.at_int h (k : Int) (by omega) (by omega)
  have hr : rd l (k : Int) = l[k] := by unfold rd; simp [List.getD_eq_getElem?_getD, hk]
  rw [hr] at hc
  exact ⟨ad, e, by simpa using hc⟩
theorem idxP_drop {α : Type} (f : α → Bool) (l : List α) (k : Nat) (h : k < l.length) : idxP f (l.drop k) k = if f l[k] then (k : Int) else idxP f (l.drop (k + 1)) ((k + 1 : Nat) : Int) := by
  rw [List.drop_eq_getElem_cons h]
  rfl

set_option maxHeartbeats 2000000 in
theorem indexFuncB_calls (A : Option Addr) (c : Nat) (l : List Int) (g : FuncId) (lb : Array Value) (p : Int → Bool) (w : World) (hR : Kd.C (Kd.int .u8) w A l.length l) (hc : l.length ≤ c) (hp : PredB g lb p w) (eg : ∀ args w, (callFunc g args).run Try.prog w = .ok (.enter g args) w) :
    Calls Try.prog 64 #[.slice A l.length c, .func (.func g) #[] lb] w fun e w' => e = .returned (.int .i64 (idxP p l 0)) ∧ Below w.heap.size w w' := by
  have hll : l.length ≤ 9223372036854775807 := Kd.C_max hR
  go_enter Try.func64, Try.ntmps64
  go_wp2_with (fail)
  go_loopw [8] (fun i wr => ∃ k : Nat, k ≤ l.length ∧ i = .int .i64 (k : Int) ∧ Hid (idxP p l 0 = idxP p (l.drop k) k) ∧ Below w.heap.size w wr) (fun i _ => l.length - (intOf i).toNat)
  case atStart => exact ⟨0, Nat.zero_le _, rfl, Lib.hid rfl, Below.refl _ _⟩
  case round =>
    obtain ⟨k, hk, rfl, hs, hB⟩ := hrel
    by_cases hlt : k < l.length
    · have hlti : (k : Int) < (l.length : Int) := by omega
      obtain ⟨ad, rfl, h0⟩ := cell_ofB (Kd.C_below hR hB) k hlt
      have hnx := idxP_drop p l k hlt
      generalize hx : l[k] = x at *
      have HN := Lib.hid hnx
      clear hnx hx
      go_wp2_with (fail)
      refine (hp x wr hB).mono ?_
      rintro e w1 ⟨rfl, hb1⟩
      have hB1 : Below w.heap.size w w1 := hB.trans (hb1.mono hB.size)
      cases hq : p x with
      | true =>
        rw [hq] at HN
        have hr : idxP p l 0 = (k : Int) := by rw [hs.out, HN.out]; rfl
        have HR := Lib.hid hr
        clear hr hs HN hq hb1
        go_wp2_with (fail)
        go_ret
        exact ⟨by rw [HR.out]; rfl, hB1⟩
      | false =>
        rw [hq] at HN
        have hr : idxP p l 0 = idxP p (l.drop (k + 1)) ((k + 1 : Nat) : Int) := by rw [hs.out, HN.out]; rfl
        have HR := Lib.hid hr
        clear hr hs HN hq hb1
        go_wp2_with (fail)
        go_roundw
        case rel => exact ⟨k + 1, by omega, by go_num, HR, hB1⟩
        case measure => simp [intOf]; omega
    · have hnl : ¬ ((k : Int) < (l.length : Int)) := by omega
      obtain rfl : k = l.length := by omega
      have hr : idxP p l 0 = -1 := by rw [hs.out, List.drop_length]; rfl
      have HR := Lib.hid hr
      clear hr hs
      go_wp2_with (fail)
      go_ret
      exact ⟨by rw [HR.out]; rfl, hB⟩

theorem idxP_range {α : Type} (f : α → Bool) : ∀ (l : List α) (k : Int), 0 ≤ k → (idxP f l k = -1 ∧ l.any f = false) ∨ (k ≤ idxP f l k ∧ idxP f l k < k + l.length ∧ l.any f = true)
  | [], k, h => .inl ⟨rfl, rfl⟩
  | p :: l, k, h => by
    unfold idxP
    cases hp : f p with
    | true => right; simp [hp]; omega
    | false =>
      rcases idxP_range f l (k + 1) (by omega) with ⟨h1, h2⟩ | ⟨h1, h2, h3⟩
      · left; simp [hp, h1, h2]
      · right; simp [hp, h3]; omega
theorem idxP_any {α : Type} (f : α → Bool) (l : List α) : decide (0 ≤ idxP f l 0) = l.any f := by
  rcases idxP_range f l 0 (by omega) with ⟨h1, h2⟩ | ⟨h1, h2, h3⟩
  · rw [h1, h2]; rfl
  · rw [h3, decide_eq_true h1]

set_option maxHeartbeats 1000000 in
theorem containsFuncB_calls (A : Option Addr) (c : Nat) (l : List Int) (g : FuncId) (lb : Array Value) (p : Int → Bool) (w : World) (hR : Kd.C (Kd.int .u8) w A l.length l) (hc : l.length ≤ c) (hp : PredB g lb p w) (eg : ∀ args w, (callFunc g args).run Try.prog w = .ok (.enter g args) w) :
    Calls Try.prog 56 #[.slice A l.length c, .func (.func g) #[] lb] w fun e w' => e = .returned (.bool (l.any p)) ∧ Below w.heap.size w w' := by
  have hi := idxP_any p l
  have HI := Lib.hid hi
  clear hi
  go_enter Try.func56, Try.ntmps56
  go_wp2_with (fail)
  refine (indexFuncB_calls A c l g lb p w hR hc hp eg).mono ?_
  rintro e w1 ⟨rfl, hb1⟩
  generalize idxP p l 0 = n at *
  go_wp2_with (fail)
  go_ret
  exact ⟨by rw [← HI.out]; rfl, hb1⟩


theorem eg_open1 : ∀ args w, (callFunc 57 args).run Try.prog w = .ok (.enter 57 args) w := fun args w => by simp [go_sem]
theorem open1_calls (x : Int) (w : World) : Calls Try.prog 57 #[.int .u8 x] w fun e w' => e = .returned (.bool (decide (x < 128))) ∧ Below w.heap.size w w' := by
  go_enter Try.func57, Try.ntmps57
  go_wp2_with (fail)
  go_ret
  exact ⟨rfl, Below.refl _ _⟩
theorem openR_any (l : List Int) : openR l = (decide (l.length < 6) && !(l.any fun c => decide (c < 128))) := by
  unfold openR
  congr 1
  rw [List.not_any_eq_all_not]
  congr 1
  funext c
  by_cases h : c < 128
  · rw [decide_eq_true h, decide_eq_false (by omega)]; rfl
  · rw [decide_eq_false h, decide_eq_true (by omega)]; rfl
set_option maxHeartbeats 2000000 in
theorem recOpen_calls (A : Option Addr) (c : Nat) (l : List Int) (w : World) (hR : Kd.C (Kd.int .u8) w A l.length l) (hc : l.length ≤ c) :
    Calls Try.prog 45 #[.slice A l.length c] w fun e w' => e = .returned (.bool (openR l)) ∧ Below w.heap.size w w' := by
  have HO := Lib.hid (openR_any l)
  by_cases h6 : l.length < 6
  · have h6i : (l.length : Int) < 6 := by omega
    go_enter Try.func45, Try.ntmps45
    go_wp2_with (fail)
    refine (containsFuncB_calls A c l 57 #[] (fun c => decide (c < 128)) w hR hc (fun x W _ => open1_calls x W) eg_open1).mono ?_
    rintro e w1 ⟨rfl, hb1⟩
    go_wp2_with (fail)
    go_ret
    exact ⟨by rw [HO.out, decide_eq_true h6]; simp, hb1⟩
  · have h6i : ¬ (l.length : Int) < 6 := by omega
    go_enter Try.func45, Try.ntmps45
    go_wp2_with (fail)
    go_ret
    exact ⟨by rw [HO.out, decide_eq_false h6]; simp, Below.refl _ _⟩

end Go.Proofs.Ytiopafdndlodoaa.H
