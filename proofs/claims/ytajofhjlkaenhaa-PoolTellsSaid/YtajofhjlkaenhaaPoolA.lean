import Derived.Test.YtajofhjlkaenhaaBx
import Derived.Lib.Hide
import Derived.Outline
import Derived.OwnWalk
import Derived.RangeFuncBox
import Derived.Maps.AppendAt
/-! Layer 11: plain answers; closures, and what is found by them. -/
namespace Go.Proofs.Ytajofhjlkaenhaa.H
open Go.RowKit Go.Proofs.YtajofhjlkaenhaaW.PrintWords Go.Proofs.YtajofhjlkaenhaaW.PrintLast Go.Proofs.YtajofhjlkaenhaaW.PrintMore
set_option linter.unusedVariables false
set_option linter.unusedSimpArgs false

abbrev Pl := B.S27
abbrev kP : Kd Pl := B.k27
/-- A pool's value. -/
abbrev pv (p : Pl) : Value := .agg #[.int .i64 p.f0, .int .i64 p.f1, .int .i64 p.f2]
instance : DecidableEq Pl := fun a b => by
  cases a with | mk a0 a1 a2 => cases b with | mk b0 b1 b2 => exact if h : a0 = b0 ∧ a1 = b1 ∧ a2 = b2 then isTrue (by obtain ⟨rfl, rfl, rfl⟩ := h; rfl) else isFalse (by intro e; cases e; exact h ⟨rfl, rfl, rfl⟩)
theorem pl_ext {a b : Pl} (h0 : a.f0 = b.f0) (h1 : a.f1 = b.f1) (h2 : a.f2 = b.f2) : a = b := by cases a; cases b; simp_all

def hasP (p : Pl) (x : Int) : Bool := decide (0 ≤ p.f0 ∧ p.f0 ≤ 4 ∧ 1 ≤ p.f1 ∧ p.f1 ≤ 4 ∧ p.f0 ≤ x ∧ x < p.f0 + p.f1)
def fitsP (p : Pl) (out : Int) : Bool := decide (0 ≤ p.f0 ∧ 1 ≤ p.f1 ∧ p.f0 < out ∧ p.f1 ≤ out - p.f0 ∧ 0 ≤ p.f2 ∧ p.f2 < 2)
def meetP (p q : Pl) : Bool := decide (p.f0 < q.f0 + q.f1 ∧ q.f0 < p.f0 + p.f1)
/-- Each pool fits, and meets none ahead of it. -/
def mayL : List Pl → List Pl → Int → Bool
  | _, [], _ => true
  | pre, p :: l, out => fitsP p out && !(pre.any (meetP p)) && mayL (pre ++ [p]) l out
def mayP (l : List Pl) (out : Int) : Bool := decide (0 ≤ out ∧ out ≤ 4 ∧ l.length ≤ 3) && mayL [] l out
/-- The first place of a pool that has it. -/
def idxP {α : Type} (f : α → Bool) : List α → Int → Int
  | [], _ => -1
  | p :: l, k => if f p then k else idxP f l (k + 1)
def ofP (l : List Pl) (x : Int) : Int := idxP (fun p => hasP p x) l 0
def getP (l : List Pl) (i : Int) : Pl := l.getD i.toNat ⟨0, 0, 0⟩
def givesP (l : List Pl) (x : Int) : Bool := decide (ofP l x ≠ -1) && decide ((getP l (ofP l x)).f2 = 0)

theorem at_pool {w : World} {A : Option Addr} {xs : List Pl} (h : Kd.C kP w A xs.length xs) (k : Nat) (hk : k < xs.length) :
    ∃ ad, A = some ad ∧ w.cell? (ad.add (k * 3)) = some (.int .i64 xs[k].f0) ∧ w.cell? ⟨(ad.add (k * 3)).block, (ad.add (k * 3)).off + 1, none⟩ = some (.int .i64 xs[k].f1) ∧ w.cell? ⟨(ad.add (k * 3)).block, (ad.add (k * 3)).off + 2, none⟩ = some (.int .i64 xs[k].f2) := by
  obtain ⟨ad, e, h0, h1, h2⟩ := B.at_T27 h (k : Int) (by omega) (by omega)
  have hr : B.rd_T27 xs (k : Int) = xs[k] := by unfold B.rd_T27; simp [List.getD_eq_getElem?_getD, hk]
  rw [hr] at h0 h1 h2
  exact ⟨ad, e, by simpa using h0, by simpa using h1, by simpa using h2⟩

theorem has_tells (p : Pl) (x : Int) : B.pool_has.f p.f0 p.f1 p.f2 x = some (hasP p x) := by
  unfold B.pool_has.f hasP
  by_cases a : p.f0 ≥ 0
  · by_cases b : p.f0 ≤ 4
    · by_cases c : p.f1 ≥ 1
      · by_cases d : p.f1 ≤ 4
        · have hw : wrap64 (p.f0 + p.f1) = p.f0 + p.f1 := by unfold wrap64; omega
          rw [if_pos a, if_pos b, if_pos c, if_pos d, hw]
          by_cases e : x ≥ p.f0
          · rw [if_pos e]
            congr 1
            apply decide_eq_decide.2
            omega
          · rw [if_neg e, decide_eq_false (by omega)]
        · rw [if_pos a, if_pos b, if_pos c, if_neg d, decide_eq_false (by omega)]
      · rw [if_pos a, if_pos b, if_neg c, decide_eq_false (by omega)]
    · rw [if_pos a, if_neg b, decide_eq_false (by omega)]
  · rw [if_neg a, decide_eq_false (by omega)]
theorem has_calls (p : Pl) (x : Int) (w : World) : Calls Try.prog 33 #[pv p, .int .i64 x] w fun e w' => e = .returned (.bool (hasP p x)) ∧ Below w.heap.size w w' :=
  B.pool_has.calls p.f0 p.f1 p.f2 x _ w (has_tells p x)

/-- A predicate that is handed on: called with an element it answers as p does, and leaves what lay in w0. -/
def Pred (g : FuncId) (lb : Array Value) (p : Pl → Bool) (w0 : World) : Prop :=
  ∀ (x : Pl) (W : World), Below w0.heap.size w0 W → Calls Try.prog g (#[pv x] ++ lb) W fun e w' => e = .returned (.bool (p x)) ∧ Below W.heap.size W w'

set_option maxHeartbeats 1000000 in
theorem of1_calls (B0 : Nat) (x : Int) (p : Pl) (w : World) (hb : Boxed w B0 3 (.int .i64 x)) :
    Calls Try.prog 32 #[pv p, .pointer (some ⟨B0, 0, none⟩)] w fun e w' => e = .returned (.bool (hasP p x)) ∧ Below w.heap.size w w' := by
  have hc := hb.cell
  have hc2 : ∀ o, (w.alloc o).cell? ⟨B0, 0, none⟩ = some (.int .i64 x) := fun o => (hb.alloc o).cell
  go_enter Try.func32, Try.ntmps32
  go_wp2_with (fail)
  refine (has_calls p x _).mono ?_
  rintro e w1 ⟨rfl, hb1⟩
  go_wp2_with (fail)
  go_ret
  exact ⟨rfl, (below_alloc (Below.refl _ w) _).trans (hb1.mono (by simp))⟩

theorem idxP_drop {α : Type} (f : α → Bool) (l : List α) (k : Nat) (h : k < l.length) : idxP f (l.drop k) k = if f l[k] then (k : Int) else idxP f (l.drop (k + 1)) ((k + 1 : Nat) : Int) := by
  rw [List.drop_eq_getElem_cons h]
  rfl

set_option maxHeartbeats 2000000 in
theorem indexFunc_calls (A : Option Addr) (c : Nat) (l : List Pl) (g : FuncId) (lb : Array Value) (p : Pl → Bool) (w : World) (hR : Kd.C kP w A l.length l) (hc : l.length ≤ c) (hp : Pred g lb p w) (eg : ∀ args w, (callFunc g args).run Try.prog w = .ok (.enter g args) w) :
    Calls Try.prog 31 #[.slice A l.length c, .func (.func g) #[] lb] w fun e w' => e = .returned (.int .i64 (idxP p l 0)) ∧ Below w.heap.size w w' := by
  have hll : l.length ≤ 9223372036854775807 := Kd.C_max hR
  go_enter Try.func31, Try.ntmps31
  go_wp2_with (fail)
  go_loopw [8] (fun i wr => ∃ k : Nat, k ≤ l.length ∧ i = .int .i64 (k : Int) ∧ Hid (idxP p l 0 = idxP p (l.drop k) k) ∧ Below w.heap.size w wr) (fun i _ => l.length - (intOf i).toNat)
  case atStart => exact ⟨0, Nat.zero_le _, rfl, Lib.hid rfl, Below.refl _ _⟩
  case round =>
    obtain ⟨k, hk, rfl, hs, hB⟩ := hrel
    by_cases hlt : k < l.length
    · have hlti : (k : Int) < (l.length : Int) := by omega
      obtain ⟨ad, rfl, h0, h1, h2⟩ := at_pool (Kd.C_below hR hB) k hlt
      have hnx := idxP_drop p l k hlt
      generalize hx : l[k] = x at *
      have HN := Lib.hid hnx
      clear hnx hx
      go_wp2_with (fail)
      refine (hp x wr hB).mono ?_
      rintro e w1 ⟨rfl, hb1⟩
      have hB1 : Below w.heap.size w w1 := hB.trans (hb1.mono hB.size)
      cases hq : p x with
      | true =>
        rw [hq] at HN
        have hr : idxP p l 0 = (k : Int) := by rw [hs.out, HN.out]; rfl
        have HR := Lib.hid hr
        clear hr hs HN hq hb1
        go_wp2_with (fail)
        go_ret
        exact ⟨by rw [HR.out]; rfl, hB1⟩
      | false =>
        rw [hq] at HN
        have hr : idxP p l 0 = idxP p (l.drop (k + 1)) ((k + 1 : Nat) : Int) := by rw [hs.out, HN.out]; rfl
        have HR := Lib.hid hr
        clear hr hs HN hq hb1
        go_wp2_with (fail)
        go_roundw
        case rel => exact ⟨k + 1, by omega, by go_num, HR, hB1⟩
        case measure => simp [intOf]; omega
    · have hnl : ¬ ((k : Int) < (l.length : Int)) := by omega
      obtain rfl : k = l.length := by omega
      have hr : idxP p l 0 = -1 := by rw [hs.out, List.drop_length]; rfl
      have HR := Lib.hid hr
      clear hr hs
      go_wp2_with (fail)
      go_ret
      exact ⟨by rw [HR.out]; rfl, hB⟩

theorem idxP_range {α : Type} (f : α → Bool) : ∀ (l : List α) (k : Int), 0 ≤ k → (idxP f l k = -1 ∧ l.any f = false) ∨ (k ≤ idxP f l k ∧ idxP f l k < k + l.length ∧ l.any f = true)
  | [], k, h => .inl ⟨rfl, rfl⟩
  | p :: l, k, h => by
    unfold idxP
    cases hp : f p with
    | true => right; simp [hp]; omega
    | false =>
      rcases idxP_range f l (k + 1) (by omega) with ⟨h1, h2⟩ | ⟨h1, h2, h3⟩
      · left; simp [hp, h1, h2]
      · right; simp [hp, h3]; omega
theorem idxP_any {α : Type} (f : α → Bool) (l : List α) : decide (0 ≤ idxP f l 0) = l.any f := by
  rcases idxP_range f l 0 (by omega) with ⟨h1, h2⟩ | ⟨h1, h2, h3⟩
  · rw [h1, h2]; rfl
  · rw [h3, decide_eq_true h1]

set_option maxHeartbeats 1000000 in
theorem containsFunc_calls (A : Option Addr) (c : Nat) (l : List Pl) (g : FuncId) (lb : Array Value) (p : Pl → Bool) (w : World) (hR : Kd.C kP w A l.length l) (hc : l.length ≤ c) (hp : Pred g lb p w) (eg : ∀ args w, (callFunc g args).run Try.prog w = .ok (.enter g args) w) :
    Calls Try.prog 30 #[.slice A l.length c, .func (.func g) #[] lb] w fun e w' => e = .returned (.bool (l.any p)) ∧ Below w.heap.size w w' := by
  have hi := idxP_any p l
  have HI := Lib.hid hi
  clear hi
  go_enter Try.func30, Try.ntmps30
  go_wp2_with (fail)
  refine (indexFunc_calls A c l g lb p w hR hc hp eg).mono ?_
  rintro e w1 ⟨rfl, hb1⟩
  generalize idxP p l 0 = n at *
  go_wp2_with (fail)
  go_ret
  exact ⟨by rw [← HI.out]; rfl, hb1⟩

theorem eg_of1 : ∀ args w, (callFunc 32 args).run Try.prog w = .ok (.enter 32 args) w := fun args w => by simp [go_sem]

set_option maxHeartbeats 1000000 in
theorem of_calls (A : Option Addr) (c : Nat) (l : List Pl) (x : Int) (w : World) (hR : Kd.C kP w A l.length l) (hc : l.length ≤ c) :
    Calls Try.prog 12 #[.slice A l.length c, .int .i64 x] w fun e w' => e = .returned (.int .i64 (ofP l x)) ∧ Below w.heap.size w w' := by
  have hof : ofP l x = idxP (fun p => hasP p x) l 0 := rfl
  have HO := Lib.hid hof
  clear hof
  go_enter Try.func12, Try.ntmps12
  go_wp2_with (fail)
  have hbx : Boxed (w.alloc (.cells #[.int .i64 x] 3)) w.heap.size 3 (.int .i64 x) := Boxed.new _ _ _
  have hB : Below w.heap.size w (w.alloc (.cells #[.int .i64 x] 3)) := below_alloc (Below.refl _ _) _
  refine (indexFunc_calls A c l 32 #[.pointer (some ⟨w.heap.size, 0, none⟩)] (fun p => hasP p x) _ (Kd.C_alloc hR _) hc (fun p W hW => of1_calls w.heap.size x p W ((hW.block w.heap.size (by simp)).trans hbx)) eg_of1).mono ?_
  rintro e w1 ⟨rfl, hb1⟩
  rw [← HO.out]
  go_wp2_with (fail)
  go_ret
  exact ⟨rfl, hB.trans (hb1.mono (by simp))⟩
end Go.Proofs.Ytajofhjlkaenhaa.H
