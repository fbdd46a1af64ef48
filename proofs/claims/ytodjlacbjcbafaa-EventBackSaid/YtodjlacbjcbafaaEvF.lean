import Derived.Test.YtodjlacbjcbafaaEvD
import Derived.Test.YtodjlacbjcbafaaVariR
import Derived.Laws.EntriesVeiled
/-! Layer 14: the readers; Read. -/
namespace Go.Proofs.Ytodjlacbjcbafaa.H
open Go.RowKit Moor Go.Proofs.YtodjlacbjcbafaaW.PrintWords Go.Proofs.YtodjlacbjcbafaaW.PrintLast Go.Proofs.YtodjlacbjcbafaaW.PrintMore
set_option linter.unusedVariables false
set_option linter.unusedSimpArgs false
set_option linter.unnecessarySimpa false

def waysV : Array Value := #[.func (.func 37) #[] #[], .func (.func 37) #[] #[], .func (.func 38) #[] #[], .func (.func 39) #[] #[], .func (.func 38) #[] #[], .func (.func 39) #[] #[], .func (.func 40) #[] #[]]
def Box7 (W : World) (B0 : Nat) (cs : Array Value) : Prop := W.heap[B0]? = some (.cells cs 47 (0, 0))
abbrev nil7 : Array Value := #[.nilFunc, .nilFunc, .nilFunc, .nilFunc, .nilFunc, .nilFunc, .nilFunc]
theorem Box7.new (W : World) : Box7 (W.alloc (.cells nil7 47)) W.heap.size nil7 := heap_alloc_new W _
theorem Box7.f {W : World} {B0 : Nat} {cs : Array Value} (h : Box7 W B0 cs) (o : Nat) : W.frozen? ⟨B0, o, none⟩ = false := by simp [World.frozen?, show W.heap[B0]? = _ from h]
theorem Box7.c {W : World} {B0 : Nat} {cs : Array Value} (h : Box7 W B0 cs) (j : Nat) : W.cell? ⟨B0, j, none⟩ = cs[j]? := blk_cellE h j
theorem Box7.set {W : World} {B0 : Nat} {cs : Array Value} (h : Box7 W B0 cs) (j : Nat) (v : Value) : Box7 (W.setCell ⟨B0, j, none⟩ v) B0 (cs.setIfInBounds j v) := by
  unfold Box7 at *
  simp [World.setCell, Array.getElem?_modify, h]
theorem infoWays : (Try.prog.info? 47).map (·.size) = some 7 := by kernel_rfl
theorem results_ways {fn : Func} {p : Tmp} (h : fn.results = #[.cell p 47]) (tmps : Array Value) (w : World) (g : Nat) (x : Array Value) (hx : x.size = 7) (hp : tmps.getD p undef = .pointer (some ⟨g, 0, none⟩)) (hb : Box7 w g x) :
    (results fn tmps).run Try.prog w = .ok (.agg x) w := by
  have hl := run_loadVar_mid (P := Try.prog) w g 0 47 x.toList _ (fun j v hj => by
    rw [Nat.zero_add, hb.c j]
    simpa using hj) Try.underlying47 (by simpa using hx) (by simpa [hx] using infoWays)
  have hp' : tmps[p]?.getD undef = .pointer (some ⟨g, 0, none⟩) := by simpa using hp
  simp [results, h, hp', asAddr, hl]
set_option maxRecDepth 100000 in
set_option maxHeartbeats 4000000 in
theorem readers_calls (w : World) :
    Calls Try.prog 25 #[] w (fun x w' => x = .returned (.agg waysV) ∧ Below w.heap.size w w') := by
  go_enter Try.func25, Try.ntmps25
  go_wp2_with (fail)
  exact bodyPost_ret (results_ways rfl _ _ w.heap.size waysV rfl rfl (heap_alloc_new w _)) rfl ⟨rfl, below_alloc (Below.refl _ _) _⟩
end Go.Proofs.Ytodjlacbjcbafaa.H

/-! Layer 14: Read, walked. -/
namespace Go.Proofs.Ytodjlacbjcbafaa.H
open Go.RowKit Moor Go.Proofs.YtodjlacbjcbafaaW.PrintWords Go.Proofs.YtodjlacbjcbafaaW.PrintLast Go.Proofs.YtodjlacbjcbafaaW.PrintMore
set_option linter.unusedVariables false
set_option linter.unusedSimpArgs false

/-- vari.Read's contract. -/
theorem read_calls (A0 : Option Addr) (c0 : Nat) (l : List Int) (w : World) (hr : Kd.C (Kd.int .u8) w A0 l.length l) (hc : l.length ≤ c0) (ho : okB l) (hl : l.length ≤ 140737488355328) :
    Calls Try.prog 24 #[.slice A0 l.length c0] w fun e w' => ∃ v : Value, e = .returned (.tuple #[v, .bool (vRead l).2]) ∧ Kd.R (Kd.int .i64) 3 w' w.heap.size (fun _ => True) v (vRead l).1 ∧ Below w.heap.size w w' := by
  refine (callsIn_wide.1 (read_in 6 (Nat.le_refl _) A0 c0 l ho hc hl w hr)).mono ?_
  rintro e w' ⟨v, rfl, hv, hb⟩
  exact ⟨v, rfl, Kd.R_of_own hv (fun _ _ => trivial), hb⟩
theorem ein_calls (n f t : Int) (w : World) : Calls Try.prog 19 #[.int .i64 n, .int .i64 f, .int .i64 t] w fun e w' => e = .returned (.bool (decide (f ≤ n ∧ n ≤ t))) ∧ Below w.heap.size w w' :=
  (B.event_in.calls n f t _ w (in_tells n f t)).mono fun e w' h => ⟨h.1, by obtain ⟨q, rfl⟩ := h.2.out; exact pw_below_drewN (Below.refl _ _) q⟩
theorem emay_calls (e : Ev) (w : World) : Calls Try.prog 17 #[.agg #[.int .i64 e.kind, .int .i64 e.at_, .int .i64 e.a, .int .i64 e.b, .int .i64 e.c, .int .i64 e.q, .int .i64 e.i, .int .i64 e.h, .bool e.pair]] w fun x w' => x = .returned (.bool (decide (evMay e))) ∧ Below w.heap.size w w' :=
  B.event_May.calls 4 _ _ _ _ _ _ _ _ _ _ w (may_tells e 4 (Nat.le_refl _))
/-- How a kind's numbers are read: the event, what is left, and whether they are bad. -/
def wayE (e : Ev) (l : List Int) : Ev × List Int × Bool :=
  if e.kind = 0 ∨ e.kind = 1 then ({ e with a := l.headD 0 / 32, b := l.headD 0 / 8 % 4, c := l.headD 0 % 8 }, l.tail, l.isEmpty)
  else if e.kind = 2 ∨ e.kind = 4 then ({ e with a := l.headD 0 / 8, b := l.headD 0 % 8 }, l.tail, l.isEmpty)
  else if e.kind = 3 ∨ e.kind = 5 then ({ e with a := l.headD 0 }, l.tail, l.isEmpty)
  else (polE e l, l.tail.tail.tail.tail, badE false l)
theorem way_body (k t : Int) (h0 : 0 ≤ k) (h1 : k < 7) (l : List Int) : bodyE k t l = if (wayE ⟨k, t, 0, 0, 0, 0, 0, 0, false⟩ l).2.2 = true then none else some ((wayE ⟨k, t, 0, 0, 0, 0, 0, 0, false⟩ l).1, (wayE ⟨k, t, 0, 0, 0, 0, 0, 0, false⟩ l).2.1) := by
  unfold bodyE wayE
  by_cases k6 : k = 6
  · subst k6
    rw [if_pos rfl]
    match l with
    | [] => rfl
    | [_] => rfl
    | [_, _] => rfl
    | [_, _, _] => rfl
    | q :: i :: h :: p :: r => simp [polE, badE]
  · rw [if_neg k6]
    by_cases n0 : k = 0 ∨ k = 1
    · rw [if_pos n0]
      match l with
      | [] => rfl
      | m :: r => simp [n0]
    · rw [if_neg n0]
      by_cases n1 : k = 2 ∨ k = 4
      · rw [if_pos n1]
        match l with
        | [] => rfl
        | m :: r => simp [n0, n1]
      · have n2 : k = 3 ∨ k = 5 := by omega
        rw [if_neg n1, if_pos n2]
        match l with
        | [] => rfl
        | m :: r => simp [n0, n1]
theorem way_at (e : Ev) (l : List Int) : (wayE e l).1.at_ = e.at_ ∧ (wayE e l).2.1.length ≤ l.length ∧ ∀ x ∈ (wayE e l).2.1, x ∈ l := by
  unfold wayE
  repeat' split
  · exact ⟨rfl, by simp, fun x hx => List.mem_of_mem_tail hx⟩
  · exact ⟨rfl, by simp, fun x hx => List.mem_of_mem_tail hx⟩
  · exact ⟨rfl, by simp, fun x hx => List.mem_of_mem_tail hx⟩
  · exact ⟨rfl, by simp; omega, fun x hx => List.mem_of_mem_tail (List.mem_of_mem_tail (List.mem_of_mem_tail (List.mem_of_mem_tail hx)))⟩
/-- What is still to be read, behind what has been. -/
def restE (k : Nat) (t : Int) (l : List Int) (done : List Ev) : Option (List Ev) := (decE k t l).map (done ++ ·)
theorem rest_high (k : Nat) (t n : Int) (l : List Int) (done : List Ev) (h : 7 ≤ n % 16) : restE (k + 1) t (n :: l) done = none := by
  unfold restE
  rw [decE_cons, oneE_cons, if_pos h]; rfl
theorem rest_bad (k : Nat) (t n : Int) (l : List Int) (done : List Ev) (h : n % 16 < 7) (h2 : (wayE ⟨n % 16, t + n / 16, 0, 0, 0, 0, 0, 0, false⟩ l).2.2 = true ∨ ¬ evMay (wayE ⟨n % 16, t + n / 16, 0, 0, 0, 0, 0, 0, false⟩ l).1) : restE (k + 1) t (n :: l) done = none := by
  unfold restE
  rw [decE_cons, oneE_cons, if_neg (by omega), way_body _ _ (by omega) h]
  by_cases h3 : (wayE ⟨n % 16, t + n / 16, 0, 0, 0, 0, 0, 0, false⟩ l).2.2 = true
  · rw [if_pos h3]; rfl
  · rw [if_neg h3]
    simp only
    rw [if_neg (h2.resolve_left h3)]; rfl
theorem rest_good (k : Nat) (t n : Int) (l : List Int) (done : List Ev) (h : n % 16 < 7) (h2 : (wayE ⟨n % 16, t + n / 16, 0, 0, 0, 0, 0, 0, false⟩ l).2.2 = false) (h3 : evMay (wayE ⟨n % 16, t + n / 16, 0, 0, 0, 0, 0, 0, false⟩ l).1) : restE (k + 1) t (n :: l) done = restE k (wayE ⟨n % 16, t + n / 16, 0, 0, 0, 0, 0, 0, false⟩ l).1.at_ (wayE ⟨n % 16, t + n / 16, 0, 0, 0, 0, 0, 0, false⟩ l).2.1 (done ++ [(wayE ⟨n % 16, t + n / 16, 0, 0, 0, 0, 0, 0, false⟩ l).1]) := by
  unfold restE
  rw [decE_cons, oneE_cons, if_neg (by omega), way_body _ _ (by omega) h, if_neg (by rw [h2]; decide)]
  simp only
  rw [if_pos h3]
  simp only
  cases decE k (wayE ⟨n % 16, t + n / 16, 0, 0, 0, 0, 0, 0, false⟩ l).1.at_ (wayE ⟨n % 16, t + n / 16, 0, 0, 0, 0, 0, 0, false⟩ l).2.1 with
  | none => rfl
  | some x => simp
/-- The function of a kind. -/
theorem ways_calls (k : Nat) (hk : k < 7) : ∃ g : FuncId, waysV[k]? = some (.func (.func g) #[] #[]) ∧ (∀ args w, (callFunc g args).run Try.prog w = .ok (.enter g args) w) ∧ ∀ (B0 : Nat) (t : Int) (l : List Int) (e : Ev) (w : World), e.kind = (k : Int) → Pp w B0 t l e false →
    Calls Try.prog g #[.pointer (some ⟨B0, 0, none⟩)] w (Red w B0 t (wayE e l).2.1 (wayE e l).1 (wayE e l).2.2) := by
  have hb : ∀ (B0 : Nat) (t : Int) (l : List Int) (e : Ev) (w : World), e.kind = 0 ∨ e.kind = 1 → Pp w B0 t l e false →
      Calls Try.prog 37 #[.pointer (some ⟨B0, 0, none⟩)] w (Red w B0 t (wayE e l).2.1 (wayE e l).1 (wayE e l).2.2) := by
    intro B0 t l e w he h
    unfold wayE
    rw [if_pos he]
    have := block_calls B0 t l e false w h
    rwa [Bool.false_or] at this
  have hp : ∀ (B0 : Nat) (t : Int) (l : List Int) (e : Ev) (w : World), e.kind = 2 ∨ e.kind = 4 → Pp w B0 t l e false →
      Calls Try.prog 38 #[.pointer (some ⟨B0, 0, none⟩)] w (Red w B0 t (wayE e l).2.1 (wayE e l).1 (wayE e l).2.2) := by
    intro B0 t l e w he h
    unfold wayE
    rw [if_neg (by omega), if_pos he]
    have := pool_calls B0 t l e false w h
    rwa [Bool.false_or] at this
  have hl : ∀ (B0 : Nat) (t : Int) (l : List Int) (e : Ev) (w : World), e.kind = 3 ∨ e.kind = 5 → Pp w B0 t l e false →
      Calls Try.prog 39 #[.pointer (some ⟨B0, 0, none⟩)] w (Red w B0 t (wayE e l).2.1 (wayE e l).1 (wayE e l).2.2) := by
    intro B0 t l e w he h
    unfold wayE
    rw [if_neg (by omega), if_neg (by omega), if_pos he]
    have := place_calls B0 t l e false w h
    rwa [Bool.false_or] at this
  have ho : ∀ (B0 : Nat) (t : Int) (l : List Int) (e : Ev) (w : World), e.kind = 6 → Pp w B0 t l e false →
      Calls Try.prog 40 #[.pointer (some ⟨B0, 0, none⟩)] w (Red w B0 t (wayE e l).2.1 (wayE e l).1 (wayE e l).2.2) := by
    intro B0 t l e w he h
    unfold wayE
    rw [if_neg (by omega), if_neg (by omega), if_neg (by omega)]
    exact policy_calls B0 t l e false w h
  match k with
  | 0 => exact ⟨_, rfl, fun args w => by simp [go_sem], fun B0 t l e w he h => hb B0 t l e w (.inl he) h⟩
  | 1 => exact ⟨_, rfl, fun args w => by simp [go_sem], fun B0 t l e w he h => hb B0 t l e w (.inr he) h⟩
  | 2 => exact ⟨_, rfl, fun args w => by simp [go_sem], fun B0 t l e w he h => hp B0 t l e w (.inl he) h⟩
  | 3 => exact ⟨_, rfl, fun args w => by simp [go_sem], fun B0 t l e w he h => hl B0 t l e w (.inl he) h⟩
  | 4 => exact ⟨_, rfl, fun args w => by simp [go_sem], fun B0 t l e w he h => hp B0 t l e w (.inr he) h⟩
  | 5 => exact ⟨_, rfl, fun args w => by simp [go_sem], fun B0 t l e w he h => hl B0 t l e w (.inr he) h⟩
  | 6 => exact ⟨_, rfl, fun args w => by simp [go_sem], fun B0 t l e w he h => ho B0 t l e w he h⟩
  | k + 7 => omega
end Go.Proofs.Ytodjlacbjcbafaa.H
