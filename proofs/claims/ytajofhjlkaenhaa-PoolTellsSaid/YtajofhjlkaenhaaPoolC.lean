import Derived.Test.YtajofhjlkaenhaaPoolB
/-! Layer 11: what is lost by a change, and room, walked. -/
namespace Go.Proofs.Ytajofhjlkaenhaa.H
open Go.RowKit Go.Proofs.YtajofhjlkaenhaaW.PrintWords Go.Proofs.YtajofhjlkaenhaaW.PrintLast Go.Proofs.YtajofhjlkaenhaaW.PrintMore
set_option linter.unusedVariables false
set_option linter.unusedSimpArgs false

/-- A change's cells. -/
abbrev cvs (what out k : Int) (p : Pl) (b : Value) : Array Value := #[.int .i64 what, .int .i64 out, .int .i64 k, .int .i64 p.f0, .int .i64 p.f1, .int .i64 p.f2, b]
def BoxC (W : World) (B0 : Nat) (what out k : Int) (p : Pl) (b : Value) : Prop := W.heap[B0]? = some (.cells (cvs what out k p b) 48 (0, 0))
theorem BoxC.below {W W' : World} {B0 : Nat} {what out k : Int} {p : Pl} {b : Value} (h : BoxC W B0 what out k p b) (hb : Below W.heap.size W W') : BoxC W' B0 what out k p b := (hb.block B0 (blk_lt h)).trans h
theorem BoxC.new (W : World) (what out k : Int) (p : Pl) (b : Value) : BoxC (W.alloc (.cells (cvs what out k p b) 48)) W.heap.size what out k p b := heap_alloc_new W _
theorem BoxC.cell {W : World} {B0 : Nat} {what out k : Int} {p : Pl} {b : Value} (h : BoxC W B0 what out k p b) : W.cell? ⟨B0, 0, none⟩ = some (.int .i64 what) ∧ W.cell? ⟨B0, 1, none⟩ = some (.int .i64 out) ∧ W.cell? ⟨B0, 2, none⟩ = some (.int .i64 k) ∧ W.cell? ⟨B0, 3, none⟩ = some (.int .i64 p.f0) ∧ W.cell? ⟨B0, 4, none⟩ = some (.int .i64 p.f1) ∧ W.cell? ⟨B0, 5, none⟩ = some (.int .i64 p.f2) ∧ W.cell? ⟨B0, 6, none⟩ = some b :=
  ⟨(blk_cell h 0).trans rfl, (blk_cell h 1).trans rfl, (blk_cell h 2).trans rfl, (blk_cell h 3).trans rfl, (blk_cell h 4).trans rfl, (blk_cell h 5).trans rfl, (blk_cell h 6).trans rfl⟩

set_option maxHeartbeats 2000000 in
theorem wrong11_calls (Bl Bc Bq : Nat) (A : Option Addr) (c : Nat) (l : List Pl) (what out : Int) (k : Nat) (p q : Pl) (b : Value) (x : Int) (w : World) (hR : Kd.C kP w A l.length l) (hk : k < l.length)
    (hl : Boxed w Bl 22 (.slice A l.length c)) (hc : BoxC w Bc what out k p b) (hq : BoxP w Bq q) :
    Calls Try.prog 45 #[.int .i64 x, .pointer (some ⟨Bl, 0, none⟩), .pointer (some ⟨Bc, 0, none⟩), .pointer (some ⟨Bq, 0, none⟩)] w fun e w' => e = .returned (.bool (hasP l[k] x && !hasP q x)) ∧ Below w.heap.size w w' := by
  have hki : (k : Int) < (l.length : Int) := by omega
  obtain ⟨ad, rfl, h0, h1, h2⟩ := at_pool hR k hk
  have hlc := hl.cell
  obtain ⟨_, _, c2, _, _, _, _⟩ := hc.cell
  have HQ := Lib.hid hq
  generalize l[k] = y at *
  clear hR hl hc hq
  cases hy : hasP y x with
  | false =>
    go_enter Try.func45, Try.ntmps45
    go_wp2_with (fail)
    refine (has_calls y x _).mono ?_
    rintro e w1 ⟨rfl, hb1⟩
    rw [hy]
    clear hy
    go_wp2_with (fail)
    go_ret
    exact ⟨rfl, hb1⟩
  | true =>
    go_enter Try.func45, Try.ntmps45
    go_wp2_with (fail)
    refine (has_calls y x _).mono ?_
    rintro e w1 ⟨rfl, hb1⟩
    rw [hy]
    clear hy
    have hq1 := HQ.out.below hb1
    have q0 := hq1.c0
    have q1 := hq1.c1
    have q2 := hq1.c2
    clear hq1
    go_wp2_with (fail)
    refine (has_calls q x _).mono ?_
    rintro e w2 ⟨rfl, hb2⟩
    go_wp2_with (fail)
    go_ret
    exact ⟨by simp, hb1.trans (hb2.mono hb1.size)⟩

def PredI (g : FuncId) (lb : Array Value) (p : Int → Bool) (w0 : World) : Prop :=
  ∀ (x : Int) (W : World), Below w0.heap.size w0 W → Calls Try.prog g (#[.int .i64 x] ++ lb) W fun e w' => e = .returned (.bool (p x)) ∧ Below W.heap.size W w'
theorem cell_ofI {w : World} {A : Option Addr} {l : List Int} (h : Kd.C (Kd.int .i64) w A l.length l) (k : Nat) (hk : k < l.length) : ∃ ad, A = some ad ∧ w.cell? (ad.add k) = some (.int .i64 l[k]) := by
  obtain ⟨ad, e, hc⟩ := Kd.at_int h (k : Int) (by omega) (by omega)
  have hr : rd l (k : Int) = l[k] := by unfold rd; simp [List.getD_eq_getElem?_getD, hk]
  rw [hr] at hc
  exact ⟨ad, e, by simpa using hc⟩

set_option maxHeartbeats 2000000 in
theorem indexFuncI_calls (A : Option Addr) (c : Nat) (l : List Int) (g : FuncId) (lb : Array Value) (p : Int → Bool) (w : World) (hR : Kd.C (Kd.int .i64) w A l.length l) (hc : l.length ≤ c) (hp : PredI g lb p w) (eg : ∀ args w, (callFunc g args).run Try.prog w = .ok (.enter g args) w) :
    Calls Try.prog 47 #[.slice A l.length c, .func (.func g) #[] lb] w fun e w' => e = .returned (.int .i64 (idxP p l 0)) ∧ Below w.heap.size w w' := by
  have hll : l.length ≤ 9223372036854775807 := Kd.C_max hR
  go_enter Try.func47, Try.ntmps47
  go_wp2_with (fail)
  go_loopw [8] (fun i wr => ∃ k : Nat, k ≤ l.length ∧ i = .int .i64 (k : Int) ∧ Hid (idxP p l 0 = idxP p (l.drop k) k) ∧ Below w.heap.size w wr) (fun i _ => l.length - (intOf i).toNat)
  case atStart => exact ⟨0, Nat.zero_le _, rfl, Lib.hid rfl, Below.refl _ _⟩
  case round =>
    obtain ⟨k, hk, rfl, hs, hB⟩ := hrel
    by_cases hlt : k < l.length
    · have hlti : (k : Int) < (l.length : Int) := by omega
      obtain ⟨ad, rfl, h0⟩ := cell_ofI (Kd.C_below hR hB) k hlt
      have hnx := idxP_drop p l k hlt
      generalize hx : l[k] = x at *
      have HN := Lib.hid hnx
      clear hnx hx
      go_wp2_with (fail)
      refine (hp x wr hB).mono ?_
      rintro e w1 ⟨rfl, hb1⟩
      have hB1 : Below w.heap.size w w1 := hB.trans (hb1.mono hB.size)
      cases hq : p x with
      | true =>
        rw [hq] at HN
        have hr : idxP p l 0 = (k : Int) := by rw [hs.out, HN.out]; rfl
        have HR := Lib.hid hr
        clear hr hs HN hq hb1
        go_wp2_with (fail)
        go_ret
        exact ⟨by rw [HR.out]; rfl, hB1⟩
      | false =>
        rw [hq] at HN
        have hr : idxP p l 0 = idxP p (l.drop (k + 1)) ((k + 1 : Nat) : Int) := by rw [hs.out, HN.out]; rfl
        have HR := Lib.hid hr
        clear hr hs HN hq hb1
        go_wp2_with (fail)
        go_roundw
        case rel => exact ⟨k + 1, by omega, by go_num, HR, hB1⟩
        case measure => simp [intOf]; omega
    · have hnl : ¬ ((k : Int) < (l.length : Int)) := by omega
      obtain rfl : k = l.length := by omega
      have hr : idxP p l 0 = -1 := by rw [hs.out, List.drop_length]; rfl
      have HR := Lib.hid hr
      clear hr hs
      go_wp2_with (fail)
      go_ret
      exact ⟨by rw [HR.out]; rfl, hB⟩

set_option maxHeartbeats 1000000 in
theorem containsFuncI_calls (A : Option Addr) (c : Nat) (l : List Int) (g : FuncId) (lb : Array Value) (p : Int → Bool) (w : World) (hR : Kd.C (Kd.int .i64) w A l.length l) (hc : l.length ≤ c) (hp : PredI g lb p w) (eg : ∀ args w, (callFunc g args).run Try.prog w = .ok (.enter g args) w) :
    Calls Try.prog 44 #[.slice A l.length c, .func (.func g) #[] lb] w fun e w' => e = .returned (.bool (l.any p)) ∧ Below w.heap.size w w' := by
  have hi := idxP_any p l
  have HI := Lib.hid hi
  clear hi
  go_enter Try.func44, Try.ntmps44
  go_wp2_with (fail)
  refine (indexFuncI_calls A c l g lb p w hR hc hp eg).mono ?_
  rintro e w1 ⟨rfl, hb1⟩
  generalize idxP p l 0 = n at *
  go_wp2_with (fail)
  go_ret
  exact ⟨by rw [← HI.out]; rfl, hb1⟩

theorem eg_wrong11 : ∀ args w, (callFunc 45 args).run Try.prog w = .ok (.enter 45 args) w := fun args w => by simp [go_sem]
theorem eg_wrong1 : ∀ args w, (callFunc 43 args).run Try.prog w = .ok (.enter 43 args) w := fun args w => by simp [go_sem]

def lostP (y : Pl) (busy : List Int) (q : Pl) : Bool := busy.any fun x => hasP y x && !hasP q x

set_option maxHeartbeats 2000000 in
theorem wrong1_calls (Bl Bc : Nat) (A : Option Addr) (c : Nat) (l : List Pl) (what out : Int) (k : Nat) (p q : Pl) (A6 : Option Addr) (c6 : Nat) (busy : List Int) (w : World) (hR : Kd.C kP w A l.length l) (hk : k < l.length) (hR6 : Kd.C (Kd.int .i64) w A6 busy.length busy) (hc6 : busy.length ≤ c6)
    (hl : Boxed w Bl 22 (.slice A l.length c)) (hc : BoxC w Bc what out k p (.slice A6 busy.length c6)) :
    Calls Try.prog 43 #[pv q, .pointer (some ⟨Bc, 0, none⟩), .pointer (some ⟨Bl, 0, none⟩)] w fun e w' => e = .returned (.bool (lostP l[k] busy q)) ∧ Below w.heap.size w w' := by
  have k6 : ∀ o, (w.alloc o).cell? ⟨Bc, 6, none⟩ = some (.slice A6 busy.length c6) := fun o => by
    have := (hc.below (below_alloc (Below.refl _ w) o)).cell
    exact this.2.2.2.2.2.2
  have HL := Lib.hid hl
  have HC := Lib.hid hc
  clear hl hc
  go_enter Try.func43, Try.ntmps43
  go_wp2_with (fail)
  have hB : Below w.heap.size w (w.alloc (.cells #[.int .i64 q.f0, .int .i64 q.f1, .int .i64 q.f2] 27)) := below_alloc (Below.refl _ _) _
  refine (containsFuncI_calls A6 c6 busy 45 #[.pointer (some ⟨Bl, 0, none⟩), .pointer (some ⟨Bc, 0, none⟩), .pointer (some ⟨w.heap.size, 0, none⟩)] (fun x => hasP l[k] x && !hasP q x) _ (Kd.C_alloc hR6 _) hc6
    (fun x W hW => wrong11_calls Bl Bc w.heap.size A c l what out k p q _ x W (Kd.C_below hR (hB.trans (hW.mono (by simp)))) hk ((((hB.trans (hW.mono (by simp))).block Bl HL.out.lt)).trans HL.out) (HC.out.below (hB.trans (hW.mono (by simp)))) ((BoxP.new w q).below hW)) eg_wrong11).mono ?_
  rintro e w1 ⟨rfl, hb1⟩
  go_wp2_with (fail)
  go_ret
  exact ⟨rfl, hB.trans (hb1.mono (by simp))⟩
end Go.Proofs.Ytajofhjlkaenhaa.H
