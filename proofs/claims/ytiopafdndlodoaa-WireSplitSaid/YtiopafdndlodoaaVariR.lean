import Derived.RangeFuncNested
import Derived.RangeFuncBound
import Derived.RangeFuncCalls
import Derived.RangeFuncLeaves
import Derived.RangeFuncBox
import Derived.RangeFuncWrites
import Derived.Shelf.Abstract
import Derived.Shelf.RegionOpen
import Derived.OwnWalkIn
import Derived.TacticsInMore
import Derived.LoopNIn
import Derived.LoopIn
import Derived.Lib.Hide
import Derived.Scope
import Derived.WalkMore
import Derived.Outline
import Derived.Maps.AppendAt
import Derived.Test.YtiopafdndlodoaaVariB
/-! vari.Read: a range over a function. -/
namespace Go.Proofs.Ytiopafdndlodoaa.H
open Go.RowKit Go.Shelf Moor Go.Proofs.YtiopafdndlodoaaW.PrintWords Go.Proofs.YtiopafdndlodoaaW.PrintLast Go.Proofs.YtiopafdndlodoaaW.PrintMore
set_option linter.unusedVariables false
set_option linter.unusedSimpArgs false
attribute [local go_sem] Oper.semAt_some

/-- vari.Get's contract. -/
theorem get_calls (A0 : Option Addr) (c0 : Nat) (l : List Int) (a : Int) (w : World) (hr : Kd.C (Kd.int .u8) w A0 l.length l) (hc : l.length ≤ c0) (ho : okB l) (hl : l.length ≤ 4611686018427387904) :
    Calls Try.prog 46 #[.slice A0 l.length c0, .int .i64 a] w fun e w' => e = .returned (.tuple #[.int .i64 (vGet l a).1, .int .i64 (vGet l a).2]) ∧ Below w.heap.size w w' :=
  B.vari_Get.calls 10 A0 c0 l a _ _ w hr hc (get_tells l a ho hl 10 (Nat.le_refl _))

abbrev enc2 (x : Int × Int) : Array Value := #[.int .i64 x.1, .int .i64 x.2]
/-- What a round keeps: what lay below n₀, and block Bn. -/
def KpB (n₀ Bn : Nat) (W W' : World) : Prop := Below n₀ W W' ∧ W'.heap[Bn]? = W.heap[Bn]?
theorem KpB.t {n₀ Bn : Nat} {A B C : World} (h : KpB n₀ Bn A B) (k : KpB n₀ Bn B C) : KpB n₀ Bn A C := ⟨h.1.trans k.1, k.2.trans h.2⟩
theorem KpB.b {n₀ Bn : Nat} {w : World} (hn : n₀ ≤ w.heap.size) (hB : Bn < w.heap.size) (W : World) (l : Nat) (o o' : Obj) (hl : w.heap.size ≤ l) (h : W.heap[l]? = some o) (h1 : o.isCells = false) (h2 : o.isWalk = false) : KpB n₀ Bn W (W.putObj l o') :=
  ⟨belowK_b hn W l o o' hl h h1 h2, World.putObj_heap_other (by omega)⟩

def NumEnd (b : List Int) (J Jx : List (Int × Int) → World → Prop) (e : Ending) (W' : World) : Prop := (∃ v, e = .returned v) ∧
      ((∃ ys, ys = seqP b.length b 0 ∧ J ys W') ∨ (∃ pre, pre <+: seqP b.length b 0 ∧ Jx pre W'))

set_option maxRecDepth 100000 in
set_option maxHeartbeats 2000000 in
/-- vari.numbers' closure: it hands on what seqP says. -/
theorem numbers1_in (n : Nat) (hn : 4 ≤ n) (lo Bn n₀ : Nat) (A : Option Addr) (c : Nat) (b : List Int) (ho : okB b) (hc : b.length ≤ c) (hlen : b.length ≤ 4611686018427387904) (J Jx : List (Int × Int) → World → Prop) (M : Nat) (hJ : AbidesFrom M J)
    (hY : ∀ pre x W, J pre W → pre.length < b.length → YieldAt Fence.wide (n - 1) Try.prog lo (enc2 x) W fun e W' =>
      (e = .returned (.bool true) ∧ J (pre ++ [x]) W' ∧ KpB n₀ Bn W W') ∨ (e = .returned (.bool false) ∧ Jx (pre ++ [x]) W'))
    (W0 : World) (hR : Kd.C (Kd.int .u8) W0 A b.length b) (hn0 : W0.heap.size ≤ n₀)
    (W : World) (hW0 : Below W0.heap.size W0 W) (hnW : n₀ ≤ W.heap.size) (hBn : Boxed W Bn 29 (.slice A b.length c)) (h0 : J [] W) :
    CallsIn Fence.wide n Try.prog 63 #[.func (.yield lo) #[] #[], .pointer (some ⟨Bn, 0, none⟩)] W (NumEnd b J Jx) := by
  refine callsIn_of_wp Try.func63 rfl trivial ?_ rfl
  simp only [Try.ntmps63, List.size_toArray, List.length_cons, List.length_nil, Nat.reduceAdd, Nat.reduceSub, Array.replicate_succ, Array.replicate_zero, List.push_toArray, List.append_toArray, List.nil_append, List.cons_append]
  gi_wp2
  gi_loopw [3] (fun p wr => ∃ (pre : List (Int × Int)) (a f : Nat), p = .int .i64 (a : Int) ∧ a ≤ b.length ∧ b.length - a ≤ f ∧ pre.length + f ≤ b.length ∧ Hid (seqP b.length b 0 = pre ++ seqP f b a) ∧ J pre wr ∧ KpB n₀ Bn W wr)
    (fun p wr => b.length - (intOf p).toNat)
  case atStart =>
    exact ⟨[], 0, b.length, rfl, by omega, by omega, by simp, Lib.hid rfl, h0, Below.refl _ _, rfl⟩
  case round =>
    obtain ⟨pre, a, f, rfl, ha, hf, hpf, hs, hJs, hk⟩ := hrel
    have hBr : Boxed wr Bn 29 (.slice A b.length c) := hk.2.trans hBn
    have hBc := hBr.cell
    have hRr : Kd.C (Kd.int .u8) wr A b.length b := Kd.C_below hR (hW0.trans (hk.1.mono hn0))
    by_cases hlt : a < b.length
    · obtain ⟨f, rfl⟩ : ∃ g, f = g + 1 := ⟨f - 1, by omega⟩
      have hseq : seqP (f + 1) b a = vGet b a :: (if (vGet b a).2 = -1 then [] else seqP f b (vGet b a).2.toNat) := by simp only [seqP, hlt, if_true]
      have hbd := vGet_bound b a
      have HS := Lib.hid hseq
      clear hseq
      have G := get_calls A c b a wr hRr hc ho hlen
      have hlti : (a : Int) < (b.length : Int) := by omega
      generalize hg : vGet b a = g at *
      have HG := Lib.hid hg
      clear hg
      obtain ⟨n1, e1⟩ := g
      dsimp only at *
      gi_wp2_with (fail)
      refine ⟨trivial, fun _ => by omega, (callsIn_wide.2 G).mono ?_⟩
      rintro e w1 ⟨rfl, hb1⟩
      have hJ1 : J pre w1 := hJ pre wr w1 none hJs (grown_of_below hb1 none) (fun r e => by cases e)
      have hB1 : Boxed w1 Bn 29 (.slice A b.length c) := (hb1.block Bn hBr.lt).trans hBr
      have hK1 : KpB n₀ Bn W w1 := KpB.t hk ⟨hb1.mono (Nat.le_trans hnW hk.1.size), hb1.block Bn hBr.lt⟩
      obtain ⟨fn, tmps, assign, body, hy, hRd⟩ := hY pre (n1, e1) w1 hJ1 (by omega)
      by_cases he : e1 = -1
      · subst he
        gi_wp2
        refine ⟨fun _ => by omega, hRd.mono ?_⟩
        rintro e W3 (⟨rfl, hJ3, hk3⟩ | ⟨rfl, hJx3⟩)
        · gi_wp2
          refine bodyPost_ret (results_none rfl _ _ _) rfl ?_
          exact ⟨⟨_, rfl⟩, .inl ⟨pre ++ [(n1, -1)], by rw [hs.out, HS.out]; simp, hJ3⟩⟩
        · gi_wp2
          refine bodyPost_ret (results_none rfl _ _ _) rfl ?_
          exact ⟨⟨_, rfl⟩, .inr ⟨pre ++ [(n1, -1)], by rw [hs.out, HS.out]; simp, hJx3⟩⟩
      · have he' : (e1 == -1) = false := by simpa using he
        obtain ⟨hb2, hb3, hb4⟩ := hbd.resolve_left he
        obtain ⟨q, rfl⟩ := Int.eq_ofNat_of_zero_le (show 0 ≤ e1 by omega)
        have HE := Lib.hid he
        clear he hbd
        gi_wp2
        refine ⟨fun _ => by omega, hRd.mono ?_⟩
        rintro e W3 (⟨rfl, hJ3, hk3⟩ | ⟨rfl, hJx3⟩)
        · gi_wp2
          go_roundw
          case rel => exact ⟨pre ++ [(n1, (q : Int))], q, f, rfl, by omega, by omega, by simp; omega, Lib.hid (by rw [hs.out, HS.out, if_neg HE.out]; simp), hJ3, KpB.t hK1 hk3⟩
          case measure => simp [intOf]; omega
        · gi_wp2
          refine bodyPost_ret (results_none rfl _ _ _) rfl ?_
          exact ⟨⟨_, rfl⟩, .inr ⟨pre ++ [(n1, (q : Int))], by rw [hs.out, HS.out]; simp, hJx3⟩⟩
    · have hnlt : ¬ ((a : Int) < (b.length : Int)) := by omega
      gi_wp2
      go_end0
      have e : seqP f b a = [] := by cases f <;> simp [seqP, hlt]
      exact ⟨⟨_, rfl⟩, .inl ⟨pre, by rw [hs.out, e, List.append_nil], hJs⟩⟩

set_option maxHeartbeats 1000000 in
/-- vari.numbers: the bytes are boxed; the function value captures the box. -/
theorem numbers_in (n : Nat) (sv : Value) (w : World) (A : Option Addr) (ln c : Nat) (hsv : sv = .slice A ln c) :
    CallsIn Fence.wide n Try.prog 55 #[sv] w fun e w' => e = .returned (.func (.func 63) #[] #[.pointer (some ⟨w.heap.size, 0, none⟩)]) ∧ w' = w.alloc (.cells #[sv] 29) := by
  subst hsv
  refine callsIn_of_wp Try.func55 rfl trivial ?_ rfl
  simp only [Try.ntmps55, List.size_toArray, List.length_cons, List.length_nil, Nat.reduceAdd, Nat.reduceSub, Array.replicate_succ, Array.replicate_zero, List.push_toArray, List.append_toArray, List.nil_append, List.cons_append]
  gi_wp2
  go_ret
  exact ⟨rfl, rfl⟩

theorem numbers_stops (n : Nat) (hn : 4 ≤ n) (Bn n₀ : Nat) (A : Option Addr) (c : Nat) (b : List Int) (ho : okB b) (hc : b.length ≤ c) (hlen : b.length ≤ 4611686018427387904)
    (W0 : World) (hR : Kd.C (Kd.int .u8) W0 A b.length b) (hn0 : W0.heap.size ≤ n₀) (w : World) (hW0 : Below W0.heap.size W0 w) (hnw : n₀ ≤ w.heap.size) (hB : Boxed w Bn 29 (.slice A b.length c)) :
    SeqStopsK Fence.wide n Try.prog 63 #[.pointer (some ⟨Bn, 0, none⟩)] enc2 (KpB n₀ Bn) (fun ys => ys = seqP b.length b 0) (fun pre => pre <+: seqP b.length b 0) b.length w := fun l J Jx W hW hJ _ hY h0 =>
  numbers1_in n hn l Bn n₀ A c b ho hc hlen J Jx W.heap.size hJ hY W0 hR hn0 W (hW0.trans (hW.mono hW0.size)) (Nat.le_trans hnw hW.size) ((hW.block Bn hB.lt).trans hB) h0

theorem info3 : (Try.prog.info? 3).map (fun i => (i.zero, i.size, i.bytes)) = some (some (.int .i64 0), 1, 8) := by kernel_rfl

/-- Read's results, as the call hands them back. -/
def ReadEnd (b : List Int) (w : World) (e : Ending) (w' : World) : Prop := ∃ v : Value, e = .returned (.tuple #[v, .bool (vRead b).2]) ∧ w'.ownsRow w.heap.size 3 1 v (vRead b).1.length ((vRead b).1.map (Value.int .i64)) ∧ Below w.heap.size w w'

theorem own_form {W : World} {base : Nat} {e : TypeId} {size k : Nat} {v : Value} {xs : List Value} (h : W.ownsRow base e size v k xs) : ∃ A c, v = .slice A k c := by
  rcases h.2 with ⟨rfl, h0⟩ | ⟨g, cap, cur, rfl, _⟩
  · exact ⟨none, 0, by rw [h0]⟩
  · exact ⟨_, _, rfl⟩
/-- What the loop's cells hold when pre has come. -/
def RdA (w : World) (pre : List (Int × Int)) (W : World) : Prop :=
  ∃ v, Boxed W w.heap.size 52 v ∧ W.ownsRow w.heap.size 3 1 v pre.length (pre.map (fun p : Int × Int => Value.int .i64 p.1)) ∧ True
def RdB (w : World) (sv : Value) (pre : List (Int × Int)) (W : World) : Prop :=
  Boxed W (w.heap.size + 1) 4 (.bool true) ∧ Boxed W (w.heap.size + 1 + 1) 29 sv ∧ (∀ p ∈ pre, p.2 ≠ -1) ∧ pre.length ≤ 400
def RdX (w : World) (cd : Code) (pre : List (Int × Int)) (W : World) : Prop :=
  Boxed W (w.heap.size + 1) 4 (.bool false) ∧ cd = .exit 0 ∧ ((∃ p ∈ pre, p.2 = -1) ∨ 400 < pre.length)
theorem box_kept {X Y : World} {row : Option Nat} {B : Nat} {t : TypeId} {v : Value} (h : Boxed X B t v) (hg : X.grownBy Y row) (hrow : ∀ r, row = some r → ∃ o : Obj, X.heap[r]? = some o ∧ o.isCells = false) : Boxed Y B t v :=
  h.kept hg (fun e => by
    obtain ⟨o, ho, hc⟩ := hrow B e.symm
    rw [show X.heap[B]? = _ from h] at ho
    cases ho
    cases hc)
theorem RdA_own (w : World) : Own (RdA w) := holdsRow_own w.heap.size w.heap.size 52 3 1 (fun pre : List (Int × Int) => pre.length) (fun pre => pre.map (fun p : Int × Int => Value.int .i64 p.1)) (fun _ _ => True)
theorem RdB_own (w : World) (sv : Value) : Own (RdB w sv) := fun s X Y row hs hg hr => ⟨box_kept hs.1 hg hr, box_kept hs.2.1 hg hr, hs.2.2⟩
theorem RdX_own (w : World) (cd : Code) : Own (RdX w cd) := fun s X Y row hs hg hr => ⟨box_kept hs.1 hg hr, hs.2⟩

set_option maxRecDepth 100000 in
set_option maxHeartbeats 4000000 in
theorem read_in (n : Nat) (hn : 6 ≤ n) (A : Option Addr) (c : Nat) (b : List Int) (ho : okB b) (hc : b.length ≤ c) (hlen : b.length ≤ 140737488355328) (w : World) (hR : Kd.C (Kd.int .u8) w A b.length b) :
    CallsIn Fence.wide n Try.prog 41 #[.slice A b.length c] w (ReadEnd b w) := by
  have h1 : 1 ≤ n := by omega
  obtain ⟨i0, hi, hz0, hz1, hz2⟩ := info_parts info3
  refine callsIn_of_wp_marks Try.func41 rfl trivial ?_ rfl
  simp only [Try.ntmps41, List.size_toArray, List.length_cons, List.length_nil, Nat.reduceAdd, Nat.reduceSub, Array.replicate_succ, Array.replicate_zero, List.push_toArray, List.append_toArray, List.nil_append, List.cons_append]
  have hfn : Fence.wide.fn 55 := trivial
  gi_wp2_with (fail)
  refine wpIn_wide.2 (wp_scope_straight ((wpIn_wide (n := n)).1 ?_))
  gi_wp2_with (fail)
  refine wpIn_label ?_
  gi_wp2_with (fail)
  refine (numbers_in (n - 1) _ _ A b.length c rfl).mono ?_
  rintro e w' ⟨rfl, rfl⟩
  gi_wp2_with (fail)
  have bO := Boxed.new w 52 (.slice none 0 0)
  have bI := Boxed.new (w.alloc (.cells #[.slice none 0 0] 52)) 4 (.bool true)
  have bN := Boxed.new ((w.alloc (.cells #[.slice none 0 0] 52)).alloc (.cells #[.bool true] 4)) 29 (.slice A b.length c)
  rw [World.size_alloc] at bI
  rw [World.size_alloc, World.size_alloc] at bN
  have hB0 : Below w.heap.size w (((w.alloc (.cells #[.slice none 0 0] 52)).alloc (.cells #[.bool true] 4)).alloc (.cells #[.slice A b.length c] 29)) := (((Below.refl _ w).alloc (Nat.le_refl _) _).alloc (by simp) _).alloc (by simp; omega) _
  refine wpIn_rangeFunc_ownG rfl h1 (gf := 63) (lb := #[.pointer (some ⟨w.heap.size + 1 + 1, 0, none⟩)]) rfl trivial (enters_of Try.func63 (by kernel_rfl) rfl)
    (numbers_stops (n - 1) (by omega) (w.heap.size + 1 + 1) w.heap.size A c b ho hc (by omega) w hR (Nat.le_refl _) _ hB0 (by simp; omega) bN) KpB.t (KpB.b (by simp; omega) (by simp)) (Below.refl _ _) (fun _ => rfl)
    (fun pre W => (RdA w pre W ∧ RdB w (.slice A b.length c) pre W) ∧ Below w.heap.size w W)
    (fun cd pre W => RdX w cd pre W ∧ Below w.heap.size w W)
    (OwnFrom.and (OwnFrom.and (Own.from (RdA_own w) _) (Own.from (RdB_own w _) _)) (ownFrom_below (Nat.le_refl _) (by simp; omega)))
    (fun cd => OwnFrom.and (Own.from (RdX_own w cd) _) (ownFrom_below (Nat.le_refl _) (by simp; omega)))
    ⟨⟨⟨_, (bO.alloc _).alloc _, World.ownsRow_nil _ _ _ _, trivial⟩, bI.alloc _, bN, by simp, by simp⟩, hB0⟩
    (fun x => { tmps := #[.slice A b.length c, undef, .slice none 0 0, .bool false, .pointer (some ⟨w.heap.size, 0, none⟩), .pointer (some ⟨w.heap.size + 1, 0, none⟩), .int .i64 x.1, .int .i64 x.2, .slice A b.length c, .func (.func 63) #[] #[.pointer (some ⟨w.heap.size + 1 + 1, 0, none⟩)], .int .i64 x.1, .int .i64 x.2, undef, undef, undef, undef, undef, undef, undef, undef, undef, undef, undef, undef, undef, undef], defers := [] }) ?assign ?body ?done ?stop
  case assign =>
    intro l x W K hK
    gi_wp2
    exact hK
  case body =>
    rintro l pre x W ⟨⟨⟨v, hv, hrow, _⟩, hbI, hbN, hall, h400⟩, hB⟩ hlt
    obtain ⟨A', c', rfl⟩ := own_form hrow
    have hc1 := hv.cell
    have hf1 := hv.frozen
    have hc2 := hbI.cell
    have hf2 := hbI.frozen
    have hx1 : (pre ++ [x]).length = pre.length + 1 := by simp
    have hX1 := Lib.hid hx1
    clear hx1
    obtain ⟨n1, e1⟩ := x
    by_cases he : e1 = -1
    · subst he
      gi_wp2
      exact ⟨(KeepsOthers.setCell _ _ _).from _, ⟨hbI.set _, rfl, .inl ⟨(n1, -1), by simp, rfl⟩⟩, hB.setCell (p := ⟨w.heap.size + 1, 0, none⟩) (by simp) _⟩
    · have he' : (e1 == -1) = false := by simpa using he
      have HE := Lib.hid he
      clear he
      by_cases h4 : pre.length = 400
      · have H4 := Lib.hid h4
        gi_wp2
        exact ⟨(KeepsOthers.setCell _ _ _).from _, ⟨hbI.set _, rfl, .inr (by have := H4.out; have := hX1.out; omega)⟩, hB.setCell (p := ⟨w.heap.size + 1, 0, none⟩) (by simp) _⟩
      · have h4' : ((pre.length : Int) == 400) = false := by simp; omega
        have H4 := Lib.hid h4
        clear h4
        gi_wp2_with (gi_at_builtin; refine wpListIn_append_own _ rfl _ _ 52 rfl w.heap.size 3 i0 (.int .i64 0) 1 8 Try.underlying52 hi hz0 hz1 hz2 rfl (by decide) _ _ _ rfl (hrow.alloc _) ⟨W.heap.size, 0, none⟩ 1 1 [.int .i64 n1] rfl rfl (cell_one_new _ _ _) (by simp [Value.oneCell']) (by unfold maxLen; omega) (by omega) (by have := hB.size; simp; omega) ?_; intro v' w1 hown' hgrow _; obtain ⟨g', cap', rfl⟩ := ownsRow_succ hown'; obtain ⟨hv1, hv2, hr2, hk2, hb2⟩ := hv.appended (by decide) hrow hB.size (Nat.le_refl _) hown' hgrow; have hc3 := hv1.cell; have hf3 := hv1.frozen)
        have hbN1 := (hbN.alloc (.cells #[.int .i64 n1] 3)).kept hgrow ((hbN.alloc (.cells #[.int .i64 n1] 3)).not_row (by decide) (hrow.alloc _))
        have hbI1 := (hbI.alloc (.cells #[.int .i64 n1] 3)).kept hgrow ((hbI.alloc (.cells #[.int .i64 n1] 3)).not_row (by decide) (hrow.alloc _))
        have hbN2 : Boxed (w1.setCell ⟨w.heap.size, 0, none⟩ (.slice (some ⟨g', 0, none⟩) (pre.length + 1) cap')) (w.heap.size + 1 + 1) 29 (.slice A b.length c) := (Below.heap_setCell w1 _ _ _ (by simp; omega)).trans hbN1
        have hbI2 : Boxed (w1.setCell ⟨w.heap.size, 0, none⟩ (.slice (some ⟨g', 0, none⟩) (pre.length + 1) cap')) (w.heap.size + 1) 4 (.bool true) := (Below.heap_setCell w1 _ _ _ (by simp)).trans hbI1
        have hXX := hX1.out
        refine ⟨hk2.from _, ⟨hb2, hbN2.trans hbN.symm⟩, ⟨⟨_, hv2, by rw [hXX]; simpa using hr2, trivial⟩, hbI2, hbN2, ?_, ?_⟩, hB.trans hb2⟩
        · intro p hp
          rcases List.mem_append.1 hp with hp | hp
          · exact hall p hp
          · rw [List.mem_singleton.1 hp]
            exact HE.out
        · have := H4.out
          omega
  case done =>
    rintro D ys W hD rfl ⟨⟨⟨v, hv, hrow, _⟩, hbI, hbN, hall, h400⟩, hB⟩ hK
    have hc1 := hv.cell
    have hc2 := hbI.cell
    have hv2 : vRead b = ((seqP b.length b 0).map (·.1), true) := by rw [vRead_seq, if_pos ⟨hall, h400⟩]
    have HV := Lib.hid hv2
    clear hv2
    gi_wp2
    refine ⟨by simp, .inl ⟨_, _, rfl, run_takeDeferred hK, ?_⟩⟩
    exact ⟨_, results_tmp2 (fn := Try.f41) (t := 2) (u := 3) rfl _ _ _, v, by rw [HV.out]; rfl, by rw [HV.out]; simpa [Function.comp_def] using ownsRow_putObj hrow _ hK rfl, hB.trans (belowK_b (w := w) (Nat.le_refl _) W D _ _ (by simp at hD; omega) hK rfl rfl)⟩
  case stop =>
    rintro D cd pre W hD hpre ⟨⟨hbI, rfl, hx⟩, hB⟩ hK
    have hc2 := hbI.cell
    have hv2 : vRead b = ([], false) := by
      rw [vRead_seq, if_neg]
      rintro ⟨g1, g2⟩
      rcases hx with ⟨p, hp, hp1⟩ | hx
      · exact g1 p (hpre.subset hp) hp1
      · have := hpre.length_le
        omega
    have HV := Lib.hid hv2
    clear hv2 hx
    gi_wp2
    refine ⟨by simp, .inl ⟨_, _, rfl, run_takeDeferred hK, ?_⟩⟩
    exact ⟨_, results_tmp2 (fn := Try.f41) (t := 2) (u := 3) rfl _ _ _, .slice none 0 0, by rw [HV.out]; rfl, by rw [HV.out]; exact World.ownsRow_nil _ _ _ _, hB.trans (belowK_b (w := w) (Nat.le_refl _) W D _ _ (by simp at hD; omega) hK rfl rfl)⟩

end Go.Proofs.Ytiopafdndlodoaa.H
