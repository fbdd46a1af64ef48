import Derived.Test.YtnicndnbloohhaaRecG
import Derived.Test.YtnicndnbloohhaaRangeG
import Derived.Test.YtnicndnbloohhaaMoorRecG
import Derived.TacticsInMore
import Derived.LoopNIn
import Derived.LoopIn
import Derived.OwnWalkIn
import Derived.Shelf.Abstract
import Derived.Shelf.RegionOpen
/-! Layer 5: records' closure, walked. -/
namespace Go.Proofs.Ytnicndnbloohhaa.H
open Go.RowKit Go.Shelf Moor Go.Proofs.YtnicndnbloohhaaW.PrintWords Go.Proofs.YtnicndnbloohhaaW.PrintLast Go.Proofs.YtnicndnbloohhaaW.PrintMore
set_option linter.unusedVariables false
set_option linter.unusedSimpArgs false
attribute [local go_sem] Oper.semAt_some

/-! ### what a step leaves as it was -/
structure Fr (ex : Nat → Prop) (W W' : World) : Prop where
  os : W'.os = W.os
  tape : W'.tape = W.tape
  output : W'.output = W.output
  size : W.heap.size ≤ W'.heap.size
  block : ∀ k, k < W.heap.size → ¬ ex k → W'.heap[k]? = W.heap[k]?
theorem Fr.grown {W W' : World} {row : Option Nat} (h : W.grownBy W' row) : Fr (fun k => row = some k) W W' := ⟨h.os, h.tape, h.output, h.size, fun k hk hn => h.block k hk (fun e => hn e.symm)⟩
theorem Fr.below {W W' : World} (h : Below W.heap.size W W') (ex : Nat → Prop) : Fr ex W W' := ⟨h.os, h.tape, h.output, h.size, fun k hk _ => h.block k hk⟩
theorem Fr.trans {ex : Nat → Prop} {A B C : World} (h : Fr ex A B) (k : Fr ex B C) : Fr ex A C := ⟨k.os.trans h.os, k.tape.trans h.tape, k.output.trans h.output, Nat.le_trans h.size k.size, fun i hi hn => (k.block i (Nat.lt_of_lt_of_le hi h.size) hn).trans (h.block i hi hn)⟩
theorem Fr.mono {ex ex' : Nat → Prop} {A B : World} (h : Fr ex A B) (hs : ∀ k, k < A.heap.size → ex k → ex' k) : Fr ex' A B := ⟨h.os, h.tape, h.output, h.size, fun k hk hn => h.block k hk (fun e => hn (hs k hk e))⟩
theorem Fr.setCell (W : World) (b o : Nat) (v : Value) : Fr (fun k => k = b) W (W.setCell ⟨b, o, none⟩ v) := ⟨rfl, rfl, rfl, (KeepsWalks.setCell W _ v).size, fun k _ hk => Below.heap_setCell _ _ _ k hk⟩
theorem Fr.boxed {ex : Nat → Prop} {W W' : World} {B : Nat} {t : TypeId} {v : Value} (h : Fr ex W W') (hb : Boxed W B t v) (hn : ¬ ex B) : Boxed W' B t v := (h.block B hb.lt hn).trans hb
theorem Fr.boxR {ex : Nat → Prop} {W W' : World} {B : Nat} {x y : Value} (h : Fr ex W W') (hb : BoxR W B x y) (hn : ¬ ex B) : BoxR W' B x y := (h.block B (blk_lt hb) hn).trans hb
theorem Fr.row {ex : Nat → Prop} {W W' : World} {base : Nat} {e : TypeId} {size n : Nat} {v : Value} {xs : List Value} (h : Fr ex W W') (hr : W.ownsRow base e size v n xs) (hn : ∀ k, v.ownBlock = some k → ¬ ex k) : W'.ownsRow base e size v n xs := by
  obtain ⟨hl, hv | ⟨g, cap, cur, rfl, h1, h2, h3, h4, h5, h6⟩⟩ := hr
  · exact ⟨hl, .inl hv⟩
  · exact ⟨hl, .inr ⟨g, cap, cur, rfl, h1, (h.block g (blk_lt h2) (hn g rfl)).trans h2, h3, h4, h5, h6⟩⟩
theorem cell_lt {w : World} {a : Addr} {v : Value} (h : w.cell? a = some v) : a.block < w.heap.size := World.block_lt_of_cell? w a h
theorem Fr.bytes {ex : Nat → Prop} {W W' : World} {A : Option Addr} {l : List Int} (h : Fr ex W W') (hC : Kd.C (Kd.int .u8) W A l.length l) (hn : 0 < l.length → ∀ ad, A = some ad → ¬ ex ad.block) : Kd.C (Kd.int .u8) W' A l.length l := by
  refine ⟨hC.1, hC.2.1, fun h0 => ?_⟩
  obtain ⟨ad, e, hc⟩ := hC.2.2 h0
  refine ⟨ad, e, fun j q hj => ?_⟩
  obtain ⟨c, hs, hK, hcell⟩ := hc j q hj
  refine ⟨c, hs, hK, fun i u hu => ?_⟩
  have h2 := hcell i u hu
  have hlt := cell_lt h2
  rw [← h2]
  refine World.cell?_of_block (w := W) (h.block _ hlt ?_)
  rw [add_blockR]
  exact hn h0 ad e

/-! ### what the loop keeps -/
structure RX where
  r : Rc
  e : Int
  A : Option Addr
  c : Nat
abbrev rawR (x : RX) : List Value := [.int .i64 x.r.kind, .slice x.A x.r.body.length x.c]
abbrev encR (x : RX) : Array Value := #[.agg #[.int .i64 x.r.kind, .slice x.A x.r.body.length x.c], .int .i64 x.e]
abbrev prX (x : RX) : Rc × Int := (x.r, x.e)
def GoodB (W : World) (x : RX) : Prop := Kd.C (Kd.int .u8) W x.A x.r.body.length x.r.body ∧ x.r.body.length ≤ x.c
def AwayB (v : Value) (m : Nat) (x : RX) : Prop := 0 < x.r.body.length → ∀ ad, x.A = some ad → v.ownBlock ≠ some ad.block ∧ m ≤ ad.block
/-- What the loop's boxes hold when pre has come. w0: the world in which Scan was called. -/
def JS (w0 : World) (sv : Value) (pre : List RX) (W : World) : Prop :=
  ∃ v, Boxed W w0.heap.size 27 v ∧ W.ownsRow w0.heap.size 24 2 v pre.length (pre.flatMap rawR) ∧ Boxed W (w0.heap.size + 1) 3 (.int .i64 (lastR 0 (pre.map prX))) ∧ Boxed W (w0.heap.size + 2) 22 sv ∧ Below w0.heap.size w0 W ∧ (∀ k, v.ownBlock = some k → w0.heap.size + 5 ≤ k) ∧
    (∀ x ∈ pre, GoodB W x ∧ AwayB v (w0.heap.size + 5) x)
theorem JS.fr {w0 : World} {sv : Value} {pre : List RX} {X Y : World} {ex : Nat → Prop} (h : JS w0 sv pre X) (hf : Fr ex X Y) (hlow : ∀ k, k < w0.heap.size + 3 → ¬ ex k) (hv : ∀ v, Boxed X w0.heap.size 27 v → ∀ k, v.ownBlock = some k → ¬ ex k)
    (hx : ∀ x ∈ pre, 0 < x.r.body.length → ∀ ad, x.A = some ad → ¬ ex ad.block) : JS w0 sv pre Y := by
  obtain ⟨v, h1, h2, h3, h4, h5, h7, h6⟩ := h
  refine ⟨v, hf.boxed h1 (hlow _ (by omega)), hf.row h2 (hv v h1), hf.boxed h3 (hlow _ (by omega)), hf.boxed h4 (hlow _ (by omega)), ⟨hf.os.trans h5.os, hf.tape.trans h5.tape, hf.output.trans h5.output, Nat.le_trans h5.size hf.size, fun k hk => (hf.block k (Nat.lt_of_lt_of_le hk h5.size) (hlow k (by omega))).trans (h5.block k hk)⟩, h7, fun x hx' => ?_⟩
  obtain ⟨⟨g1, g2⟩, g3⟩ := h6 x hx'
  exact ⟨⟨hf.bytes g1 (hx x hx'), g2⟩, g3⟩
theorem JS.below {w0 : World} {sv : Value} {pre : List RX} {X Y : World} (h : JS w0 sv pre X) (hb : Below X.heap.size X Y) : JS w0 sv pre Y :=
  h.fr (Fr.below hb (fun _ => False)) (fun _ _ h => h) (fun _ _ _ _ h => h) (fun _ _ _ _ _ h => h)
/-- Blocks that are no cells are none of the loop's. -/
theorem JS.own {w0 : World} {sv : Value} : OwnFrom (w0.heap.size + 3) (JS w0 sv) := by
  intro pre X Y row h hg hr
  refine h.fr (Fr.grown hg) (fun k hk e => ?_) (fun v hv k hk e => ?_) (fun x hx h0 ad had e => ?_)
  · have := (hr k e).1; omega
  · obtain ⟨o, ho, hc⟩ := (hr k e).2
    obtain ⟨v', h1, h2, _⟩ := h
    have hvv : v' = v := by
      have e1 := h1.cell
      have e2 := hv.cell
      rw [e1] at e2
      exact Option.some.inj e2
    subst hvv
    obtain ⟨_, ⟨rfl, _⟩ | ⟨g, cap, cur, rfl, _, hgb, _⟩⟩ := h2
    · cases hk
    · have hgk : g = k := by simpa [Value.ownBlock] using hk
      subst hgk
      rw [hgb] at ho
      cases ho
      cases hc
  · obtain ⟨o, ho, hc⟩ := (hr _ e).2
    obtain ⟨v', _, _, _, _, _, _, h6⟩ := h
    obtain ⟨⟨g1, _⟩, _⟩ := h6 x hx
    obtain ⟨ad', e', hcell⟩ := g1.2.2 h0
    rw [had] at e'
    cases e'
    obtain ⟨c, hs, hK, hcl⟩ := hcell 0 _ (List.getElem?_eq_getElem h0)
    have hcc : c = [.int .u8 x.r.body[0]] := hK
    subst hcc
    have h7 := hcl 0 _ rfl
    have h8 : (ad.add (0 * (Kd.int .u8).sz + 0)) = ad := by rw [Nat.zero_mul, Nat.add_zero, add_zeroR]
    rw [h8] at h7
    unfold World.cell? at h7
    rw [ho] at h7
    cases o <;> simp_all [Obj.isCells]

theorem C_lt {W : World} {A : Option Addr} {l : List Int} (hC : Kd.C (Kd.int .u8) W A l.length l) (h0 : 0 < l.length) {ad : Addr} (had : A = some ad) : ad.block < W.heap.size := by
  obtain ⟨ad', e', hcell⟩ := hC.2.2 h0
  rw [had] at e'
  cases e'
  obtain ⟨c, hs, hK, hcl⟩ := hcell 0 _ (List.getElem?_eq_getElem h0)
  have hcc : c = [.int .u8 l[0]] := hK
  subst hcc
  have h7 := hcl 0 _ rfl
  have h8 : (ad.add (0 * (Kd.int .u8).sz + 0)) = ad := by rw [Nat.zero_mul, Nat.add_zero, add_zeroR]
  rw [h8] at h7
  exact cell_lt h7
def NxS (w0 : World) (sv : Value) (pre : List RX) (x : RX) (W1 W' : World) : Prop :=
  JS w0 sv (pre ++ [x]) W' ∧ Fr (fun k => k = w0.heap.size ∨ k = w0.heap.size + 1 ∨ k = w0.heap.size + 4 ∨ ∃ v, Boxed W1 w0.heap.size 27 v ∧ v.ownBlock = some k) W1 W' ∧
    (∀ v', Boxed W' w0.heap.size 27 v' → ∀ k, k < W1.heap.size → v'.ownBlock = some k → ∃ v, Boxed W1 w0.heap.size 27 v ∧ v.ownBlock = some k)
def GdS (w0 : World) (x : RX) (W1 : World) : Prop := GoodB W1 x ∧ (0 < x.r.body.length → ∀ ad, x.A = some ad → (∀ v, Boxed W1 w0.heap.size 27 v → v.ownBlock ≠ some ad.block) ∧ w0.heap.size + 5 ≤ ad.block)
theorem boxed_one {W : World} {B : Nat} {t : TypeId} {v v' : Value} (h : Boxed W B t v) (h' : Boxed W B t v') : v = v' := by
  have e1 := h.cell
  have e2 := h'.cell
  rw [e1] at e2
  exact Option.some.inj e2
theorem JS.lt {w0 : World} {sv : Value} {pre : List RX} {X : World} (h : JS w0 sv pre X) : ∀ v, Boxed X w0.heap.size 27 v → ∀ k, v.ownBlock = some k → k < X.heap.size := by
  intro v hv k hk
  obtain ⟨v', h1, h2, _⟩ := h
  obtain rfl := boxed_one h1 hv
  exact (h2.lt k hk).2
theorem recGet_in2 (n : Nat) (A : Option Addr) (c : Nat) (l : List Int) (a : Int) (w : World) (hR : Kd.C (Kd.int .u8) w A l.length l) (hc : l.length ≤ c) (ho : okB l) (hl : l.length ≤ 140737488355328) :
    CallsIn Fence.wide n Try.prog 14 #[.slice A l.length c, .int .i64 a] w (RecEnd (rGet l a) w) := callsIn_wide.2 (recGet_calls A c l a w hR hc ho hl)
theorem BoxR.seta {W : World} {B0 : Nat} {x y : Value} (h : BoxR W B0 x y) (x' : Value) : BoxR (W.setCell ⟨B0, 0, none⟩ x') B0 x' y := by
  obtain ⟨hlt, hk⟩ := Array.getElem?_eq_some_iff.1 h
  show (W.heap.modify B0 _)[B0]? = _
  rw [Array.getElem?_eq_getElem (by rw [Array.size_modify]; exact hlt), Array.getElem_modify_self, hk]
  rfl
theorem BoxR.setb {W : World} {B0 : Nat} {x y : Value} (h : BoxR W B0 x y) (y' : Value) : BoxR (W.setCell ⟨B0, 1, none⟩ y') B0 x y' := by
  obtain ⟨hlt, hk⟩ := Array.getElem?_eq_some_iff.1 h
  show (W.heap.modify B0 _)[B0]? = _
  rw [Array.getElem?_eq_getElem (by rw [Array.size_modify]; exact hlt), Array.getElem_modify_self, hk]
  rfl
theorem BoxR.set2 {W : World} {B0 : Nat} {x y : Value} (h : BoxR W B0 x y) (x' y' : Value) : BoxR ((W.setCell ⟨B0, 0, none⟩ x').setCell ⟨B0, 1, none⟩ y') B0 x' y' := (h.seta x').setb y'
def mS (n : Nat) (p q : Int) : Nat := if q = 0 then n + 1 - p.toNat else 0
/-- What the loop in records' closure keeps: the record that is at hand. -/
def PendS (w0 : World) (B3 : Nat) (r : Rc × Int × Int) (pre : List RX) (A' : Option Addr) (c' : Nat) (W : World) : Prop :=
  BoxR W B3 (.int .i64 r.1.kind) (.slice A' r.1.body.length c') ∧ GdS w0 ⟨r.1, r.2.1, A', c'⟩ W ∧ (0 < r.1.body.length → ∀ ad, A' = some ad → ad.block ≠ B3) ∧ (∀ v, Boxed W w0.heap.size 27 v → v.ownBlock ≠ some B3) ∧ (∀ x ∈ pre, 0 < x.r.body.length → ∀ ad, x.A = some ad → ad.block ≠ B3)

set_option maxRecDepth 100000 in
set_option maxHeartbeats 8000000 in
theorem records1_in (n : Nat) (hn : 4 ≤ n) (w0 : World) (A : Option Addr) (c : Nat) (b : List Int) (ho : okB b) (hc : b.length ≤ c) (hlen : b.length ≤ 140737488355328) (hR : Kd.C (Kd.int .u8) w0 A b.length b)
    (RA : World → Prop) (hRA : ∀ W W', RA W → (∀ k, w0.heap.size + 3 ≤ k → k ≤ w0.heap.size + 3 + 1 → W'.heap[k]? = W.heap[k]?) → RA W')
    (W : World) (hRW : RA W) (h0 : JS w0 (.slice A b.length c) [] W) (hsz : W.heap.size = w0.heap.size + 3 + 2)
    (hY : ∀ (pre : List RX) x W1, JS w0 (.slice A b.length c) pre W1 → RA W1 → GdS w0 x W1 ∧ pre.length ≤ b.length → YieldAt Fence.wide (n - 1) Try.prog (w0.heap.size + 3 + 1) (encR x) W1 fun e W' => e = .returned (.bool true) ∧ RA W' ∧ NxS w0 (.slice A b.length c) pre x W1 W') :
    CallsIn Fence.wide n Try.prog 46 #[.func (.yield (w0.heap.size + 3 + 1)) #[] #[], .pointer (some ⟨w0.heap.size + 2, 0, none⟩)] W fun e W' => (∃ v, e = .returned v) ∧ RA W' ∧ ∃ xs : List RX, xs.map prX = seqR (b.length + 1) b 0 ∧ JS w0 (.slice A b.length c) xs W' := by
  have hbn : Boxed W (w0.heap.size + 2) 22 (.slice A b.length c) := by obtain ⟨v, _, _, _, h4, _⟩ := h0; exact h4
  have hbl : Below w0.heap.size w0 W := by obtain ⟨v, _, _, _, _, h5, _⟩ := h0; exact h5
  have hbc := hbn.cell
  have HJ0 := Lib.hid h0
  clear h0 hbn
  refine callsIn_of_wp Try.func46 rfl trivial ?_ rfl
  simp only [Try.ntmps46, List.size_toArray, List.length_cons, List.length_nil, Nat.reduceAdd, Nat.reduceSub, Array.replicate_succ, Array.replicate_zero, List.push_toArray, List.append_toArray, List.nil_append, List.cons_append]
  gi_wp2_with (fail)
  refine ⟨trivial, fun _ => by omega, (recGet_in2 (n - 1) A c b 0 W (Kd.C_below hR hbl) hc ho hlen).mono ?_⟩
  rintro e w1 ⟨A1, c1, rfl, hc1, hC1, hb1, hf1⟩
  have bR1 := BoxR.new w1 (.int .i64 (rGet b 0).1.kind) (.slice A1 (rGet b 0).1.body.length c1)
  have hf0 : Fr (fun _ => False) W (w1.alloc (.cells #[.int .i64 (rGet b 0).1.kind, .slice A1 (rGet b 0).1.body.length c1] 24)) := (Fr.below hb1 _).trans (Fr.below (below_alloc (Below.refl _ _) _) _)
  have hRA1 : RA (w1.alloc (.cells #[.int .i64 (rGet b 0).1.kind, .slice A1 (rGet b 0).1.body.length c1] 24)) := hRA W _ hRW (fun k hk1 hk2 => hf0.block k (by omega) (fun h => h))
  have hJ1 : JS w0 (.slice A b.length c) [] (w1.alloc (.cells #[.int .i64 (rGet b 0).1.kind, .slice A1 (rGet b 0).1.body.length c1] 24)) := HJ0.out.fr hf0 (fun _ _ h => h) (fun _ _ _ _ h => h) (fun _ _ _ _ _ h => h)
  have hlt0 := HJ0.out.lt
  have hP1 : PendS w0 w1.heap.size (rGet b 0) [] A1 c1 (w1.alloc (.cells #[.int .i64 (rGet b 0).1.kind, .slice A1 (rGet b 0).1.body.length c1] 24)) := by
    have hsz1 := hb1.size
    have hold : ∀ v, Boxed (w1.alloc (.cells #[.int .i64 (rGet b 0).1.kind, .slice A1 (rGet b 0).1.body.length c1] 24)) w0.heap.size 27 v → Boxed W w0.heap.size 27 v := by
      intro v hv
      obtain ⟨v', h1, _⟩ := HJ0.out
      have := hf0.boxed h1 (fun h => h)
      obtain rfl := boxed_one this hv
      exact h1
    refine ⟨bR1, ⟨⟨Kd.C_alloc hC1 _, hc1⟩, fun hp ad had => ⟨fun v hv e => ?_, ?_⟩⟩, fun hp ad had e => ?_, fun v hv e => ?_, fun x hx => by cases hx⟩
    · have h1 := hlt0 v (hold v hv) _ e
      have h2 := hf1 ad had
      omega
    · have h2 := hf1 ad had
      show w0.heap.size + 5 ≤ ad.block
      omega
    · have h1 := C_lt hC1 hp had
      omega
    · have h1 := hlt0 v (hold v hv) _ e
      omega
  have hsq := Lib.hid (show seqR (b.length + 1) b 0 = ([] : List RX).map prX ++ seqR (b.length + 1) b 0 from rfl)
  have hB3 : w0.heap.size + 5 ≤ w1.heap.size := by have := hb1.size; omega
  clear hbc hf0 bR1 hlt0 hf1 hC1 hc1 HJ0 hb1 hbl hRW
  gi_wp2_with (fail)
  generalize hBB : w1.heap.size = B3 at *
  generalize w1.alloc (.cells #[.int .i64 (rGet b 0).1.kind, .slice A1 (rGet b 0).1.body.length c1] 24) = w2 at *
  clear hBB
  gi_loopw [4, 5] (fun p q wr => ∃ (pre : List RX) (a f : Nat) (A' : Option Addr) (c' : Nat), p = .int .i64 (rGet b (a : Int)).2.1 ∧ q = .int .i64 (rGet b (a : Int)).2.2 ∧ a ≤ b.length ∧ b.length - a < f ∧ pre.length + f ≤ b.length + 1 ∧ Hid (seqR (b.length + 1) b 0 = pre.map prX ++ seqR f b a) ∧ JS w0 (.slice A b.length c) pre wr ∧ RA wr ∧ PendS w0 B3 (rGet b (a : Int)) pre A' c' wr)
    (fun p q wr => mS b.length (intOf p) (intOf q))
  case atStart => exact ⟨[], 0, b.length + 1, A1, c1, rfl, rfl, by omega, by omega, by simp, hsq, hJ1, hRA1, hP1⟩
  case round =>
    obtain ⟨pre, a, f, A', c', rfl, rfl, ha, hf, hpl, hs, hJs, hRs, hP⟩ := hrel
    have HS := seqR_step ho ha hf
    obtain ⟨bR, hGd, hA3, hv3, hx3⟩ := hP
    have hG : GdS w0 ⟨(rGet b (a : Int)).1, (rGet b (a : Int)).2.1, A', c'⟩ wr := hGd
    generalize hgg : rGet b (a : Int) = g at *
    obtain ⟨r, en, er⟩ := g
    dsimp only at *
    have r0 := bR.c0
    have r1 := bR.c1
    have BR := Lib.hid bR
    have HSH := Lib.hid HS
    clear bR HS
    by_cases her : er = 0
    · subst her
      obtain ⟨-, a', rfl, ha1, ha2, g', rfl, hf', hseq⟩ : (0 : Int) = 0 ∧ ∃ a' : Nat, en = (a' : Int) ∧ a < a' ∧ a' ≤ b.length ∧ ∃ g, f = g + 1 ∧ b.length - a' < g ∧ seqR f b a = (r, en) :: seqR g b a' := by
        rcases HSH.out with h | h
        · exact h
        · exact absurd rfl h.1
      have HSQ := Lib.hid hseq
      clear hseq HSH
      obtain ⟨fn, tmps, assign, body, hy, hRd⟩ := hY pre ⟨r, (a' : Int), A', c'⟩ wr hJs hRs ⟨hG, by omega⟩
      have hB3w : B3 < wr.heap.size := blk_lt BR.out
      gi_wp2_with (fail)
      refine ⟨fun _ => by omega, hRd.mono ?_⟩
      rintro e W3 ⟨rfl, hRA3, hJ3, hF3, hO3⟩
      have bR3 := hF3.boxR BR.out (by
        rintro (h | h | h | ⟨v, h1, h2⟩)
        · omega
        · omega
        · omega
        · exact hv3 v h1 h2)
      have hbn3 : Boxed W3 (w0.heap.size + 2) 22 (.slice A b.length c) := by obtain ⟨v, _, _, _, h4, _⟩ := hJ3; exact h4
      have hbl3 : Below w0.heap.size w0 W3 := by obtain ⟨v, _, _, _, _, h5, _⟩ := hJ3; exact h5
      have hc3 := hbn3.cell
      have hsz3 := hF3.size
      have hv3' : ∀ v, Boxed W3 w0.heap.size 27 v → v.ownBlock ≠ some B3 := fun v h1 h2 => by
        obtain ⟨v0, g1, g2⟩ := hO3 v h1 B3 hB3w h2
        exact hv3 v0 g1 g2
      have hlt3 := hJ3.lt
      clear hy hRd r0 r1
      gi_wp2_with (fail)
      refine ⟨trivial, fun _ => by omega, (recGet_in2 (n - 1) A c b (a' : Int) W3 (Kd.C_below hR hbl3) hc ho hlen).mono ?_⟩
      rintro e W4 ⟨A4, c4, rfl, hc4, hC4, hb4, hf4⟩
      have bR4 := bR3.below hb4
      have k0 := bR4.c0
      have k1 := bR4.c1
      have k2 := bR4.f 0
      have k3 := bR4.f 1
      have hF5 : Fr (fun k => k = B3) W4 ((W4.setCell ⟨B3, 0, none⟩ (.int .i64 (rGet b (a' : Int)).1.kind)).setCell ⟨B3, 1, none⟩ (.slice A4 (rGet b (a' : Int)).1.body.length c4)) := (Fr.setCell _ _ _ _).trans (Fr.setCell _ _ _ _)
      have bR5 := bR4.set2 (.int .i64 (rGet b (a' : Int)).1.kind) (.slice A4 (rGet b (a' : Int)).1.body.length c4)
      have hback : ∀ v, Boxed ((W4.setCell ⟨B3, 0, none⟩ (.int .i64 (rGet b (a' : Int)).1.kind)).setCell ⟨B3, 1, none⟩ (.slice A4 (rGet b (a' : Int)).1.body.length c4)) w0.heap.size 27 v → Boxed W3 w0.heap.size 27 v := fun v hv => by
        have hJ3' := hJ3
        obtain ⟨v', h1, _⟩ := hJ3'
        have h2 : Boxed W4 w0.heap.size 27 v' := (hb4.block _ h1.lt).trans h1
        obtain rfl := boxed_one (hF5.boxed h2 (by omega)) hv
        exact h1
      have hxp : ∀ x ∈ pre ++ [⟨r, (a' : Int), A', c'⟩], 0 < x.r.body.length → ∀ ad, x.A = some ad → ad.block ≠ B3 := fun x hx => by
        rcases List.mem_append.1 hx with hx | hx
        · exact hx3 x hx
        · obtain rfl := List.mem_singleton.1 hx
          exact hA3
      have hfar : ∀ ad, A4 = some ad → ad.block ≠ B3 := fun ad had e => by
        have := hf4 ad had
        omega
      have HJ5 := Lib.hid (show JS w0 (.slice A b.length c) (pre ++ [⟨r, (a' : Int), A', c'⟩]) _ from (hJ3.below hb4).fr hF5 (fun k hk e => by omega) (fun v hv k hk e => by
        subst e
        exact hv3' v (hback v (hF5.boxed hv (by omega))) hk) hxp)
      have HR5 := Lib.hid (show RA ((W4.setCell ⟨B3, 0, none⟩ (.int .i64 (rGet b (a' : Int)).1.kind)).setCell ⟨B3, 1, none⟩ (.slice A4 (rGet b (a' : Int)).1.body.length c4)) from hRA W3 _ hRA3 (fun k hk1 hk2 => (hF5.block k (by have := hb4.size; omega) (by omega)).trans (hb4.block k (by omega))))
      have HP5 := Lib.hid (show PendS w0 B3 (rGet b (a' : Int)) (pre ++ [⟨r, (a' : Int), A', c'⟩]) A4 c4 ((W4.setCell ⟨B3, 0, none⟩ (.int .i64 (rGet b (a' : Int)).1.kind)).setCell ⟨B3, 1, none⟩ (.slice A4 (rGet b (a' : Int)).1.body.length c4)) from
        ⟨bR5, ⟨⟨hF5.bytes hC4 (fun _ ad had => hfar ad had), hc4⟩, fun hp ad had => ⟨fun v hv e => by
          have h1 := hlt3 v (hback v hv) _ e
          have h2 := hf4 ad had
          omega, by
          have h2 := hf4 ad had
          show w0.heap.size + 5 ≤ ad.block
          omega⟩⟩, fun _ ad had => hfar ad had, fun v hv => hv3' v (hback v hv), hxp⟩)
      have HSX := Lib.hid (show seqR (b.length + 1) b 0 = (pre ++ [(⟨r, (a' : Int), A', c'⟩ : RX)]).map prX ++ seqR g' b a' by rw [hs.out, HSQ.out]; simp)
      have hm0 := seqR_step ho ha2 hf'
      have HM := Lib.hid hm0
      clear hF5 bR5 hback hxp hfar hm0 hJ3 hO3 hv3' hlt3 hF3 hx3 hA3 hv3 hGd hG
      gi_wp2_with (fail)
      go_roundw
      case rel => exact ⟨pre ++ [⟨r, (a' : Int), A', c'⟩], a', g', A4, c4, rfl, rfl, ha2, hf', by simp; omega, HSX, HJ5.out, HR5.out, HP5.out⟩
      case measure =>
        show mS b.length (rGet b (a' : Int)).2.1 (rGet b (a' : Int)).2.2 < mS b.length (a' : Int) 0
        unfold mS
        rw [if_pos rfl]
        rcases HM.out with ⟨h1, a'', h2, h3, h4, _⟩ | ⟨h1, _⟩
        · rw [h1, if_pos rfl, h2]
          omega
        · rw [if_neg h1]
          omega
    · have heb : (er == 0) = false := by simpa using her
      have hsf : seqR f b a = [] := by
        rcases HSH.out with h | h
        · exact absurd h.1 her
        · exact h.2
      have HSF := Lib.hid hsf
      clear hsf HSH her
      gi_wp2_with (fail)
      refine ⟨(by intro f hf; exact absurd hf (by simp)), ?_⟩
      gi_wp2_with (fail)
      go_end0
      exact ⟨⟨_, rfl⟩, hRs, pre, by rw [hs.out, HSF.out, List.append_nil], hJs⟩
end Go.Proofs.Ytnicndnbloohhaa.H
