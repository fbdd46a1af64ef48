import Derived.Test.YtnicndnbloohhaaRecS
import Derived.Scope
import Derived.WalkMore
import Derived.RangeFuncLeaves
import Derived.Deep.QuietTactic
import Derived.BigQuiet
/-! Layer 5: Scan, walked. -/
namespace Go.Proofs.Ytnicndnbloohhaa.H
open Go.RowKit Go.Shelf Moor Go.Proofs.YtnicndnbloohhaaW.PrintWords Go.Proofs.YtnicndnbloohhaaW.PrintLast Go.Proofs.YtnicndnbloohhaaW.PrintMore
set_option linter.unusedVariables false
set_option linter.unusedSimpArgs false
attribute [local go_sem] Oper.semAt_some

abbrev Sr := B.S24
abbrev kR : Kd Sr := B.k24
abbrev toS (r : Rc) : Sr := ⟨r.kind, r.body⟩
/-- Scan's results, as the call hands them back. -/
def ScanEnd (b : List Int) (w : World) (e : Ending) (w' : World) : Prop := ∃ (A' : Option Addr) (c' : Nat), e = .returned (.tuple #[.slice A' (rScan b).1.length c', .int .i64 ((rScan b).2 : Int)]) ∧ (rScan b).1.length ≤ c' ∧ Kd.C kR w' A' ((rScan b).1.map toS).length ((rScan b).1.map toS) ∧ Below w.heap.size w w'

set_option maxHeartbeats 1000000 in
/-- rec.records: the bytes are boxed; the function value captures the box. -/
theorem records_in (n : Nat) (sv : Value) (w : World) (A : Option Addr) (ln c : Nat) (hsv : sv = .slice A ln c) :
    CallsIn Fence.wide n Try.prog 33 #[sv] w fun e w' => e = .returned (.func (.func 46) #[] #[.pointer (some ⟨w.heap.size, 0, none⟩)]) ∧ w' = w.alloc (.cells #[sv] 22) := by
  subst hsv
  refine callsIn_of_wp Try.func33 rfl trivial ?_ rfl
  simp only [Try.ntmps33, List.size_toArray, List.length_cons, List.length_nil, Nat.reduceAdd, Nat.reduceSub, Array.replicate_succ, Array.replicate_zero, List.push_toArray, List.append_toArray, List.nil_append, List.cons_append]
  gi_wp2
  go_ret
  exact ⟨rfl, rfl⟩

/-- The append's law, with where the new slice lies. -/
theorem wpListIn_append_at {F : Fence} {n : Nat} {P : Program} (w : World) {ops : Array Oper} {rest : List Oper} {o : Oper} {a : Act} {Q : Exit → Act → World → Prop}
    (hg : o.guard = none) (s x : Operand) (t : TypeId) (hop : o.op = Op.call { callee := Callee.builtin Builtin.append, args := #[s, x], argTypes := #[t, t] })
    (base : Nat) (e : TypeId) (i : TypeInfo) (z : Value) (size bytes : Nat) (h1 : P.underlying t = some (.slice e)) (h2 : P.info? e = some i) (h3 : i.zero = some z) (h4 : i.size = size) (h5 : i.bytes = bytes) (h6 : z.cells.size = size) (h7 : 0 < size)
    (v : Value) (k : Nat) (xs : List Value) (hs : a.eval s = v) (hown : w.ownsRow base e size v k xs) (ad : Addr) (m c : Nat) (news : List Value) (hx : a.eval x = .slice (some ad) m c) (hn : news.length = m * size)
    (hc : ∀ j u, news[j]? = some u → w.cell? (ad.add j) = some u) (h1c : ∀ u ∈ news, u.oneCell' = true) (b1 : k + m ≤ maxLen) (b2 : (k + m) * bytes ≤ 140737488355328) (b3 : base ≤ w.heap.size)
    (hK : ∀ v' w', w'.ownsRow base e size v' (k + m) (xs ++ news) → w.grownBy w' v.ownBlock → (v'.ownBlock = v.ownBlock ∨ v'.ownBlock = some w.heap.size) → wpListIn F n P ops Q rest (a.put o.dst v') w') :
    wpListIn F n P ops Q (o :: rest) a w := by
  refine wpListIn_plain hg fun K hK' => ?_
  obtain ⟨v', w', hrun, r1, r2, -, r3⟩ := run_append_own_at (P := P) w base t o.type e i z size bytes h1 h2 h3 h4 h5 h6 h7 v k xs hown ad m c news hn hc h1c b1 b2 b3
  unfold Oper.wpIn
  refine ⟨?_, ?_⟩
  · simp [Oper.about, hop, resolve, Target.leads, Sem.run_pure]
  · rw [Oper.semAt_plain F _ _ (by rw [hop]; intro c hc'; cases hc')]
    simp [execOp, hop, resolve, invoke, builtin, hs, hx, hrun, Result.andThen]
    exact hK' _ _ (hK v' w' r1 r2 r3)
theorem infoRec3 : (Try.prog.info? 24).map (fun i => (i.zero, i.size, i.bytes)) = some (some (.agg #[.int .i64 0, .slice none 0 0]), 2, 32) := by kernel_rfl
theorem own_formR {W : World} {base : Nat} {e : TypeId} {size k : Nat} {v : Value} {xs : List Value} (h : W.ownsRow base e size v k xs) : ∃ A c, v = .slice A k c := by
  rcases h.2 with ⟨rfl, h0⟩ | ⟨g, cap, cur, rfl, _⟩
  · exact ⟨none, 0, by rw [h0]⟩
  · exact ⟨_, _, rfl⟩
theorem Fr.putObj (W : World) (l : Nat) (o : Obj) : Fr (fun k => k = l) W (W.putObj l o) := (Fr.grown (grownBy_putObj' W l o)).mono (fun k _ e => by cases e; rfl)
theorem any_obj {x : Option Obj} (h : x.any (fun o => !o.isCells) = true) : ∃ o, x = some o ∧ o.isCells = false := by
  cases x with
  | none => cases h
  | some o => exact ⟨o, rfl, by simpa using h⟩
theorem flat_get : ∀ (xs : List RX) (j i : Nat) (x : RX), xs[j]? = some x → i < 2 → (xs.flatMap rawR)[j * 2 + i]? = (rawR x)[i]?
  | [], j, i, x, h, hi => by simp at h
  | y :: l, 0, i, x, h, hi => by
    obtain rfl : y = x := by simpa using h
    rw [List.flatMap_cons, List.getElem?_append_left (by simp; omega)]
    simp
  | y :: l, j + 1, i, x, h, hi => by
    have h' : l[j]? = some x := by simpa using h
    rw [List.flatMap_cons, List.getElem?_append_right (by simp; omega)]
    have : (j + 1) * 2 + i - (rawR y).length = j * 2 + i := by simp; omega
    rw [this]
    exact flat_get l j i x h' hi
theorem row_C {W : World} {base : Nat} {A' : Option Addr} {c' : Nat} {xs : List RX} (hrow : W.ownsRow base 24 2 (.slice A' xs.length c') xs.length (xs.flatMap rawR)) (hg : ∀ x ∈ xs, GoodB W x) :
    xs.length ≤ c' ∧ Kd.C kR W A' (xs.map (fun x => toS x.r)).length (xs.map (fun x => toS x.r)) := by
  have hrow0 := hrow
  obtain ⟨hl, ⟨hv, h0⟩ | ⟨g, cap, cur, hv, h1, h2, h3, h4, h5, h6⟩⟩ := hrow
  · injection hv with a1 a2 a3
    obtain rfl : xs = [] := List.length_eq_zero_iff.1 h0
    subst a1
    exact ⟨by simp, Kd.C_nil _ _⟩
  · injection hv with a1 a2 a3
    subst a1 a3
    refine ⟨h3, rfl, by rw [List.length_map]; unfold maxLen at h4; omega, fun _ => ⟨_, rfl, fun j p hj => ?_⟩⟩
    rw [List.getElem?_map] at hj
    cases hx : xs[j]? with
    | none => rw [hx] at hj; simp at hj
    | some x =>
      rw [hx] at hj
      obtain rfl : toS x.r = p := by simpa using hj
      obtain ⟨g1, g2⟩ := hg x (List.mem_of_getElem? hx)
      refine ⟨rawR x, rfl, B.k24_mk W (toS x.r) g2 g1, fun i u hu => ?_⟩
      have hi : i < 2 := by have := (List.getElem?_eq_some_iff.1 hu).1; simpa using this
      have hj2 := (List.getElem?_eq_some_iff.1 hx).1
      have hz : kR.sz = 2 := rfl
      rw [hz, add_plain, hrow0.cellAt (j * 2 + i) (by omega), flat_get xs j i x hx hi]
      exact hu
def RsS (w : World) (sv : Value) (f : RX → Nat → Array Value) (pre : List RX) (x : RX) (W1 : World) (a' : Act) (W : World) : Prop :=
  a' = { tmps := f x W1.heap.size, defers := [] } ∧ BoxR W W1.heap.size (.int .i64 x.r.kind) (.slice x.A x.r.body.length x.c) ∧ Fr (fun k => k = w.heap.size + 4) W1 W ∧ JS w sv pre W1 ∧ GdS w x W1 ∧ w.heap.size + 4 < W1.heap.size
theorem two_cells {W : World} {t : TypeId} (x : RX) : ∀ j u, (rawR x)[j]? = some u → (W.alloc (.cells #[.int .i64 x.r.kind, .slice x.A x.r.body.length x.c] t)).cell? ((⟨W.heap.size, 0, none⟩ : Addr).add j) = some u := by
  intro j u hu
  rw [add_plain, blk_cell (heap_alloc_new W _)]
  match j with
  | 0 => simpa using hu
  | 1 => simpa using hu
  | j + 2 => simp at hu
/-- What a round leaves. -/
theorem round_ends {w W1 W w1 : World} {sv : Value} {pre : List RX} {x : RX} {v v' : Value} {o : Obj} (hJ : JS w sv pre W1) (hG : GdS w x W1) (hF : Fr (fun k => k = w.heap.size + 4) W1 W) (hlt : w.heap.size + 4 < W1.heap.size)
    (hv1 : Boxed W1 w.heap.size 27 v) (hown : w1.ownsRow w.heap.size 24 2 v' (pre.length + 1) (pre.flatMap rawR ++ rawR x)) (hgrow : (W.alloc o).grownBy w1 v.ownBlock) (hat : v'.ownBlock = v.ownBlock ∨ v'.ownBlock = some (W.heap.size + 1)) :
    (∀ k, w.heap.size + 3 ≤ k → k ≤ w.heap.size + 3 + 1 → ((w1.setCell ⟨w.heap.size, 0, none⟩ v').setCell ⟨w.heap.size + 1, 0, none⟩ (.int .i64 x.e)).heap[k]? = W.heap[k]?) ∧
      NxS w sv pre x W1 ((w1.setCell ⟨w.heap.size, 0, none⟩ v').setCell ⟨w.heap.size + 1, 0, none⟩ (.int .i64 x.e)) := by
  obtain ⟨v0, j1, j2, j3, j4, j5, j7, j6⟩ := hJ
  obtain rfl := boxed_one j1 hv1
  have hsz := hF.size
  have f1 : Fr (fun k => k = w.heap.size + 4 ∨ v0.ownBlock = some k) W1 w1 := ((hF.mono (fun k _ e => .inl e)).trans (Fr.below (below_alloc (Below.refl _ W) o) _)).trans ((Fr.grown hgrow).mono (fun k _ e => .inr e))
  have f2 : Fr (fun k => k = w.heap.size ∨ k = w.heap.size + 1 ∨ k = w.heap.size + 4 ∨ v0.ownBlock = some k) W1 ((w1.setCell ⟨w.heap.size, 0, none⟩ v').setCell ⟨w.heap.size + 1, 0, none⟩ (.int .i64 x.e)) :=
    ((f1.mono (fun k _ e => .inr (.inr e))).trans ((Fr.setCell _ _ _ _).mono (fun k _ e => .inl e))).trans ((Fr.setCell _ _ _ _).mono (fun k _ e => .inr (.inl e)))
  have g1 : Fr (fun k => k = w.heap.size ∨ k = w.heap.size + 1 ∨ v0.ownBlock = some k) W ((w1.setCell ⟨w.heap.size, 0, none⟩ v').setCell ⟨w.heap.size + 1, 0, none⟩ (.int .i64 x.e)) :=
    (((Fr.below (below_alloc (Below.refl _ W) o) _).trans ((Fr.grown hgrow).mono (fun k _ e => .inr (.inr e)))).trans ((Fr.setCell _ _ _ _).mono (fun k _ e => .inl e))).trans ((Fr.setCell _ _ _ _).mono (fun k _ e => .inr (.inl e)))
  have hb0 : Boxed w1 w.heap.size 27 v0 := f1.boxed j1 (by
    rintro (h | h)
    · omega
    · have := j7 _ h; omega)
  have hb1 : Boxed w1 (w.heap.size + 1) 3 (.int .i64 (lastR 0 (pre.map prX))) := f1.boxed j3 (by
    rintro (h | h)
    · omega
    · have := j7 _ h; omega)
  have hf0 : Boxed ((w1.setCell ⟨w.heap.size, 0, none⟩ v').setCell ⟨w.heap.size + 1, 0, none⟩ (.int .i64 x.e)) w.heap.size 27 v' := (Below.heap_setCell _ _ _ _ (by simp)).trans (hb0.set v')
  have hb1' : Boxed (w1.setCell ⟨w.heap.size, 0, none⟩ v') (w.heap.size + 1) 3 (.int .i64 (lastR 0 (pre.map prX))) := (Below.heap_setCell _ _ _ _ (by simp)).trans hb1
  have hf1 := hb1'.set (.int .i64 x.e)
  have hv7 : ∀ k, v'.ownBlock = some k → w.heap.size + 5 ≤ k := fun k hk => by
    rcases hat with h | h
    · exact j7 k (by rw [← h]; exact hk)
    · rw [h] at hk; cases hk; omega
  have hgood : ∀ y ∈ pre ++ [x], GoodB W1 y := by
    intro y hy
    rcases List.mem_append.1 hy with hy | hy
    · exact (j6 y hy).1
    · obtain rfl := List.mem_singleton.1 hy
      exact hG.1
  have hxa : ∀ y ∈ pre ++ [x], 0 < y.r.body.length → ∀ ad, y.A = some ad → v0.ownBlock ≠ some ad.block ∧ w.heap.size + 5 ≤ ad.block ∧ ad.block < W1.heap.size := by
    intro y hy hp ad had
    rcases List.mem_append.1 hy with hy | hy
    · obtain ⟨g1, g2⟩ := j6 y hy
      obtain ⟨g3, g4⟩ := g2 hp ad had
      exact ⟨g3, g4, C_lt g1.1 hp had⟩
    · obtain rfl := List.mem_singleton.1 hy
      obtain ⟨g1, g2⟩ := hG
      obtain ⟨g3, g4⟩ := g2 hp ad had
      exact ⟨g3 v0 j1, g4, C_lt g1.1 hp had⟩
  refine ⟨fun k hk1 hk2 => g1.block k (by omega) (by
    rintro (h | h | h)
    · omega
    · omega
    · have := j7 _ h; omega), ⟨v', hf0, ?_, ?_, ?_, ?_, hv7, ?_⟩, ?_, ?_⟩
  · have hr := (Fr.setCell w1 w.heap.size 0 v').row hown (fun k hk e => by have := hv7 k hk; omega)
    have hr2 := (Fr.setCell (w1.setCell ⟨w.heap.size, 0, none⟩ v') (w.heap.size + 1) 0 (.int .i64 x.e)).row hr (fun k hk e => by have := hv7 k hk; omega)
    rw [List.length_append, List.flatMap_append]
    simpa using hr2
  · rw [List.map_append]
    show Boxed _ _ 3 (.int .i64 (lastR 0 (pre.map prX ++ [prX x])))
    rw [lastR_snoc]
    exact hf1
  · exact f2.boxed j4 (by
      rintro (h | h | h | h)
      · omega
      · omega
      · omega
      · have := j7 _ h; omega)
  · exact ⟨f2.os.trans j5.os, f2.tape.trans j5.tape, f2.output.trans j5.output, Nat.le_trans j5.size f2.size, fun k hk => (f2.block k (Nat.lt_of_lt_of_le hk j5.size) (by
      rintro (h | h | h | h)
      · omega
      · omega
      · omega
      · have := j7 _ h; omega)).trans (j5.block k hk)⟩
  · intro y hy
    refine ⟨⟨f2.bytes (hgood y hy).1 (fun hp ad had => ?_), (hgood y hy).2⟩, fun hp ad had => ⟨fun e => ?_, (hxa y hy hp ad had).2.1⟩⟩
    · obtain ⟨a1, a2, a3⟩ := hxa y hy hp ad had
      rintro (h | h | h | h)
      · omega
      · omega
      · omega
      · exact a1 h
    · obtain ⟨a1, a2, a3⟩ := hxa y hy hp ad had
      rcases hat with h | h
      · exact a1 (by rw [← h]; exact e)
      · rw [h] at e
        have := Option.some.inj e
        omega
  · exact f2.mono (fun k _ e => by
      rcases e with h | h | h | h
      · exact .inl h
      · exact .inr (.inl h)
      · exact .inr (.inr (.inl h))
      · exact .inr (.inr (.inr ⟨v0, j1, h⟩)))
  · intro u hu k hk hku
    obtain rfl := boxed_one hf0 hu
    rcases hat with h | h
    · exact ⟨v0, j1, by rw [← h]; exact hku⟩
    · rw [h] at hku
      cases hku
      omega

set_option maxRecDepth 100000 in
set_option maxHeartbeats 4000000 in
theorem scan_in (n : Nat) (hn : 6 ≤ n) (A : Option Addr) (c : Nat) (b : List Int) (ho : okB b) (hc : b.length ≤ c) (hlen : b.length ≤ 1000000) (w : World) (hR : Kd.C (Kd.int .u8) w A b.length b) :
    CallsIn Fence.wide n Try.prog 16 #[.slice A b.length c] w (ScanEnd b w) := by
  have h1 : 1 ≤ n := by omega
  refine callsIn_of_wp_marks Try.func16 rfl trivial ?_ rfl
  simp only [Try.ntmps16, List.size_toArray, List.length_cons, List.length_nil, Nat.reduceAdd, Nat.reduceSub, Array.replicate_succ, Array.replicate_zero, List.push_toArray, List.append_toArray, List.nil_append, List.cons_append]
  have hfn : Fence.wide.fn 33 := trivial
  gi_wp2_with (fail)
  refine (records_in (n - 1) _ _ A b.length c rfl).mono ?_
  rintro e w' ⟨rfl, rfl⟩
  gi_wp2_with (fail)
  have bO := Boxed.new w 27 (.slice none 0 0)
  have bI := Boxed.new (w.alloc (.cells #[.slice none 0 0] 27)) 3 (.int .i64 0)
  have bN := Boxed.new ((w.alloc (.cells #[.slice none 0 0] 27)).alloc (.cells #[.int .i64 0] 3)) 22 (.slice A b.length c)
  rw [World.size_alloc] at bI
  rw [World.size_alloc, World.size_alloc] at bN
  have hB0 : Below w.heap.size w (((w.alloc (.cells #[.slice none 0 0] 27)).alloc (.cells #[.int .i64 0] 3)).alloc (.cells #[.slice A b.length c] 22)) := (((Below.refl _ w).alloc (Nat.le_refl _) _).alloc (by simp) _).alloc (by simp; omega) _
  refine rangeFunc_at (w.heap.size + 3) (by simp) rfl h1 (gf := 46) (lb := #[.pointer (some ⟨w.heap.size + 1 + 1, 0, none⟩)]) rfl trivial (enters_of Try.func46 (by kernel_rfl) rfl) (encs := encR) (S := fun xs : List RX => xs.map prX = seqR (b.length + 1) b 0) (fun _ => rfl)
    (JS w (.slice A b.length c)) JS.own ⟨.slice none 0 0, (bO.alloc _).alloc _, World.ownsRow_nil _ _ _ _, bI.alloc _, bN, hB0, (fun k hk => by cases hk), (fun x hx => by cases hx)⟩ (fun pre x W1 => GdS w x W1 ∧ pre.length ≤ b.length) (fun pre x W1 W' => NxS w (.slice A b.length c) pre x W1 W')
    (fun pre x W1 a' W => RsS w (.slice A b.length c) (fun x k => #[.slice A b.length c, undef, .slice none 0 0, .int .i64 0, .pointer (some ⟨w.heap.size, 0, none⟩), .pointer (some ⟨w.heap.size + 1, 0, none⟩), .pointer (some ⟨k, 0, none⟩), .int .i64 x.e, .slice A b.length c, .func (.func 46) #[] #[.pointer (some ⟨w.heap.size + 1 + 1, 0, none⟩)], .agg #[.int .i64 x.r.kind, .slice x.A x.r.body.length x.c], .int .i64 x.e, undef, undef, undef, undef, undef, undef, undef]) pre x W1 a' W ∧ pre.length ≤ b.length) ?hNx ?hRs ?hiter ?assign ?body ?done
  case hNx =>
    rintro pre x W1 W o ho ⟨q1, q2, q3⟩
    obtain ⟨ob, ho1, ho2⟩ := any_obj ho
    refine ⟨JS.own.putObj _ q1 (by omega) ho1 ho2, q2.trans ((Fr.putObj W (w.heap.size + 3 + 1) o).mono (fun k _ e => .inr (.inr (.inl (by omega))))), fun v' hv' k hk hkv => q3 v' ?_ k hk hkv⟩
    exact (World.putObj_heap_other (by omega)).symm.trans hv'
  case hRs =>
    rintro pre x W1 a' W o ho ⟨⟨q1, q2, q3, q4, q5, q6⟩, q7⟩
    refine ⟨⟨q1, ?_, q3.trans ((Fr.putObj W (w.heap.size + 3 + 1) o).mono (fun k _ e => by omega)), q4, q5, q6⟩, q7⟩
    exact (World.putObj_heap_other (by omega)).trans q2
  case hiter =>
    intro RA hRA W hRW hJ hb hsz hY
    exact records1_in (n - 1) (by omega) w A c b ho hc (by omega) hR RA hRA W hRW hJ hsz hY
  case assign =>
    intro l pre x W1 K hj hg hlt hK
    gi_wp2
    exact hK _ _ (fun k h1 h2 => Below.heap_alloc _ _ _ (by omega)) ⟨⟨rfl, BoxR.new _ _ _, Fr.below (below_alloc (Below.refl _ _) _) _, hj, hg.1, by omega⟩, hg.2⟩
  case body =>
    rintro l pre x W1 a' W ⟨⟨rfl, hbx, hF, hJ, hG, hlt⟩, hpl⟩
    obtain ⟨i0, hi, hz0, hz1, hz2⟩ := info_parts infoRec3
    have hW := hF.size
    have hJ0 := hJ
    obtain ⟨v, j1, j2, j3, j4, j5, j7, j6⟩ := hJ0
    have hv := hF.boxed j1 (by omega)
    have hbI := hF.boxed j3 (by omega)
    have hrow := hF.row j2 (fun k hk e => by have := j7 k hk; omega)
    obtain ⟨A', c', rfl⟩ := own_formR hrow
    have hc1 := hv.cell
    have hf1 := hv.frozen
    have hc2 := hbI.cell
    have hf2 := hbI.frozen
    have hc3 := hbx.c0
    have hc4 := hbx.c1
    have hwl := Nat.le_trans j5.size hW
    have J1 := Lib.hid j1
    have HJ := Lib.hid hJ
    have HG := Lib.hid hG
    have HF := Lib.hid hF
    have HR := Lib.hid hrow
    have HV := Lib.hid hv
    have HI := Lib.hid hbI
    clear j1 j2 j3 j4 j5 j6 j7 hJ hG hF hbx
    gi_wp2_with (gi_at_builtin; go_loud (refine wpListIn_append_at _ rfl _ _ 27 rfl w.heap.size 24 i0 (.agg #[.int .i64 0, .slice none 0 0]) 2 32 Try.underlying27 hi hz0 hz1 hz2 rfl (by decide) _ _ _ rfl (HR.out.alloc _) ⟨W.heap.size, 0, none⟩ 1 1 (rawR x) rfl rfl (two_cells x) (by simp [Value.oneCell']) (by unfold maxLen; omega) (by omega) (by simp; omega) ?_; intro v' w1 hown' hgrow hat; rw [World.size_alloc] at hat; obtain ⟨g', cap', rfl⟩ := ownsRow_succ hown'; have HRE := Lib.hid (round_ends HJ.out HG.out HF.out (by omega) J1.out hown' hgrow hat); have bb1 := (HV.out.alloc (.cells #[.int .i64 x.r.kind, .slice x.A x.r.body.length x.c] 24)).kept hgrow ((HV.out.alloc (.cells #[.int .i64 x.r.kind, .slice x.A x.r.body.length x.c] 24)).not_row (by decide) (HR.out.alloc (.cells #[.int .i64 x.r.kind, .slice x.A x.r.body.length x.c] 24))); have bb2 := (HI.out.alloc (.cells #[.int .i64 x.r.kind, .slice x.A x.r.body.length x.c] 24)).kept hgrow ((HI.out.alloc (.cells #[.int .i64 x.r.kind, .slice x.A x.r.body.length x.c] 24)).not_row (by decide) (HR.out.alloc (.cells #[.int .i64 x.r.kind, .slice x.A x.r.body.length x.c] 24))); have hc5 := bb1.cell; have hf5 := bb1.frozen; have bb3 : Boxed (w1.setCell ⟨w.heap.size, 0, none⟩ (.slice (some ⟨g', 0, none⟩) (pre.length + 1) cap')) (w.heap.size + 1) 3 (.int .i64 (lastR 0 (pre.map prX))) := (Below.heap_setCell w1 _ _ _ (by simp)).trans bb2; have hc6 := bb3.cell; have hf6 := bb3.frozen))
    exact HRE.out
  case done =>
    rintro D xs W hD hS hJ hK
    have HJ := Lib.hid hJ
    obtain ⟨v, j1, j2, j3, j4, j5, j7, j6⟩ := hJ
    obtain ⟨A', c', rfl⟩ := own_formR j2
    have hc1 := j1.cell
    have hc2 := j3.cell
    have J1 := Lib.hid j1
    have HS := Lib.hid hS
    clear j2 j3 j4 j5 j6 j7 j1 hS
    gi_wp2
    refine wpIn_wide.2 ?_
    go_quiet (fail)
    all_goals
      have hJd := HJ.out.below (pw_below_drewN (Below.refl _ W) nq)
      have hKd : (W.drewN nq).heap[D]? = some (.deferred (some [])) := hK
      have hJf := JS.own.putObj (.deferred none) hJd (by omega) hKd rfl
      have HJF := Lib.hid hJf
      have J2 := Lib.hid (show Boxed ((W.drewN nq).putObj D (.deferred none)) w.heap.size 27 (.slice A' xs.length c') from (World.putObj_heap_other (by omega)).trans J1.out)
      clear hJd hJf
      gi_wp2
      refine ⟨by simp, .inl ⟨_, _, rfl, run_takeDeferred hKd, ?_⟩⟩
      refine ⟨_, results_tmp2 (fn := Try.f16) (t := 2) (u := 3) rfl _ _ _, ?_⟩
      obtain ⟨v2, q1, q2, q3, q4, q5, q7, q6⟩ := HJF.out
      obtain rfl := boxed_one J2.out q1
      obtain ⟨e1, e2⟩ := rScan_seq b
      have e3 : (rScan b).1.map toS = xs.map (fun x => toS x.r) := by
        rw [e1, ← HS.out]
        simp [Function.comp_def]
      obtain ⟨z1, z2⟩ := row_C q2 (fun x hx => (q6 x hx).1)
      have e4 : (rScan b).1.length = xs.length := by
        have := congrArg List.length e3
        simpa using this
      refine ⟨A', c', ?_, by rw [e4]; exact z1, by rw [e3]; exact z2, q5⟩
      rw [e4, e2, ← HS.out]
      rfl
theorem recScan_calls (A : Option Addr) (c : Nat) (b : List Int) (w : World) (hR : Kd.C (Kd.int .u8) w A b.length b) (hc : b.length ≤ c) (ho : okB b) (hlen : b.length ≤ 1000000) :
    Calls Try.prog 16 #[.slice A b.length c] w (ScanEnd b w) := callsIn_wide.1 (scan_in 6 (Nat.le_refl _) A c b ho hc hlen w hR)
end Go.Proofs.Ytnicndnbloohhaa.H
