import Derived.Test.YtahiigcofgnncaaDiskV
import Derived.Laws.CopyRow
import Derived.Laws.CopyOwn
import Derived.Laws.NewBlocks
import Derived.Lib.AppendZerosOnto
import Derived.Shelf.RegionOpenPlain
/-! Layer 6: the library's Insert of a file, walked: the roads within the row. -/
namespace Go.Proofs.Ytahiigcofgnncaa.H
open Go.RowKit Moor Go.Proofs.YtahiigcofgnncaaW.PrintWords Go.Proofs.YtahiigcofgnncaaW.PrintLast Go.Proofs.YtahiigcofgnncaaW.PrintMore
set_option linter.unusedVariables false
set_option linter.unusedSimpArgs false

/-- copy, where an element has some cells: the cells that are written are those that src had. -/
theorem run_copy_rowS {P : Program} (w : World) (dT sT ty elem : TypeId) (g o dLen dCap : Nat) (a : Addr) (sLen sCap : Nat) (cur : Array Value) (t : TypeId) (cs : List Value) (size n : Nat)
    (hu : P.underlying dT = some (.slice elem)) (hs : (P.info? elem).map (·.size) = some size)
    (hg : w.heap[g]? = some (.cells cur t (0, 0))) (hn : Nat.min sLen dLen = n) (hl : cs.length = n * size)
    (hsrc : ∀ j v, cs[j]? = some v → w.cell? (a.add j) = some v) (hfit : o + cs.length ≤ cur.size) (h1 : ∀ v ∈ cs, v.oneCell' = true) :
    (Builtin.copy_ #[dT, sT] ty #[.slice (some ⟨g, o, none⟩) dLen dCap, .slice (some a) sLen sCap]).run P w =
      .ok (goInt n) (w.setRow g (cur.toList.take o ++ cs ++ cur.toList.drop (o + cs.length)).toArray) := by
  have hld := run_loadCells_list (P := P) w a cs hsrc
  have hst := run_storeCells_at P g o t cs 0 cur w hg (by simpa using hfit) h1
  cases hq : P.info? elem with
  | none => simp [hq] at hs
  | some i =>
    have hi : i.size = size := by simpa [hq] using hs
    simp [Builtin.copy_, run_underlying hu, Builtin.lenOf, Builtin.firstCells, sizeOf, typeInfo, hq, hi, hn, ← hl, hld, hst]
theorem wp_copy_runF {P : Program} (w : World) {o : Oper} {a : Act} {K : Act → World → Prop} {Q : Exit → Act → World → Prop} (d s : Operand) (t t' : TypeId)
    (ho : o.op = .call { callee := .builtin .copy, args := #[d, s], argTypes := #[t, t'] }) (v u : Value) (hd : a.eval d = v) (hs : a.eval s = u) {v' : Value} {w' : World}
    (hr : (Builtin.copy_ #[t, t'] o.type #[v, u]).run P w = .ok v' w') (h : K (a.put o.dst v') w') : o.wp P a w K Q := by
  unfold Oper.wp execOp
  simp only [ho, resolve, invoke, builtin, Sem.run_bind, Sem.run_pure, Result.andThen_ok, List.map_toArray, List.map_cons, List.map_nil, hd, hs, hr]
  exact h
theorem wpList_copy_runF {P : Program} (w : World) {ops : Array Oper} {rest : List Oper} {o : Oper} {a : Act} {Q : Exit → Act → World → Prop} (hgd : o.guard = none) (d s : Operand) (t t' : TypeId)
    (ho : o.op = .call { callee := .builtin .copy, args := #[d, s], argTypes := #[t, t'] }) (v u : Value) (hd : a.eval d = v) (hs : a.eval s = u) {v' : Value} {w' : World}
    (hr : (Builtin.copy_ #[t, t'] o.type #[v, u]).run P w = .ok v' w') (h : wpList P ops Q rest (a.put o.dst v') w') : wpList P ops Q (o :: rest) a w :=
  wpList_plain hgd fun _ hK => wp_copy_runF w d s t t' ho v u hd hs hr (hK _ _ h)
theorem step_copy_runF {P : Program} {ops : Array Oper} {o : Oper} {a : Act} {w : World} {K : Act → World → Prop} {Q : Exit → Act → World → Prop} {E : Prop}
    (hg : o.guard = none) (d x : Operand) (dT sT : TypeId) (hop : o.op = Op.call { callee := Callee.builtin Builtin.copy, args := #[d, x], argTypes := #[dT, sT] })
    (v u : Value) (hd : a.eval d = v) (hx : a.eval x = u) {v' : Value} {w' : World} (hr : (Builtin.copy_ #[dT, sT] o.type #[v, u]).run P w = .ok v' w') (hK : K (a.put o.dst v') w') :
    if Region.wanted o (yielded ops a.tmps) = true then Oper.wp P o a w K Q else E := by
  have hw : Region.wanted o (yielded ops a.tmps) = true := by simp [Region.wanted, hg]
  rw [if_pos hw]
  unfold Oper.wp
  simp [execOp, hop, resolve, invoke, builtin, hd, hx, hr, Result.andThen]
  exact hK

theorem flat_take (xs : List FX) (p : Nat) : (flat xs).take (p * 3) = flat (xs.take p) := by
  induction xs generalizing p with
  | nil => simp [flat]
  | cons x xs ih =>
    cases p with
    | zero => simp [flat]
    | succ p =>
      have h3 : (cellsX x).length = 3 := rfl
      show (cellsX x ++ flat xs).take ((p + 1) * 3) = cellsX x ++ flat (xs.take p)
      rw [List.take_append, List.take_of_length_le (by rw [h3]; omega), h3, show (p + 1) * 3 - 3 = p * 3 by omega, ih]
theorem flat_drop (xs : List FX) (p : Nat) : (flat xs).drop (p * 3) = flat (xs.drop p) := by
  have h := flat_append (xs.take p) (xs.drop p)
  rw [List.take_append_drop] at h
  rw [h]
  rcases Nat.lt_or_ge xs.length p with hp | hp
  · rw [List.drop_eq_nil_of_le (by rw [List.length_append, flat_len, flat_len, List.length_take, List.length_drop]; omega), List.drop_eq_nil_of_le (Nat.le_of_lt hp)]
    rfl
  · rw [List.drop_append_of_le_length (by rw [flat_len, List.length_take]; omega), List.drop_eq_nil_of_le (by rw [flat_len, List.length_take]; omega), List.nil_append]
theorem put_take (L A B : List Value) (a b : Nat) (ha : L.take a = A) (hl : A.length = a) (hb : B.length = b) : (L.take a ++ B ++ L.drop (a + b)).take (a + b) = A ++ B := by
  rw [ha, List.take_append_of_le_length (by rw [List.length_append]; omega), List.take_of_length_le (by rw [List.length_append]; omega)]
theorem put_len (L B : List Value) (a b : Nat) (hb : B.length = b) (h : a + b ≤ L.length) : (L.take a ++ B ++ L.drop (a + b)).length = L.length := by
  simp
  omega
/-- The end of a row moved by one, then one put in. -/
theorem shift_take (L A B C : List Value) (a b c : Nat) (ha : L.take a = A) (hl : A.length = a) (hb : B.length = b) (hc : C.length = c) (h : a + b + c ≤ L.length) :
    ((L.take (a + b) ++ C ++ L.drop (a + b + c)).take a ++ B ++ (L.take (a + b) ++ C ++ L.drop (a + b + c)).drop (a + b)).take (a + b + c) = A ++ B ++ C := by
  have e1 : (L.take (a + b) ++ C ++ L.drop (a + b + c)).take a = A := by
    rw [List.append_assoc, List.take_append_of_le_length (by rw [List.length_take]; omega), List.take_take, Nat.min_eq_left (by omega), ha]
  have e2 : (L.take (a + b) ++ C ++ L.drop (a + b + c)).drop (a + b) = C ++ L.drop (a + b + c) := by
    rw [List.append_assoc, List.drop_append_of_le_length (by rw [List.length_take]; omega), List.drop_eq_nil_of_le (by rw [List.length_take]; omega), List.nil_append]
  rw [e1, e2, ← List.append_assoc, List.take_append_of_le_length (by simp; omega), List.take_of_length_le (by simp; omega)]

theorem sliceLowF (g n c p : Nat) (i : Int) (hi : i = (p : Int)) (hp : p ≤ n) (hc : p < c) (m k o : Nat) (hm : m = n - p) (hk : k = c - p) (ho : o = p * 3) (W : World) :
    (Instr.slice 22 (.slice (some ⟨g, 0, none⟩) n c) (some (.int .i64 i)) none none).run Try.prog W = .ok (.slice (some ⟨g, o, none⟩) m k) W := by
  subst hi hm hk ho
  have hel : Try.prog.elem 22 = 32 := by simp [Program.elem, Try.underlying22]
  have hu : Try.prog.underlying 22 = some (.slice (Try.prog.elem 22)) := by rw [hel]; exact Try.underlying22
  obtain ⟨i0, hi0, hz0, hz1, hz2⟩ := info_parts infoF
  rw [run_slice_l W 22 (some ⟨g, 0, none⟩) n c hu .i64 (p : Int) (by omega) (by omega), hel]
  have h1 : ¬ c = p := by omega
  simp [sizeOf, typeInfo, hi0, hz1, sliced, Result.andThen, h1, Addr.add]
  try exact fun h => h.symm
theorem sliceHighF (a : Option Addr) (n c j : Nat) (i : Int) (hi : i = (j : Int)) (hj : j ≤ c) (W : World) :
    (Instr.slice 22 (.slice a n c) none (some (.int .i64 i)) none).run Try.prog W = .ok (.slice a j c) W := by
  subst hi
  have hel : Try.prog.elem 22 = 32 := by simp [Program.elem, Try.underlying22]
  have hu : Try.prog.underlying 22 = some (.slice (Try.prog.elem 22)) := by rw [hel]; exact Try.underlying22
  obtain ⟨i0, hi0, hz0, hz1, hz2⟩ := info_parts infoF
  rw [run_slice_h W 22 a n c hu .i64 (j : Int) (by omega) (by omega), hel]
  cases a <;> simp [sizeOf, typeInfo, hi0, hz1, sliced, Result.andThen, add_zeroR]

theorem good_off {W W1 : World} {base g n c : Nat} {xs : List FX} (hO : OwnF W base (.slice (some ⟨g, 0, none⟩) n c) n xs) (hm : ∀ q, base ≤ q → q < W.heap.size → q ≠ g → W1.heap[q]? = W.heap[q]?) :
    ∀ x ∈ xs, Kd.R kB 5 W1 base (fun _ => True) (vX x) x.data := by
  intro x hx
  obtain ⟨i, hi⟩ := List.mem_iff_getElem?.1 hx
  refine Kd.R_mono (Kd.R_move (Kd.R_bound (hO.2.2.1 i x hi)) (fun q hq => hm q hq.2.1 hq.2.2.1 (fun e => ?_))) (fun _ _ => trivial)
  obtain ⟨_, _, _, t, ht1, cs, ht2⟩ := hq
  obtain ⟨cells, hc⟩ := own_typed hO.2.1 q (by show some g = some q; rw [e])
  rw [hc] at ht2
  injection ht2 with ht2
  injection ht2 with _ ht2
  exact ht5 t ht1 ht2.symm
/-- What stands in a row when one is put in. -/
theorem ins_end {w W : World} {base g1 n c1 : Nat} {xs : List FX} {cur : Array Value} {l : List Fl} {no : Int} {p : Nat} (hx : xs.map flX = l) (hn : l.length = n) (hp : p ≤ n) (hb : base ≤ g1) (hg : W.heap[g1]? = some (.cells cur 32 (0, 0))) (hc : n + 1 ≤ c1) (hm : c1 ≤ maxLen) (hs : cur.size = c1 * 3)
    (ht : cur.toList.take ((n + 1) * 3) = flat (xs.take p) ++ cellsX (newX no) ++ flat (xs.drop p)) (hgood : ∀ x ∈ xs, Kd.R kB 5 W base (fun _ => True) (vX x) x.data) (hB : Below base w W) {v : Value} (hfr : ∀ q, q < w.heap.size → v.ownBlock ≠ some q → W.heap[q]? = w.heap[q]?) :
    InsEnd base v (l.take p ++ ⟨no, [], 0⟩ :: l.drop p) w (.returned (.slice (some ⟨g1, 0, none⟩) (n + 1) c1)) W := by
  have hxl : xs.length = n := by rw [← hn, ← hx, List.length_map]
  have hlen : (l.take p ++ (⟨no, [], 0⟩ : Fl) :: l.drop p).length = n + 1 := by simp; omega
  have hyl : (xs.take p ++ newX no :: xs.drop p).length = n + 1 := by simp; omega
  have hfl : flat (xs.take p ++ newX no :: xs.drop p) = flat (xs.take p) ++ cellsX (newX no) ++ flat (xs.drop p) := by
    rw [flat_append, List.append_assoc]
    rfl
  have hrow : W.ownsRow base 32 3 (.slice (some ⟨g1, 0, none⟩) (n + 1) c1) (n + 1) (flat (xs.take p ++ newX no :: xs.drop p)) :=
    ⟨by rw [flat_len, hyl], .inr ⟨g1, c1, cur, rfl, hb, hg, hc, hm, hs, by rw [hfl]; exact ht⟩⟩
  have hF := row_but hrow hyl (fun i y hy => by
    have hmem := List.mem_of_getElem? hy
    rw [List.mem_append, List.mem_cons] at hmem
    rcases hmem with h | h | h
    · exact hgood y (List.mem_of_mem_take h)
    · rw [h]; exact new_good _ _ _
    · exact hgood y (List.mem_of_mem_drop h))
  have hmap : (xs.take p ++ newX no :: xs.drop p).map flX = l.take p ++ ⟨no, [], 0⟩ :: l.drop p := by
    rw [List.map_append, List.map_cons, List.map_take, List.map_drop, hx]
  rw [hmap] at hF
  exact ⟨_, c1, by rw [hlen], by rw [hlen]; exact hc, hF, hB, hfr⟩
theorem szF : (Try.prog.info? 32).map (·.size) = some 3 := by
  obtain ⟨i0, hi, hz0, hz1, hz2⟩ := info_parts infoF
  rw [hi]
  exact congrArg some hz1
theorem sizeF (w : World) : (Go.sizeOf 32).run Try.prog w = .ok 3 w := by
  obtain ⟨i0, hi, hz0, hz1, hz2⟩ := info_parts infoF
  simp [sizeOf, typeInfo, hi, hz1, Sem.run]

set_option maxRecDepth 100000 in
set_option maxHeartbeats 8000000 in
/-- There is room: in place. -/
theorem insert_room (W : World) (base g c1 : Nat) (xs : List FX) (l : List Fl) (no : Int) (vb p n : Nat) (hO : OwnF W base (.slice (some ⟨g, 0, none⟩) n c1) n xs) (hx : xs.map flX = l) (hln : l.length = n) (hv : BoxC W vb (cellsX (newX no)).toArray 32) (hvg : vb ≠ g) (hl : n ≤ 1000) (hb : base ≤ W.heap.size) (hp : p < n) (hroom : n + 1 ≤ c1) :
    Calls Try.prog 43 #[.slice (some ⟨g, 0, none⟩) n c1, .int .i64 (p : Int), .slice (some ⟨vb, 0, none⟩) 1 1] W (InsEnd base (.slice (some ⟨g, 0, none⟩) n c1) (l.take p ++ ⟨no, [], 0⟩ :: l.drop p) W) := by
  obtain ⟨g', cap', cur, he, hbg, hgh, hnc, hcm, hcs, htk⟩ : ∃ g' cap' cur, Value.slice (some ⟨g, 0, none⟩) n c1 = .slice (some ⟨g', 0, none⟩) n cap' ∧ base ≤ g' ∧ W.heap[g']? = some (.cells cur 32 (0, 0)) ∧ n ≤ cap' ∧ cap' ≤ maxLen ∧ cur.size = cap' * 3 ∧ cur.toList.take (n * 3) = flat xs := by
    rcases hO.2.1.2 with ⟨h0, _⟩ | ⟨g', cap', cur, h⟩
    · cases h0
    · exact ⟨g', cap', cur, h⟩
  injection he with e1 e2 e3
  injection e1 with e1
  injection e1 with e1 _ _
  subst e1 e3
  have hxl : xs.length = n := by rw [← hln, ← hx, List.length_map]
  have hA : cur.toList.take (p * 3) = flat (xs.take p) := by
    rw [← flat_take, ← htk, List.take_take, Nat.min_eq_left (by omega)]
  have hAl : (flat (xs.take p)).length = p * 3 := by rw [flat_len, List.length_take]; omega
  have hCl : (flat (xs.drop p)).length = (n - p) * 3 := by rw [flat_len, List.length_drop]; omega
  have hBl : (cellsX (newX no)).length = 3 := rfl
  have hcl : cur.toList.length = c1 * 3 := by rw [Array.length_toList]; exact hcs
  obtain ⟨CS, hCS⟩ : ∃ CS, flat (xs.drop p) = CS := ⟨_, rfl⟩
  obtain ⟨cur1, hcur1⟩ : ∃ cur1 : Array Value, (cur.toList.take (p * 3 + 3) ++ CS ++ cur.toList.drop (p * 3 + 3 + (n - p) * 3)).toArray = cur1 := ⟨_, rfl⟩
  obtain ⟨cur2, hcur2⟩ : ∃ cur2 : Array Value, (cur1.toList.take (p * 3) ++ cellsX (newX no) ++ cur1.toList.drop (p * 3 + 3)).toArray = cur2 := ⟨_, rfl⟩
  rw [hCS] at hCl
  have hl1 : cur1.toList.length = c1 * 3 := by
    rw [← hcur1]
    show (cur.toList.take (p * 3 + 3) ++ CS ++ cur.toList.drop (p * 3 + 3 + (n - p) * 3)).length = _
    rw [put_len _ _ _ _ hCl (by rw [hcl]; omega), hcl]
  have hl2 : cur2.toList.length = c1 * 3 := by
    rw [← hcur2]
    show (cur1.toList.take (p * 3) ++ cellsX (newX no) ++ cur1.toList.drop (p * 3 + 3)).length = _
    rw [put_len _ _ _ _ hBl (by rw [hl1]; omega), hl1]
  have ht2 : cur2.toList.take ((n + 1) * 3) = flat (xs.take p) ++ cellsX (newX no) ++ flat (xs.drop p) := by
    have h := shift_take cur.toList _ (cellsX (newX no)) CS (p * 3) 3 ((n - p) * 3) hA hAl hBl hCl (by rw [hcl]; omega)
    rw [show p * 3 + 3 + (n - p) * 3 = (n + 1) * 3 by omega] at h
    rw [hCS, ← h, ← hcur2, ← hcur1]
    congr 1
    rw [show p * 3 + 3 + (n - p) * 3 = (n + 1) * 3 by omega]
  have hcell : ∀ j v, CS[j]? = some v → W.cell? ⟨g, p * 3 + j, none⟩ = some v := fun j v hj => by
    rw [blk_cell hgh, ← Array.getElem?_toList]
    rw [← hCS, ← flat_drop, List.getElem?_drop, ← htk, List.getElem?_take] at hj
    split at hj
    · exact hj
    · cases hj
  have hnewc : ∀ j u, (cellsX (newX no))[j]? = some u → W.cell? ⟨vb, j, none⟩ = some u := fun j u hu => hv.c j (by simpa using hu)
  have h1C : ∀ v ∈ CS, v.oneCell' = true := by rw [← hCS]; exact flat_one _
  have hcp1 : ∀ ty, (Builtin.copy_ #[22, 22] ty #[.slice (some ⟨g, (p + 1) * 3, none⟩) (n - p) (c1 - (p + 1)), .slice (some ⟨g, p * 3, none⟩) (n + 1 - p) (c1 - p)]).run Try.prog W.drew = .ok (goInt (n - p : Nat)) (W.drew.setRow g cur1) := fun ty => by
    have h := run_copy_rowS (P := Try.prog) W.drew 22 22 ty 32 g ((p + 1) * 3) (n - p) (c1 - (p + 1)) ⟨g, p * 3, none⟩ (n + 1 - p) (c1 - p) cur 32 CS 3 (n - p) Try.underlying22 szF hgh (by simp only [Nat.min_def]; split <;> omega) hCl
      (fun j v hj => by rw [add_plain]; exact hcell j v hj) (by rw [hCl, hcs]; omega) h1C
    rw [hCl, show (p + 1) * 3 = p * 3 + 3 by omega, hcur1] at h
    rw [show (p + 1) * 3 = p * 3 + 3 by omega]
    exact h
  have hcp2 : ∀ (W2 : World), W2.heap = (W.setRow g cur1).heap → ∀ ty, (Builtin.copy_ #[22, 22] ty #[.slice (some ⟨g, p * 3, none⟩) (n + 1 - p) (c1 - p), .slice (some ⟨vb, 0, none⟩) 1 1]).run Try.prog W2 = .ok (goInt 1) (W2.setRow g cur2) := fun W2 hW2 ty => by
    have hg2 : W2.heap[g]? = some (.cells cur1 32 (0, 0)) := by rw [hW2]; exact setRow_heap W g cur cur1 _ _ hgh
    have h := run_copy_rowS (P := Try.prog) W2 22 22 ty 32 g (p * 3) (n + 1 - p) (c1 - p) ⟨vb, 0, none⟩ 1 1 cur1 32 (cellsX (newX no)) 3 1 Try.underlying22 szF hg2 (by simp only [Nat.min_def]; split <;> omega) rfl
      (fun j v hj => by
        rw [add_plain, Nat.zero_add, ← hnewc j v hj]
        show World.cell? W2 _ = World.cell? W _
        unfold World.cell?
        rw [hW2, setRow_other W g vb cur1 hvg]) (by rw [hBl]; have : cur1.size = c1 * 3 := by rw [← Array.length_toList]; exact hl1
                                                    omega) (fun u hu => flat_one [newX no] u (by simpa [flat] using hu))
    rw [hBl, hcur2] at h
    exact h
  have hfin : ∀ W2 : World, W2.heap = ((W.setRow g cur1).setRow g cur2).heap → Below base W W2 → InsEnd base (.slice (some ⟨g, 0, none⟩) n c1) (l.take p ++ ⟨no, [], 0⟩ :: l.drop p) W (.returned (.slice (some ⟨g, 0, none⟩) (n + 1) c1)) W2 := fun W2 hW2 hB2 => by
    have hg2 : W2.heap[g]? = some (.cells cur2 32 (0, 0)) := by rw [hW2]; exact setRow_heap _ g cur1 cur2 _ _ (setRow_heap W g cur cur1 _ _ hgh)
    refine ins_end hx hln (Nat.le_of_lt hp) hbg hg2 hroom hcm (by rw [← Array.length_toList]; exact hl2) ht2 (good_off hO (fun q _ _ hq => ?_)) hB2 ?_
    rw [hW2, setRow_other _ g q cur2 hq, setRow_other _ g q cur1 hq]
    intro q _ hq
    have hq' : q ≠ g := fun e => hq (by rw [e]; rfl)
    rw [hW2, setRow_other _ g q cur2 hq', setRow_other _ g q cur1 hq']
  have hov : ∀ lb cb, (callFunc 56 #[.slice (some ⟨vb, 0, none⟩) 1 1, .slice (some ⟨g, (p + 1) * 3, none⟩) lb cb]).run Try.prog W = .ok (.value (.bool false)) W := fun lb cb => by
    rw [run_callFunc_extern Try.func56 (by kernel_rfl) (by kernel_rfl) (by kernel_rfl) (e := Extern.SlicesOverlaps.overlaps #[22, 22] #[4]) (by kernel_rfl),
      Lib.run_overlaps_apart W 22 4 32 Try.underlying22 3 sizeF ⟨vb, 0, none⟩ ⟨g, (p + 1) * 3, none⟩ 1 1 lb cb hvg 32 32 3 cur.size (by simp [World.shape?, show W.heap[vb]? = _ from hv]) (by simp [World.shape?, hgh]) (by omega) (by simp [World.frozen?, show W.heap[vb]? = _ from hv]) (by simp [World.frozen?, show W.heap[vb]? = _ from hv])]
    rfl
  have hcml : c1 ≤ 9223372036854775807 := by unfold maxLen at hcm; omega
  obtain ⟨o1, ho1⟩ : ∃ o1, (p + 1) * 3 = o1 := ⟨_, rfl⟩
  obtain ⟨o0, ho0⟩ : ∃ o0, p * 3 = o0 := ⟨_, rfl⟩
  obtain ⟨m0, hm0⟩ : ∃ m0, n + 1 - p = m0 := ⟨_, rfl⟩
  obtain ⟨m1, hm1⟩ : ∃ m1, n - p = m1 := ⟨_, rfl⟩
  obtain ⟨k0, hk0⟩ : ∃ k0, c1 - p = k0 := ⟨_, rfl⟩
  obtain ⟨k1, hk1⟩ : ∃ k1, c1 - (p + 1) = k1 := ⟨_, rfl⟩
  obtain ⟨N1, hN1⟩ : ∃ N1, n + 1 = N1 := ⟨_, rfl⟩
  have z1 := sliceLowF g n c1 p (p : Int) rfl (by omega) (by omega) m1 k0 o0 hm1.symm hk0.symm ho0.symm
  have z2 := sliceHighF (some ⟨g, 0, none⟩) n c1 N1 ((n : Int) + 1) (by omega) (by omega)
  have z3 := sliceLowF g N1 c1 (p + 1) ((p : Int) + 1) (by omega) (by omega) (by omega) m1 k1 o1 (by omega) hk1.symm ho1.symm
  have z4 := sliceLowF g N1 c1 p (p : Int) rfl (by omega) (by omega) m0 k0 o0 (by omega) hk0.symm ho0.symm
  rw [ho1] at hov hcp1
  rw [ho0, hm1, hm0, hk1, hk0] at hcp1
  rw [ho0, hm0, hk0] at hcp2
  rw [hN1] at hfin
  have HC1 := Lib.hid hcp1
  have HC2 := Lib.hid hcp2
  have HFIN := Lib.hid hfin
  have HOV := Lib.hid hov
  have hB1 : ∀ d : World, d.heap = W.heap → True := fun _ _ => trivial
  have HBR := Lib.hid hbg
  have hw1 : IntKind.i64.wrap ((p : Int) + 1) = (p : Int) + 1 := by rw [IntKind.wrap_i64]; omega
  have hw2 : IntKind.i64.wrap ((n : Int) + 1) = (n : Int) + 1 := by rw [IntKind.wrap_i64]; omega
  have hq1 : ¬ ((p : Int) = (n : Int)) := by omega
  have hq2 : ¬ ((c1 : Int) < (n : Int) + 1) := by omega
  have mixed : Try.prog.follows Departure.mixedOrders = true := by kernel_rfl
  have hgn := hgh
  clear hgh hcp1 hcp2 hfin hov ht2 hl1 hl2 hcell hnewc h1C hCl hcur1 hcur2 hCS hcl hBl hAl hA htk hcs hx hln hO hv hgn hB1 hxl
  go_enter Try.func43, Try.ntmps43
  go_wp2_with (simp only [HOV.out])
  go_region_law_o (refine step_copy_runF rfl _ _ 22 22 rfl _ _ (by simp [Act.eval, Act.put]) (by simp [Act.eval, Act.put]) (HC1.out _) ?_)
  go_wp2_with (refine wpList_copy_runF _ rfl _ _ 22 22 rfl _ _ rfl rfl (HC2.out _ (by rfl) _) ?_)
  go_ret
  exact HFIN.out _ rfl (below_setRow (below_setRow (Below.refl base W).drew HBR.out cur1) HBR.out cur2)

theorem zeroCells_size (z : Array Value) (k : Nat) (h : z.size = 3) : (Builtin.zeroCells z k).size = k * 3 := by
  simp [Builtin.zeroCells, h]
set_option maxRecDepth 100000 in
set_option maxHeartbeats 8000000 in
/-- There is none: a new row. -/
theorem insert_grow (W : World) (base g c1 : Nat) (xs : List FX) (l : List Fl) (no : Int) (vb p n : Nat) (hO : OwnF W base (.slice (some ⟨g, 0, none⟩) n c1) n xs) (hx : xs.map flX = l) (hln : l.length = n) (hv : BoxC W vb (cellsX (newX no)).toArray 32) (hvg : vb ≠ g) (hl : n ≤ 1000) (hb : base ≤ W.heap.size) (hp : p < n) (hroom : c1 < n + 1) :
    Calls Try.prog 43 #[.slice (some ⟨g, 0, none⟩) n c1, .int .i64 (p : Int), .slice (some ⟨vb, 0, none⟩) 1 1] W (InsEnd base (.slice (some ⟨g, 0, none⟩) n c1) (l.take p ++ ⟨no, [], 0⟩ :: l.drop p) W) := by
  obtain ⟨g', cap', cur, he, hbg, hgh, hnc, hcm, hcs, htk⟩ : ∃ g' cap' cur, Value.slice (some ⟨g, 0, none⟩) n c1 = .slice (some ⟨g', 0, none⟩) n cap' ∧ base ≤ g' ∧ W.heap[g']? = some (.cells cur 32 (0, 0)) ∧ n ≤ cap' ∧ cap' ≤ maxLen ∧ cur.size = cap' * 3 ∧ cur.toList.take (n * 3) = flat xs := by
    rcases hO.2.1.2 with ⟨h0, _⟩ | ⟨g', cap', cur, h⟩
    · cases h0
    · exact ⟨g', cap', cur, h⟩
  injection he with e1 e2 e3
  injection e1 with e1
  injection e1 with e1 _ _
  subst e1 e3
  obtain ⟨i0, hi0, hz0, hzs, hzb⟩ := info_parts infoF
  have hxl : xs.length = n := by rw [← hln, ← hx, List.length_map]
  have hAl : (flat (xs.take p)).length = p * 3 := by rw [flat_len, List.length_take]; omega
  have hBl : (cellsX (newX no)).length = 3 := rfl
  have hgw : g < W.heap.size := blk_lt hgh
  have hvw : vb < W.heap.size := blk_lt hv
  have hcell0 : ∀ j v, (flat xs)[j]? = some v → W.cell? ⟨g, j, none⟩ = some v := fun j v hj => by
    rw [blk_cell hgh, ← Array.getElem?_toList]
    rw [← htk, List.getElem?_take] at hj
    split at hj
    · exact hj
    · cases hj
  obtain ⟨CS, hCS⟩ : ∃ CS, flat (xs.drop p) = CS := ⟨_, rfl⟩
  have hCl : CS.length = (n - p) * 3 := by rw [← hCS, flat_len, List.length_drop]; omega
  have hcell : ∀ j v, CS[j]? = some v → W.cell? ⟨g, p * 3 + j, none⟩ = some v := fun j v hj => hcell0 _ _ (by rw [← hCS, ← flat_drop, List.getElem?_drop] at hj; exact hj)
  have h1C : ∀ v ∈ CS, v.oneCell' = true := by rw [← hCS]; exact flat_one _
  have hnewc : ∀ j u, (cellsX (newX no))[j]? = some u → W.cell? ⟨vb, j, none⟩ = some u := fun j u hu => hv.c j (by simpa using hu)
  have hold : (Builtin.firstCells i0.size p (.slice (some ⟨g, 0, none⟩) p c1)).run Try.prog W.drew = .ok (flat (xs.take p)).toArray W.drew := by
    rw [hzs]
    exact run_firstCells_some W.drew 3 p ⟨g, 0, none⟩ p c1 (flat (xs.take p)) hAl (fun j v hj => by
      rw [add_plain, Nat.zero_add]
      rw [← flat_take, List.getElem?_take] at hj
      split at hj
      · exact hcell0 j v hj
      · cases hj)
  have hkk : (n : Int) + 1 - (p : Int) = ((n + 1 - p : Nat) : Int) := by omega
  have hik : p + (n + 1 - p) = n + 1 := by omega
  obtain ⟨G, hG⟩ : ∃ G, grownCap W (n + 1) c1 32 = G := ⟨_, rfl⟩
  obtain ⟨ROW, hROW⟩ : ∃ ROW : Array Value, (flat (xs.take p)).toArray ++ Builtin.zeroCells (Value.agg #[.int .i64 0, .slice none 0 0, .int .i64 0]).cells (n + 1 - p) ++ Builtin.zeroCells (Value.agg #[.int .i64 0, .slice none 0 0, .int .i64 0]).cells (G - (n + 1)) = ROW := ⟨_, rfl⟩
  have hrz : ∀ ty, (Builtin.append_ #[22, 3] ty #[.slice (some ⟨g, 0, none⟩) p c1, .int .i64 ((n : Int) + 1 - (p : Int))]).run Try.prog W =
      .ok (.slice (some ⟨W.heap.size, 0, none⟩) (n + 1) G) (W.drew.alloc (.cells ROW 32)) := fun ty => by
    have h := Lib.run_append_grow_zeros (P := Try.prog) W 22 3 ty 32 i0 _ .i64 .i64 Try.underlying22 Try.underlying3 hi0 hz0 (some ⟨g, 0, none⟩) p c1 (flat (xs.take p)) hold (n + 1 - p) (by omega) (by omega) (by omega) (by omega) (by rw [hzb]; omega) (by rw [hzb, hik]; exact growslice_fits hroom (by omega))
    rw [hik, hG, hROW] at h
    rw [hkk]
    exact h
  have hGn : n + 1 ≤ G := by rw [← hG]; exact grownCap_ge W _ _ _
  have hGm : G ≤ maxLen := by rw [← hG]; exact grownCap_le_maxLen W (n + 1) c1 _ (by unfold maxLen; omega)
  have hG63 : G ≤ 9223372036854775807 := by unfold maxLen at hGm; omega
  have hRl : ROW.toList.length = G * 3 := by
    rw [← hROW, Array.length_toList, Array.size_append, Array.size_append, zeroCells_size _ _ (by rfl), zeroCells_size _ _ (by rfl)]
    show (flat (xs.take p)).length + _ + _ = _
    rw [hAl]
    omega
  have hA : ROW.toList.take (p * 3) = flat (xs.take p) := by
    rw [← hROW, Array.toList_append, Array.toList_append, List.append_assoc, List.take_append_of_le_length (by show p * 3 ≤ (flat (xs.take p)).length; omega)]
    exact List.take_of_length_le (Nat.le_of_eq hAl)
  obtain ⟨cur1, hcur1⟩ : ∃ cur1 : Array Value, (ROW.toList.take (p * 3) ++ cellsX (newX no) ++ ROW.toList.drop (p * 3 + 3)).toArray = cur1 := ⟨_, rfl⟩
  obtain ⟨cur2, hcur2⟩ : ∃ cur2 : Array Value, (cur1.toList.take (p * 3 + 3) ++ CS ++ cur1.toList.drop (p * 3 + 3 + (n - p) * 3)).toArray = cur2 := ⟨_, rfl⟩
  have hl1 : cur1.toList.length = G * 3 := by
    rw [← hcur1]
    show (ROW.toList.take (p * 3) ++ cellsX (newX no) ++ ROW.toList.drop (p * 3 + 3)).length = _
    rw [put_len _ _ _ _ hBl (by rw [hRl]; omega), hRl]
  have hl2 : cur2.toList.length = G * 3 := by
    rw [← hcur2]
    show (cur1.toList.take (p * 3 + 3) ++ CS ++ cur1.toList.drop (p * 3 + 3 + (n - p) * 3)).length = _
    rw [put_len _ _ _ _ hCl (by rw [hl1]; omega), hl1]
  have ht1 : cur1.toList.take (p * 3 + 3) = flat (xs.take p) ++ cellsX (newX no) := by
    rw [← hcur1]
    exact put_take _ _ _ _ _ hA hAl hBl
  have ht2 : cur2.toList.take ((n + 1) * 3) = flat (xs.take p) ++ cellsX (newX no) ++ flat (xs.drop p) := by
    rw [hCS, ← hcur2, show (n + 1) * 3 = p * 3 + 3 + (n - p) * 3 by omega]
    exact put_take _ _ _ _ _ ht1 (by rw [List.length_append, hAl, hBl]) hCl
  obtain ⟨N, hN⟩ : ∃ N, W.heap.size = N := ⟨_, rfl⟩
  obtain ⟨W1, hW1⟩ : ∃ W1, W.drew.alloc (.cells ROW 32) = W1 := ⟨_, rfl⟩
  have hN1 : W1.heap[N]? = some (.cells ROW 32 (0, 0)) := by rw [← hW1, ← hN]; exact heap_alloc_new W.drew _
  have hP1 : ∀ q, q < N → W1.heap[q]? = W.heap[q]? := fun q hq => by
    rw [← hW1]
    exact (below_alloc (Below.refl W.drew.heap.size W.drew) _).block q (by rw [← hN] at hq; exact hq)
  have hcpA : ∀ (W2 : World), W2.heap = W1.heap → ∀ ty, (Builtin.copy_ #[22, 22] ty #[.slice (some ⟨N, p * 3, none⟩) (n + 1 - p) (G - p), .slice (some ⟨vb, 0, none⟩) 1 1]).run Try.prog W2 = .ok (goInt 1) (W2.setRow N cur1) := fun W2 hW2 ty => by
    have hg2 : W2.heap[N]? = some (.cells ROW 32 (0, 0)) := by rw [hW2]; exact hN1
    have h := run_copy_rowS (P := Try.prog) W2 22 22 ty 32 N (p * 3) (n + 1 - p) (G - p) ⟨vb, 0, none⟩ 1 1 ROW 32 (cellsX (newX no)) 3 1 Try.underlying22 szF hg2 (by simp only [Nat.min_def]; split <;> omega) rfl
      (fun j v hj => by
        rw [add_plain, Nat.zero_add, ← hnewc j v hj]
        show World.cell? W2 _ = World.cell? W _
        unfold World.cell?
        rw [hW2, hP1 vb (by omega)]) (by rw [hBl]; have : ROW.size = G * 3 := by rw [← Array.length_toList]; exact hRl
                                         omega) (fun u hu => flat_one [newX no] u (by simpa [flat] using hu))
    rw [hBl, hcur1] at h
    exact h
  have hcpB : ∀ (W3 : World), W3.heap = (W1.setRow N cur1).heap → ∀ ty, (Builtin.copy_ #[22, 22] ty #[.slice (some ⟨N, (p + 1) * 3, none⟩) (n - p) (G - (p + 1)), .slice (some ⟨g, p * 3, none⟩) (n - p) (c1 - p)]).run Try.prog W3 = .ok (goInt (n - p : Nat)) (W3.setRow N cur2) := fun W3 hW3 ty => by
    have hg3 : W3.heap[N]? = some (.cells cur1 32 (0, 0)) := by rw [hW3]; exact setRow_heap W1 N ROW cur1 _ _ hN1
    have h := run_copy_rowS (P := Try.prog) W3 22 22 ty 32 N ((p + 1) * 3) (n - p) (G - (p + 1)) ⟨g, p * 3, none⟩ (n - p) (c1 - p) cur1 32 CS 3 (n - p) Try.underlying22 szF hg3 (Nat.min_self _) hCl
      (fun j v hj => by
        rw [add_plain, ← hcell j v hj]
        show World.cell? W3 _ = World.cell? W _
        unfold World.cell?
        rw [hW3, setRow_other W1 N g cur1 (by omega), hP1 g (by omega)]) (by rw [hCl]; have : cur1.size = G * 3 := by rw [← Array.length_toList]; exact hl1
                                                                             omega) h1C
    rw [hCl, show (p + 1) * 3 = p * 3 + 3 by omega, hcur2] at h
    rw [show (p + 1) * 3 = p * 3 + 3 by omega]
    exact h
  have hfin : ∀ W4 : World, W4.heap = ((W1.setRow N cur1).setRow N cur2).heap → Below base W W4 → InsEnd base (.slice (some ⟨g, 0, none⟩) n c1) (l.take p ++ ⟨no, [], 0⟩ :: l.drop p) W (.returned (.slice (some ⟨N, 0, none⟩) (n + 1) G)) W4 := fun W4 hW4 hB4 => by
    have hg4 : W4.heap[N]? = some (.cells cur2 32 (0, 0)) := by rw [hW4]; exact setRow_heap _ N cur1 cur2 _ _ (setRow_heap W1 N ROW cur1 _ _ hN1)
    refine ins_end hx hln (Nat.le_of_lt hp) (by omega) hg4 hGn hGm (by rw [← Array.length_toList]; exact hl2) ht2 (good_off hO (fun q _ hq _ => ?_)) hB4 (fun q hq _ => ?_)
    all_goals rw [hW4, setRow_other _ N q cur2 (by omega), setRow_other _ N q cur1 (by omega), hP1 q (by omega)]
  obtain ⟨o1, ho1⟩ : ∃ o1, (p + 1) * 3 = o1 := ⟨_, rfl⟩
  obtain ⟨o0, ho0⟩ : ∃ o0, p * 3 = o0 := ⟨_, rfl⟩
  obtain ⟨m0, hm0⟩ : ∃ m0, n + 1 - p = m0 := ⟨_, rfl⟩
  obtain ⟨m1, hm1⟩ : ∃ m1, n - p = m1 := ⟨_, rfl⟩
  obtain ⟨k0, hk0⟩ : ∃ k0, c1 - p = k0 := ⟨_, rfl⟩
  obtain ⟨j0, hj0⟩ : ∃ j0, G - p = j0 := ⟨_, rfl⟩
  obtain ⟨j1, hj1⟩ : ∃ j1, G - (p + 1) = j1 := ⟨_, rfl⟩
  obtain ⟨M1, hM1⟩ : ∃ M1, n + 1 = M1 := ⟨_, rfl⟩
  have z1 := sliceLowF g n c1 p (p : Int) rfl (by omega) (by omega) m1 k0 o0 hm1.symm hk0.symm ho0.symm
  have z2 := sliceHighF (some ⟨g, 0, none⟩) n c1 p (p : Int) (by omega) (by omega)
  have z3 := sliceLowF N M1 G (p + 1) ((p : Int) + 1) (by omega) (by omega) (by omega) m1 j1 o1 (by omega) hj1.symm ho1.symm
  have z4 := sliceLowF N M1 G p (p : Int) rfl (by omega) (by omega) m0 j0 o0 (by omega) hj0.symm ho0.symm
  rw [hN, hM1] at hrz
  rw [ho0, hm0, hj0] at hcpA
  rw [ho0, ho1, hm1, hk0, hj1] at hcpB
  rw [hM1] at hfin
  subst hW1
  have HCA := Lib.hid hcpA
  have HCB := Lib.hid hcpB
  have HRZ := Lib.hid hrz
  have HFIN := Lib.hid hfin
  have HBB := Lib.hid (show base ≤ N by omega)
  have HB0 := Lib.hid (show Below base W (W.drew.alloc (.cells ROW 32)) from (below_drew (Below.refl base W)).alloc hb _)
  have hw1 : IntKind.i64.wrap ((p : Int) + 1) = (p : Int) + 1 := by rw [IntKind.wrap_i64]; omega
  have hw2 : IntKind.i64.wrap ((n : Int) + 1) = (n : Int) + 1 := by rw [IntKind.wrap_i64]; omega
  have hw3 : IntKind.i64.wrap ((n : Int) + 1 - (p : Int)) = (n : Int) + 1 - (p : Int) := by rw [IntKind.wrap_i64]; omega
  have hq1 : ¬ ((p : Int) = (n : Int)) := by omega
  have hq2 : (c1 : Int) < (n : Int) + 1 := by omega
  have mixed : Try.prog.follows Departure.mixedOrders = true := by kernel_rfl
  clear hgh hcpA hcpB hrz hfin ht1 ht2 hl1 hl2 hcell hcell0 hnewc h1C hCl hcur1 hcur2 hCS hBl hAl hA htk hcs hx hln hO hv hxl hold hkk hik hROW hG hRl hN1 hP1 hi0 hz0 hzs hzb
  go_enter Try.func43, Try.ntmps43
  go_wp2_with (first
    | (at_builtin; refine Lib.wpList_append_run _ rfl _ _ _ _ rfl _ _ rfl rfl _ _ (HRZ.out _) ?_)
    | (refine wpList_copy_runF _ rfl _ _ 22 22 rfl _ _ rfl rfl (HCA.out _ (by rfl) _) ?_))
  go_region_law_o (refine step_copy_runF rfl _ _ 22 22 rfl (.slice (some ⟨N, o1, none⟩) m1 j1) (.slice (some ⟨g, o0, none⟩) m1 k0) (by simp [Act.eval, Act.put]) (by simp [Act.eval, Act.put]) (HCB.out _ (by rfl) _) ?_)
  go_wp2_with (fail)
  go_ret
  exact HFIN.out _ rfl (below_setRow (below_setRow HB0.out HBB.out cur1).drew HBB.out cur2)
/-- A file put into a row of files, at any place. -/
theorem insert_calls (W : World) (base : Nat) (A1 : Option Addr) (c1 : Nat) (xs : List FX) (l : List Fl) (no : Int) (vb p : Nat) (hO : OwnF W base (.slice A1 l.length c1) l.length xs) (hx : xs.map flX = l) (hv : BoxC W vb (cellsX (newX no)).toArray 32) (hvg : (Value.slice A1 l.length c1).ownBlock ≠ some vb) (hl : l.length ≤ 1000) (hb : base ≤ W.heap.size) (hp : p ≤ l.length) :
    Calls Try.prog 43 #[.slice A1 l.length c1, .int .i64 (p : Int), .slice (some ⟨vb, 0, none⟩) 1 1] W (InsEnd base (.slice A1 l.length c1) (l.take p ++ ⟨no, [], 0⟩ :: l.drop p) W) := by
  rcases Nat.lt_or_ge p l.length with h | h
  · obtain ⟨g, rfl, hg1, hg2⟩ := hO.form (by omega)
    have hne : vb ≠ g := fun e => hvg (by rw [e]; rfl)
    rcases Nat.lt_or_ge c1 (l.length + 1) with h1 | h1
    · exact insert_grow W base g c1 xs l no vb p l.length hO hx rfl hv hne hl hb h h1
    · exact insert_room W base g c1 xs l no vb p l.length hO hx rfl hv hne hl hb h h1
  · obtain rfl : p = l.length := by omega
    rw [List.take_length, List.drop_length]
    exact insert_end W base A1 c1 xs l no vb hO hx hv hl hb
end Go.Proofs.Ytahiigcofgnncaa.H
