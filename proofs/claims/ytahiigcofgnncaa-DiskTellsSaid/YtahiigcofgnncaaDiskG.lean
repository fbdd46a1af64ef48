import Derived.Test.YtahiigcofgnncaaDiskF
/-! Layer 6: files of one's own; what a crash leaves, step by step. -/
namespace Go.Proofs.Ytahiigcofgnncaa.H
open Go.RowKit Moor Go.Proofs.YtahiigcofgnncaaW.PrintWords Go.Proofs.YtahiigcofgnncaaW.PrintLast Go.Proofs.YtahiigcofgnncaaW.PrintMore
set_option linter.unusedVariables false
set_option linter.unusedSimpArgs false

/-- Files whose row and whose bytes are one's own, no two in one block. -/
def OwnF (W : World) (base : Nat) (v : Value) (n : Nat) (xs : List FX) : Prop :=
  xs.length = n ∧ W.ownsRow base 32 3 v n (flat xs) ∧ (∀ (i : Nat) (x : FX), xs[i]? = some x → GoodX W base x) ∧ (∀ (i j : Nat) (x y : FX), i < j → xs[i]? = some x → xs[j]? = some y → NeRow (vX x) (vX y))
theorem HalfF.own {w W : World} {base : Nat} {v : Value} {l : List Fl} {xs : List FX} (h : HalfF w W base v l xs l.length) : OwnF W base v l.length xs := by
  have hlen := h.len
  obtain ⟨h1, h2, h3, h4⟩ := h
  refine ⟨hlen, h2, fun i x hx => ?_, fun i j x y hij hx hy => ?_⟩
  · have := h3 i x hx
    rw [if_pos (by have := (List.getElem?_eq_some_iff.1 hx).1; omega)] at this
    exact this
  · exact h4 i j x y hij (by have := (List.getElem?_eq_some_iff.1 hy).1; omega) hx hy
theorem OwnF.moved {W W1 : World} {base n : Nat} {v : Value} {xs : List FX} (h : OwnF W base v n xs) (hm : ∀ q, base ≤ q → q < W.heap.size → W1.heap[q]? = W.heap[q]?) : OwnF W1 base v n xs := by
  obtain ⟨h1, h2, h3, h4⟩ := h
  exact ⟨h1, own_move h2 (fun j hj => hm j (own_base h2 j hj) (own_lt h2 j hj)), fun i x hx => Kd.R_mono (Kd.R_move (Kd.R_bound (h3 i x hx)) (fun q hq => hm q hq.2.1 hq.2.2.1)) (fun _ _ => trivial), h4⟩
theorem OwnF.lower {W : World} {base base' n : Nat} {v : Value} {xs : List FX} (h : OwnF W base v n xs) (hb : base' ≤ base) : OwnF W base' v n xs := by
  obtain ⟨h1, h2, h3, h4⟩ := h
  exact ⟨h1, own_weaken h2 hb, fun i x hx => Kd.R_lower (h3 i x hx) hb, h4⟩
theorem OwnF.form {W : World} {base n : Nat} {A : Option Addr} {c : Nat} {xs : List FX} (h : OwnF W base (.slice A n c) n xs) (hn : 0 < n) : ∃ g, A = some ⟨g, 0, none⟩ ∧ base ≤ g ∧ g < W.heap.size := by
  obtain ⟨g, cap', he, h1, h2⟩ := h.2.1.form hn
  injection he with he1 he2 he3
  exact ⟨g, he1, h1, h2⟩
theorem OwnF.get {W : World} {base g n c : Nat} {xs : List FX} (h : OwnF W base (.slice (some ⟨g, 0, none⟩) n c) n xs) (i : Nat) (hi : i < n) :
    ∃ x, xs[i]? = some x ∧ W.cell? ⟨g, i * 3, none⟩ = some (.int .i64 x.no) ∧ W.cell? ⟨g, i * 3 + 1, none⟩ = some (vX x) ∧ W.cell? ⟨g, i * 3 + 2, none⟩ = some (.int .i64 x.sure) ∧ GoodX W base x ∧ (∀ j, W.frozen? ⟨g, j, none⟩ = false) := by
  have hx : i < xs.length := by rw [h.1]; exact hi
  have e : ∀ j, j < 3 → W.cell? ⟨g, i * 3 + j, none⟩ = (cellsX xs[i])[j]? := fun j hj => by
    rw [h.2.1.cellAt (i * 3 + j) (by omega), flat_get _ _ _ hj, List.getElem?_eq_getElem hx]
    rfl
  exact ⟨xs[i], List.getElem?_eq_getElem hx, e 0 (by omega), e 1 (by omega), e 2 (by omega), h.2.2.1 i _ (List.getElem?_eq_getElem hx), fun j => h.2.1.frozenAt j⟩
theorem add_plain (g o j : Nat) : (⟨g, o, none⟩ : Addr).add j = ⟨g, o + j, none⟩ := by unfold Addr.add; split <;> simp_all
theorem OwnF.reads {W : World} {base n c : Nat} {A : Option Addr} {xs : List FX} (h : OwnF W base (.slice A n c) n xs) : n ≤ c ∧ Kd.C kF W A (xs.map flX).length (xs.map flX) := by
  have hc := own_le h.2.1
  refine ⟨hc, rfl, ?_, fun hp => ?_⟩
  · rcases h.2.1.2 with ⟨_, h0⟩ | ⟨g, cap, cur, he, _, _, hnc, hcm, _⟩
    · rw [List.length_map, h.1]; omega
    · rw [List.length_map, h.1]; unfold maxLen at hcm; omega
  · rw [List.length_map, h.1] at hp
    obtain ⟨g, rfl, _⟩ := h.form hp
    refine ⟨_, rfl, fun j p hj => ?_⟩
    have hjn : j < n := by have := (List.getElem?_eq_some_iff.1 hj).1; rw [List.length_map, h.1] at this; exact this
    obtain ⟨x, hx, c0, c1, c2, hg, _⟩ := h.get j hjn
    rw [List.getElem?_map, hx] at hj
    cases hj
    obtain ⟨q1, q2, q3⟩ := Kd.R_reads' hg
    refine ⟨cellsX x, rfl, kF_mk W (flX x) q2 q3, fun i u hu => ?_⟩
    have hs : kF.sz = 3 := rfl
    rw [hs, add_plain, Nat.zero_add]
    match i, hu with
    | 0, hu => cases hu; exact c0
    | 1, hu => cases hu; exact c1
    | 2, hu => cases hu; exact c2
    | i + 3, hu => simp at hu
/-- One file made another, in its own cells and its own bytes. -/
theorem OwnF.put {W W' : World} {base g n c : Nat} {xs : List FX} (h : OwnF W base (.slice (some ⟨g, 0, none⟩) n c) n xs) {i : Nat} {x x' : FX} (hx : xs[i]? = some x) (hrow : W'.ownsRow base 32 3 (.slice (some ⟨g, 0, none⟩) n c) n (flat (xs.set i x')))
    (hm : ∀ q, base ≤ q → q < W.heap.size → q ≠ g → (vX x).ownBlock ≠ some q → W'.heap[q]? = W.heap[q]?) (hg : GoodX W' base x') (ho : ∀ q, (vX x').ownBlock = some q → (vX x).ownBlock = some q ∨ W.heap.size ≤ q) : OwnF W' base (.slice (some ⟨g, 0, none⟩) n c) n (xs.set i x') := by
  obtain ⟨h1, h2, h3, h4⟩ := h
  obtain ⟨cells, hgb⟩ := own_typed h2 g rfl
  have hil := (List.getElem?_eq_some_iff.1 hx).1
  have hne : ∀ j y, j ≠ i → xs[j]? = some y → NeRow (vX x) (vX y) := fun j y hj hy => by
    rcases Nat.lt_or_ge j i with hlt | hge
    · exact ne_symm (h4 j i y x hlt hy hx)
    · exact h4 i j x y (by omega) hx hy
  have hne' : ∀ j y, j ≠ i → xs[j]? = some y → NeRow (vX x') (vX y) := fun j y hj hy q hq hq' => by
    rcases ho q hq with h0 | h0
    · exact hne j y hj hy q h0 hq'
    · have := Kd.R_lt (h3 j y hy) q hq'
      omega
  refine ⟨by rw [List.length_set]; exact h1, hrow, fun j y hy => ?_, fun j k y z hjk hy hz => ?_⟩
  · rw [List.getElem?_set] at hy
    by_cases hji : i = j
    · subst hji
      rw [if_pos rfl, if_pos hil] at hy
      cases hy
      exact hg
    · rw [if_neg hji] at hy
      have hyg := h3 j y hy
      have ht : ∀ q, q ∈ (5 : TypeId) :: kB.E → q ≠ 32 := by intro q hq; simp [Kd.int, Kd.scalar] at hq; subst hq; decide
      have hb := Kd.R_bound hyg
      have hy2 : Kd.R kB 5 W base (fun q => q < W.heap.size ∧ base ≤ q ∧ q ≠ g ∧ (vX x).ownBlock ≠ some q) (vX y) y.data := by
        have r1 := Kd.R_tight (by rfl) hyg
        have r2 := Kd.R_bound r1
        refine Kd.R_mono r2 (fun q hq => ⟨hq.2.2.1, hq.2.1, fun e => ?_, fun e => hne j y (fun e2 => hji e2.symm) hy q e hq.1.symm⟩)
        subst e
        obtain ⟨t, ht1, cs, ht2⟩ := hq.2.2.2
        rw [hgb] at ht2
        injection ht2 with ht2
        injection ht2 with _ ht2
        exact ht t ht1 ht2.symm
      exact Kd.R_mono (Kd.R_move hy2 (fun q hq => hm q hq.2.1 hq.1 hq.2.2.1 hq.2.2.2)) (fun _ _ => trivial)
  · rw [List.getElem?_set] at hy hz
    by_cases hji : i = j
    · subst hji
      rw [if_pos rfl, if_pos hil] at hy
      cases hy
      rw [if_neg (by omega)] at hz
      exact hne' k z (by omega) hz
    · rw [if_neg hji] at hy
      by_cases hki : i = k
      · subst hki
        rw [if_pos rfl, if_pos hil] at hz
        cases hz
        exact ne_symm (hne' j y (by omega) hy)
      · rw [if_neg hki] at hz
        exact h4 j k y z hjk hy hz

theorem row_put {W : World} {base g n cap : Nat} {xs : List FX} {i : Nat} {x : FX} (h : W.ownsRow base 32 3 (.slice (some ⟨g, 0, none⟩) n cap) n (flat xs)) (hx : xs[i]? = some x) (A' : Option Addr) (c' : Nat) (d' : List Int) (s' : Int) :
    ((W.setCell ⟨g, i * 3 + 1, none⟩ (.slice A' d'.length c')).setCell ⟨g, i * 3 + 2, none⟩ (.int .i64 s')).ownsRow base 32 3 (.slice (some ⟨g, 0, none⟩) n cap) n (flat (xs.set i ⟨x.no, A', c', d', s'⟩)) := by
  have h1 := (h.stored (i * 3 + 1) (.slice A' d'.length c')).1
  rw [flat_set xs i 1 (by omega) x ⟨x.no, A', c', d', x.sure⟩ hx (.slice A' d'.length c') rfl] at h1
  have h2 := (h1.stored (i * 3 + 2) (.int .i64 s')).1
  have hi := (List.getElem?_eq_some_iff.1 hx).1
  rw [flat_set _ i 2 (by omega) ⟨x.no, A', c', d', x.sure⟩ ⟨x.no, A', c', d', s'⟩ (List.getElem?_set_self hi) (.int .i64 s') rfl, List.set_set] at h2
  exact h2
theorem row_put1 {W : World} {base g n cap : Nat} {xs : List FX} {i : Nat} {x : FX} (h : W.ownsRow base 32 3 (.slice (some ⟨g, 0, none⟩) n cap) n (flat xs)) (hx : xs[i]? = some x) (A' : Option Addr) (c' : Nat) (d' : List Int) :
    (W.setCell ⟨g, i * 3 + 1, none⟩ (.slice A' d'.length c')).ownsRow base 32 3 (.slice (some ⟨g, 0, none⟩) n cap) n (flat (xs.set i ⟨x.no, A', c', d', x.sure⟩)) := by
  have h1 := (h.stored (i * 3 + 1) (.slice A' d'.length c')).1
  rw [flat_set xs i 1 (by omega) x ⟨x.no, A', c', d', x.sure⟩ hx (.slice A' d'.length c') rfl] at h1
  exact h1
theorem row_put2 {W : World} {base g n cap : Nat} {xs : List FX} {i : Nat} {x : FX} (h : W.ownsRow base 32 3 (.slice (some ⟨g, 0, none⟩) n cap) n (flat xs)) (hx : xs[i]? = some x) (s' : Int) :
    (W.setCell ⟨g, i * 3 + 2, none⟩ (.int .i64 s')).ownsRow base 32 3 (.slice (some ⟨g, 0, none⟩) n cap) n (flat (xs.set i ⟨x.no, x.A, x.c, x.data, s'⟩)) := by
  have h1 := (h.stored (i * 3 + 2) (.int .i64 s')).1
  rw [flat_set xs i 2 (by omega) x ⟨x.no, x.A, x.c, x.data, s'⟩ hx (.int .i64 s') rfl] at h1
  exact h1
theorem drop_two {α : Type} (q : List α) : q.drop 2 = q.tail.tail := by
  cases q with
  | nil => rfl
  | cons a t => cases t <;> rfl
theorem crashF_eq (no : Int) (data : List Int) (s m K : Nat) (q : List Int) (hL : data.length = s + m) (hk : keepN q m = K) :
    crashF ⟨no, data, (s : Int)⟩ q = ⟨no, if q.tail.headD 0 % 2 ≠ 0 then tornB s (data.take (s + K)) else data.take (s + K), ((s + K : Nat) : Int)⟩ := by
  unfold crashF
  dsimp only
  rw [Int.toNat_natCast, hL, show s + m - s = m by omega, hk]
/-- Bytes of which those from m to j are torn. -/
def tornTo (b : List Int) (m j : Nat) : List Int := b.mapIdx (fun i x => if m ≤ i ∧ i < j then xorT x else x)
theorem tornTo_len (b : List Int) (m j : Nat) : (tornTo b m j).length = b.length := by unfold tornTo; simp
theorem tornTo_get (b : List Int) (m j i : Nat) : (tornTo b m j)[i]? = (b[i]?).map (fun x => if m ≤ i ∧ i < j then xorT x else x) := by unfold tornTo; simp
theorem tornTo_same (b : List Int) (m : Nat) : tornTo b m m = b := by
  apply List.ext_getElem?
  intro i
  rw [tornTo_get]
  cases b[i]? with
  | none => rfl
  | some x => simp only [Option.map_some]; rw [if_neg (by omega)]
theorem tornTo_set (b : List Int) (m j : Nat) (hm : m ≤ j) (hj : j < b.length) : (tornTo b m j).set j (xorT (b[j])) = tornTo b m (j + 1) := by
  apply List.ext_getElem?
  intro i
  rw [List.getElem?_set, tornTo_get, tornTo_get]
  by_cases h : j = i
  · subst h
    rw [if_pos rfl, if_pos (by rw [tornTo_len]; exact hj), List.getElem?_eq_getElem hj]
    simp only [Option.map_some]
    rw [if_pos (by omega)]
  · rw [if_neg h]
    cases b[i]? with
    | none => rfl
    | some x =>
      simp only [Option.map_some]
      by_cases h2 : m ≤ i ∧ i < j
      · rw [if_pos h2, if_pos (by omega)]
      · rw [if_neg h2, if_neg (by omega)]
theorem tornB_to (f : Nat) (b : List Int) : tornB f b = tornTo b (max f (b.length - 8)) b.length := by
  unfold tornB
  generalize max f (b.length - 8) = m
  apply List.ext_getElem?
  intro i
  rw [tornTo_get]
  rcases Nat.lt_or_ge i m with h | h
  · rcases Nat.lt_or_ge i b.length with h2 | h2
    · rw [List.getElem?_append_left (by rw [List.length_take]; omega), List.getElem?_take, if_pos h, List.getElem?_eq_getElem h2]
      simp only [Option.map_some]
      rw [if_neg (by omega)]
    · rw [List.getElem?_eq_none (by simp; omega), List.getElem?_eq_none h2]
      rfl
  · rcases Nat.lt_or_ge i b.length with h2 | h2
    · rw [List.getElem?_append_right (by rw [List.length_take]; omega), List.getElem?_map, List.getElem?_drop, List.length_take, show m + (i - min m b.length) = i by omega, List.getElem?_eq_getElem h2]
      simp only [Option.map_some]
      rw [if_pos ⟨h, h2⟩]
    · rw [List.getElem?_eq_none (by simp; omega), List.getElem?_eq_none h2]
      rfl
theorem u8_xor_nat (a b : Nat) (ha : a < 256) (hb : b < 256) : bits .xor .u8 (a : Int) (b : Int) = ((a ^^^ b : Nat) : Int) := by
  have h1 : (BitVec.ofInt 8 (a : Int)).toNat = a := by rw [BitVec.ofInt_natCast, BitVec.toNat_ofNat]; exact Nat.mod_eq_of_lt (by omega)
  have h2 : (BitVec.ofInt 8 (b : Int)).toNat = b := by rw [BitVec.ofInt_natCast, BitVec.toNat_ofNat]; exact Nat.mod_eq_of_lt (by omega)
  have hx : a ^^^ b < 2 ^ 8 := Nat.xor_lt_two_pow (by omega) (by omega)
  show IntKind.u8.wrap ((BitVec.ofInt 8 (a : Int) ^^^ BitVec.ofInt 8 (b : Int)).toNat : Int) = _
  rw [BitVec.toNat_xor, h1, h2]
  show (((a ^^^ b : Nat) : Int)) % 256 = _
  omega
theorem u8_xorT (a : Int) (h : 0 ≤ a ∧ a ≤ 255) : bits .xor .u8 a 165 = xorT a := by
  obtain ⟨n, rfl⟩ := Int.eq_ofNat_of_zero_le h.1
  have := u8_xor_nat n 165 (by omega) (by omega)
  unfold xorT
  rw [Int.toNat_natCast]
  exact this
theorem xorT_ok (a : Int) (h : 0 ≤ a ∧ a ≤ 255) : 0 ≤ xorT a ∧ xorT a ≤ 255 := by
  unfold xorT
  have hx : a.toNat ^^^ 165 < 2 ^ 8 := Nat.xor_lt_two_pow (by omega) (by omega)
  omega
theorem tmod_zero (v : Int) : Int.tmod v 2 = 0 ↔ v % 2 = 0 := by
  rcases Int.le_total 0 v with h | h
  · rw [Int.tmod_eq_emod_of_nonneg h]
  · obtain ⟨m, rfl⟩ : ∃ m : Int, v = -m := ⟨-v, by omega⟩
    rw [Int.neg_tmod, Int.tmod_eq_emod_of_nonneg (by omega)]
    omega
theorem odd_tmod (v : Int) : (Int.tmod v 2 != 0) = decide (v % 2 ≠ 0) := by
  by_cases h : v % 2 = 0
  · rw [(tmod_zero v).2 h, decide_eq_false (by omega)]
    rfl
  · have h2 : Int.tmod v 2 ≠ 0 := fun e => h ((tmod_zero v).1 e)
    rw [decide_eq_true h]
    simpa using h2
end Go.Proofs.Ytahiigcofgnncaa.H
