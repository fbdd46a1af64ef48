import Derived.Test.YtahiigcofgnncaaDiskC
import Derived.Test.YtahiigcofgnncaaDiskS
import Derived.Deep.Slices
/-! Layer 6: a disk of its own, walked. -/
namespace Go.Proofs.Ytahiigcofgnncaa.H
open Go.RowKit Moor Go.Proofs.YtahiigcofgnncaaW.PrintWords Go.Proofs.YtahiigcofgnncaaW.PrintLast Go.Proofs.YtahiigcofgnncaaW.PrintMore
set_option linter.unusedVariables false
set_option linter.unusedSimpArgs false

/-- A file with where its bytes lie. -/
structure FX where
  no : Int
  A : Option Addr
  c : Nat
  data : List Int
  sure : Int
instance : Inhabited FX := ⟨⟨0, none, 0, [], 0⟩⟩
abbrev flX (x : FX) : Fl := ⟨x.no, x.data, x.sure⟩
abbrev vX (x : FX) : Value := .slice x.A x.data.length x.c
abbrev cellsX (x : FX) : List Value := [.int .i64 x.no, vX x, .int .i64 x.sure]
def flat (xs : List FX) : List Value := xs.flatMap cellsX
theorem flat_len (xs : List FX) : (flat xs).length = xs.length * 3 := by
  induction xs with
  | nil => rfl
  | cons x xs ih => unfold flat at *; rw [List.flatMap_cons, List.length_append, ih]; simp; omega
theorem flat_get : ∀ (xs : List FX) (i j : Nat), j < 3 → (flat xs)[i * 3 + j]? = (xs[i]?).bind (fun x => (cellsX x)[j]?)
  | [], i, j, hj => by simp [flat]
  | x :: xs, 0, j, hj => by
    show (cellsX x ++ flat xs)[0 * 3 + j]? = _
    rw [List.getElem?_append_left (by simp; omega)]
    simp
  | x :: xs, i + 1, j, hj => by
    show (cellsX x ++ flat xs)[(i + 1) * 3 + j]? = _
    rw [List.getElem?_append_right (by simp; omega)]
    have := flat_get xs i j hj
    rw [show (i + 1) * 3 + j - (cellsX x).length = i * 3 + j by simp; omega, this]
    simp
theorem flat_set (xs : List FX) (i j : Nat) (hj : j < 3) (x y : FX) (hx : xs[i]? = some x) (v : Value) (hy : cellsX y = (cellsX x).set j v) : (flat xs).set (i * 3 + j) v = flat (xs.set i y) := by
  obtain ⟨hi, hxi⟩ := List.getElem?_eq_some_iff.1 hx
  apply List.ext_getElem?
  intro q
  have hq : q = q / 3 * 3 + q % 3 := by omega
  have hm : q % 3 < 3 := by omega
  rw [hq, flat_get _ _ _ hm, List.getElem?_set]
  by_cases h1 : q / 3 = i
  · rw [h1]
    by_cases h2 : q % 3 = j
    · rw [h2, if_pos rfl, if_pos (by rw [flat_len]; omega)]
      rw [List.getElem?_set_self hi]
      show _ = (cellsX y)[j]?
      rw [hy, List.getElem?_set_self (by simpa using hj)]
    · rw [if_neg (by omega), flat_get _ _ _ hm, hx, List.getElem?_set_self hi]
      show (cellsX x)[q % 3]? = (cellsX y)[q % 3]?
      rw [hy, List.getElem?_set_ne (by omega)]
  · rw [if_neg (by omega), flat_get _ _ _ hm, List.getElem?_set_ne (by omega)]
theorem flat_one (xs : List FX) : ∀ u ∈ flat xs, u.oneCell' = true := by
  intro u hu
  obtain ⟨x, _, hx⟩ := List.mem_flatMap.1 hu
  simp at hx
  rcases hx with rfl | rfl | rfl <;> rfl
def ReadX (w : World) (x : FX) : Prop := Kd.C kB w x.A x.data.length x.data ∧ x.data.length ≤ x.c
theorem fx_of {w : World} {A : Option Addr} {l : List Fl} (h : Kd.C kF w A l.length l) : ∃ xs : List FX, xs.map flX = l ∧ (∀ x ∈ xs, ReadX w x) ∧ (0 < l.length → ∃ ad, A = some ad ∧ ∀ j u, (flat xs)[j]? = some u → w.cell? (ad.add j) = some u) := by
  rcases Nat.eq_zero_or_pos l.length with h0 | hpos
  · refine ⟨[], ?_, (fun x hx => by cases hx), fun h => absurd h (by omega)⟩
    exact (List.length_eq_zero_iff.1 h0).symm
  · obtain ⟨ad, e, hc⟩ := h.2.2 hpos
    have hp : ∀ i, i < l.length → ∃ x : FX, some (flX x) = l[i]? ∧ ReadX w x ∧ ∀ j u, (cellsX x)[j]? = some u → w.cell? (ad.add (i * 3 + j)) = some u := fun i hi => by
      obtain ⟨c, hl, hK, hcell⟩ := hc i _ (List.getElem?_eq_getElem hi)
      obtain ⟨A1, c1, rfl, h1, h2⟩ := kF_open hK
      exact ⟨⟨l[i].no, A1, c1, l[i].data, l[i].sure⟩, by rw [List.getElem?_eq_getElem hi], ⟨h2, h1⟩, hcell⟩
    obtain ⟨f, hf⟩ := Go.Deep.choose_lt hp
    refine ⟨(List.range l.length).map f, ?_, fun x hx => ?_, fun _ => ⟨ad, e, fun q u hu => ?_⟩⟩
    · apply List.ext_getElem?
      intro i
      rcases Nat.lt_or_ge i l.length with hi | hi
      · have := (hf i hi).1
        rw [← this]
        simp [hi]
      · rw [List.getElem?_eq_none (by simpa using hi), List.getElem?_eq_none hi]
    · obtain ⟨i, hi, rfl⟩ := List.mem_map.1 hx
      exact (hf i (by simpa using hi)).2.1
    · have hq : q = q / 3 * 3 + q % 3 := by omega
      rw [hq, flat_get _ _ _ (by omega)] at hu
      rw [hq]
      have hi : q / 3 < l.length := by
        rcases Nat.lt_or_ge (q / 3) l.length with h | h
        · exact h
        · rw [List.getElem?_eq_none (by simpa using h)] at hu; cases hu
      have he : ((List.range l.length).map f)[q / 3]? = some (f (q / 3)) := by simp [hi]
      rw [he] at hu
      exact (hf (q / 3) hi).2.2 _ _ hu
/-- A row of one's own bytes. -/
def GoodX (W : World) (base : Nat) (x : FX) : Prop := Kd.R kB 5 W base (fun _ => True) (vX x) x.data
/-- Files in a row of one's own, the first k of which have bytes of their own; the others lead to what lay in w. -/
def HalfF (w W : World) (base : Nat) (v : Value) (l : List Fl) (xs : List FX) (k : Nat) : Prop :=
  xs.map flX = l ∧ W.ownsRow base 32 3 v l.length (flat xs) ∧ (∀ i x, xs[i]? = some x → if i < k then GoodX W base x else ReadX w x) ∧ (∀ i j x y, i < j → j < k → xs[i]? = some x → xs[j]? = some y → NeRow (vX x) (vX y))
theorem HalfF.len {w W : World} {base : Nat} {v : Value} {l : List Fl} {xs : List FX} {k : Nat} (h : HalfF w W base v l xs k) : xs.length = l.length := by rw [← h.1, List.length_map]
theorem HalfF.get {w W : World} {base g cap : Nat} {l : List Fl} {xs : List FX} {k : Nat} (h : HalfF w W base (.slice (some ⟨g, 0, none⟩) l.length cap) l xs k) (i : Nat) (hi : i < l.length) :
    ∃ x, xs[i]? = some x ∧ flX x = l[i] ∧ W.cell? ⟨g, i * 3, none⟩ = some (.int .i64 x.no) ∧ W.cell? ⟨g, i * 3 + 1, none⟩ = some (vX x) ∧ W.cell? ⟨g, i * 3 + 2, none⟩ = some (.int .i64 x.sure) := by
  have hx : i < xs.length := by rw [h.len]; exact hi
  have e : ∀ j, j < 3 → W.cell? ⟨g, i * 3 + j, none⟩ = (cellsX xs[i])[j]? := fun j hj => by
    rw [h.2.1.cellAt (i * 3 + j) (by omega), flat_get _ _ _ hj, List.getElem?_eq_getElem hx]
    rfl
  refine ⟨xs[i], List.getElem?_eq_getElem hx, ?_, e 0 (by omega), e 1 (by omega), e 2 (by omega)⟩
  have := h.1
  subst this
  simp
theorem GoodX.below {W W1 : World} {base : Nat} {x : FX} (h : GoodX W base x) (hb : Below W.heap.size W W1) : GoodX W1 base x := Kd.R_below h hb
theorem half_step {w W W1 : World} {base g cap : Nat} {l : List Fl} {xs : List FX} {k : Nat} {x : FX} {A' : Option Addr} {c' : Nat} (h : HalfF w W base (.slice (some ⟨g, 0, none⟩) l.length cap) l xs k) (hx : xs[k]? = some x) (hb : Below W.heap.size W W1) (hbase : base ≤ W.heap.size)
    (hR : Kd.R kB 5 W1 W.heap.size (fun _ => True) (.slice A' x.data.length c') x.data) : HalfF w (W1.setCell ⟨g, k * 3 + 1, none⟩ (.slice A' x.data.length c')) base (.slice (some ⟨g, 0, none⟩) l.length cap) l (xs.set k ⟨x.no, A', c', x.data, x.sure⟩) (k + 1) := by
  obtain ⟨h1, h2, h3, h4⟩ := h
  obtain ⟨hk, hxk⟩ := List.getElem?_eq_some_iff.1 hx
  have o1 : W1.ownsRow base 32 3 (.slice (some ⟨g, 0, none⟩) l.length cap) l.length (flat xs) := own_move h2 (fun j hj => hb.block j (own_lt h2 j hj))
  obtain ⟨cells, hgb⟩ := own_typed o1 g rfl
  have hfx := flat_set xs k 1 (by omega) x ⟨x.no, A', c', x.data, x.sure⟩ hx (.slice A' x.data.length c') rfl
  have hst := (o1.stored (k * 3 + 1) (.slice A' x.data.length c')).1
  rw [hfx] at hst
  have ht : ∀ q, q ∈ (5 : TypeId) :: kB.E → q ≠ 32 := by intro q hq; simp [Kd.int, Kd.scalar] at hq; subst hq; decide
  refine ⟨?_, hst, fun i y hy => ?_, fun i j y z hij hj hy hz => ?_⟩
  · rw [List.map_set]
    show (xs.map flX).set k (flX x) = l
    rw [h1]
    have : l[k]? = some (flX x) := by rw [← h1, List.getElem?_map, hx]; rfl
    obtain ⟨hkl, hlk⟩ := List.getElem?_eq_some_iff.1 this
    rw [← hlk]
    exact List.set_getElem_self hkl
  · rw [List.getElem?_set] at hy
    by_cases hik : k = i
    · subst hik
      rw [if_pos rfl, if_pos hk] at hy
      injection hy with hy
      subst hy
      rw [if_pos (Nat.lt_succ_self _)]
      exact Kd.R_set (Kd.R_lower hR hbase) hgb ht _ _
    · rw [if_neg hik] at hy
      have := h3 i y hy
      by_cases hlt : i < k
      · rw [if_pos hlt] at this
        rw [if_pos (by omega)]
        exact Kd.R_set (Kd.R_below this hb) hgb ht _ _
      · rw [if_neg hlt] at this
        rw [if_neg (by omega)]
        exact this
  · rw [List.getElem?_set] at hy hz
    rw [if_neg (by omega)] at hy
    by_cases hjk : k = j
    · subst hjk
      rw [if_pos rfl, if_pos hk] at hz
      injection hz with hz
      subst hz
      have hyg := h3 i y hy
      rw [if_pos hij] at hyg
      intro q hq hq'
      have a1 := Kd.R_lt hyg q hq
      have a2 := Kd.R_base hR q hq'
      omega
    · rw [if_neg hjk] at hz
      exact h4 i j y z hij (by omega) hy hz

set_option maxRecDepth 100000 in
theorem infoF : (Try.prog.info? 32).map (fun i => (i.zero, i.size, i.bytes)) = some (some (.agg #[.int .i64 0, .slice none 0 0, .int .i64 0]), 3, 40) := by kernel_rfl
set_option maxRecDepth 100000 in
set_option maxHeartbeats 4000000 in
theorem cloneF_calls (wq : World) (A : Option Addr) (c : Nat) (l : List Fl) (w : World) (hR : Kd.C kF wq A l.length l) (hbq : Below wq.heap.size wq w) (hc : l.length ≤ c) (hl : l.length ≤ 1000000) :
    Calls Try.prog 52 #[.slice A l.length c] w fun e w' => ∃ (A' : Option Addr) (c' : Nat) (xs : List FX), e = .returned (.slice A' l.length c') ∧ HalfF wq w' w.heap.size (.slice A' l.length c') l xs 0 ∧ Below w.heap.size w w' := by
  have q22 : ∀ (w : World) (a : Option Addr) (n c n' c' : Nat), (binOp .eql 22 (.slice a n c) (.slice none n' c')).run Try.prog w = .ok (.bool a.isNone) w := fun w a n c n' c' => Lib.run_eql_slice_nil w _ _ a n c n' c' Try.underlying22
  obtain ⟨xs, h1, h2, h3⟩ := fx_of hR
  have hxl : xs.length = l.length := by rw [← h1, List.length_map]
  cases A with
  | none =>
    have h0 : l = [] := by
      rcases Nat.eq_zero_or_pos l.length with h | h
      · exact List.length_eq_zero_iff.1 h
      · obtain ⟨ad, e, _⟩ := h3 h
        cases e
    subst h0
    go_enter Try.func52, Try.ntmps52
    go_wp2_with (fail)
    go_ret
    exact ⟨none, 0, [], rfl, ⟨rfl, World.ownsRow_nil _ _ _ _, (fun i x h => by cases h), (fun i j x y _ _ h => by cases h)⟩, Below.refl _ _⟩
  | some ad =>
    obtain ⟨i0, hi, hz0, hz1, hz2⟩ := info_parts infoF
    have hcells : ∀ j u, (flat xs)[j]? = some u → (w.alloc (.cells #[] 32)).cell? (ad.add j) = some u := fun j u hu => by
      have hj := (List.getElem?_eq_some_iff.1 hu).1
      rw [flat_len] at hj
      obtain ⟨ad', e, hc'⟩ := h3 (by omega)
      cases e
      exact cell_belowD (cell_belowD (hc' j u hu) hbq) (below_alloc (Below.refl _ _) _)
    obtain ⟨v1, w1, hr, ho, hg, -, hat⟩ := run_append_own_at (P := Try.prog) (w.alloc (.cells #[] 32)) w.heap.size 22 22 32 i0 _ 3 40 Try.underlying22 hi hz0 hz1 hz2 rfl (by omega) (.slice (some ⟨w.heap.size, 0, none⟩) 0 0) 0 []
      (by simpa using World.ownsRow_made (size := 3) w #[] 0 (Nat.le_refl _) (Nat.zero_le _) (by simp)) ad l.length c (flat xs) (by rw [flat_len, hxl]) hcells (flat_one xs) (by unfold maxLen; omega) (by omega) (by simp)
    have hB1 : Below w.heap.size w w1 := (below_alloc (Below.refl _ _) (.cells #[] 32)).grown hg (by simp) (fun j e => by cases e; exact Nat.le_refl _)
    have HRUN := Lib.hid hr
    rw [Nat.zero_add, List.nil_append] at ho
    obtain ⟨A', c', rfl⟩ := own_slice ho
    have HO := Lib.hid ho
    have H2 := Lib.hid h2
    have HB1 := Lib.hid hB1
    have HH1 := Lib.hid h1
    clear hr hcells ho hg hat h2 h3 hR hB1 h1 hxl
    go_enter Try.func52, Try.ntmps52
    go_wp2_with (at_builtin; refine Lib.wpList_append_run _ rfl _ _ _ _ rfl _ _ rfl rfl _ _ HRUN.out ?_)
    go_ret
    exact ⟨A', c', xs, rfl, ⟨HH1.out, HO.out, (fun i x h => by rw [if_neg (Nat.not_lt_zero i)]; exact H2.out x (List.mem_of_getElem? h)), (fun i j x y h1 h2 _ => absurd h2 (Nat.not_lt_zero j))⟩, HB1.out⟩
end Go.Proofs.Ytahiigcofgnncaa.H
