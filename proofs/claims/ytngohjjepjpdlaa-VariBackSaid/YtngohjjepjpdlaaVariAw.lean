import Derived.Test.YtngohjjepjpdlaaVariH
import Derived.ArgAppend
import Derived.OwnWalk
import Derived.Lib.Hide
import Derived.Maps.AppendAt
/-! mooringslaw01.awake answers true. -/
namespace Go.Proofs.Ytngohjjepjpdlaa.H
open Go.RowKit Moor Go.Proofs.YtngohjjepjpdlaaW.PrintWords Go.Proofs.YtngohjjepjpdlaaW.PrintLast Go.Proofs.YtngohjjepjpdlaaW.PrintMore
set_option linter.unusedVariables false
set_option linter.unusedSimpArgs false

/-- An append of one byte to a row of one's own: what the old slice shows stays. -/
theorem append_keep {P : Program} (w : World) {ops : Array Oper} {rest : List Oper} {o : Oper} {a : Act} {Q : Exit → Act → World → Prop} (hgd : o.guard = none) (s x : Operand) (t e : TypeId)
    (ho : o.op = .call { callee := .builtin .append, args := #[s, x], argTypes := #[t, t] }) (base : Nat) (i : TypeInfo) (z : Value) (bytes : Nat) (ht : P.underlying t = some (.slice e)) (hi : P.info? e = some i) (hz : i.zero = some z)
    (hsize : i.size = 1) (hby : i.bytes = bytes) (hzs : z.cells.size = 1) (g k cap : Nat) (xs : List Value) (hs : a.eval s = .slice (some ⟨g, 0, none⟩) k cap)
    (hown : w.ownsRow base e 1 (.slice (some ⟨g, 0, none⟩) k cap) k xs) (y : Value) (ad : Addr) (c : Nat) (hx : a.eval x = .slice (some ad) 1 c) (hy : w.cell? (ad.add 0) = some y) (h1 : y.oneCell' = true)
    (h63 : k + 1 ≤ maxLen) (hbytes : (k + 1) * bytes ≤ 140737488355328) (hbase : base ≤ w.heap.size)
    (h : ∀ v' w', w'.ownsRow base e 1 v' (k + 1) (xs ++ [y]) → Below base w w' → (∀ j u, xs[j]? = some u → w'.cell? ⟨g, j, none⟩ = some u) → wpList P ops Q rest (a.put o.dst v') w') : wpList P ops Q (o :: rest) a w := by
  have hold : ∀ j u, xs[j]? = some u → w.cell? ⟨g, j, none⟩ = some u := fun j u hj => by
    have := hown.cells (g := g) rfl j u hj
    rwa [add_plain] at this
  have hnews : ∀ j u, [y][j]? = some u → w.cell? (ad.add j) = some u := fun j u hj => by
    cases j with
    | zero =>
      simp at hj
      rw [← hj]
      exact hy
    | succ j => simp at hj
  have hb : base ≤ g := own_base hown g rfl
  have hl : xs.length = k * 1 := by have := hown.1; omega
  by_cases hr : k + 1 ≤ cap
  · refine wpList_append_fits w hgd s x t ho base e i 1 ht hi hsize g k cap xs hs hown ad 1 c [y] hx rfl hnews (by simpa using h1) hr fun w' h2 h3 => ?_
    refine h _ w' h2 (((Below.refl base w)).grown h3 hbase (fun j e => by cases e; exact hb)) fun j u hj => ?_
    have := h2.cells (g := g) rfl j u (by rw [List.getElem?_append_left (by have := List.getElem?_eq_some_iff.1 hj; exact this.1)]; exact hj)
    rwa [add_plain] at this
  · refine wpList_append_grows w hgd s x t ho e i z 1 bytes ht hi hz hsize hby hzs (by omega) (some ⟨g, 0, none⟩) k cap xs hs (by simp) hl (fun b hb j u hj => by cases hb; rw [add_plain]; exact hold j u hj) ad 1 c [y] hx rfl hnews (by simpa using h1) (by omega) h63 hbytes fun v' w' h2 h3 => ?_
    refine h v' w' (own_weaken h2 hbase) ((Below.refl base w).grown h3 hbase (fun j e => by cases e)) fun j u hj => ?_
    have hlt := World.block_lt_of_cell? w _ (hold j u hj)
    have := h3.block g hlt (by simp)
    rw [World.cell?_of_block this]
    exact hold j u hj

theorem row_form {W : World} {base : Nat} {e : TypeId} {v : Value} {xs : List Int} {k : IntKind} {ok : Nat → Prop} (h : Kd.R (Kd.int k) e W base ok v xs) (hn : 0 < xs.length) :
    ∃ g cap, v = .slice (some ⟨g, 0, none⟩) xs.length cap ∧ W.ownsRow base e 1 (.slice (some ⟨g, 0, none⟩) xs.length cap) xs.length (nums k xs) ∧ xs.length ≤ cap := by
  have ho : W.ownsRow base e 1 v xs.length (nums k xs) := Kd.own_of_R h
  obtain ⟨A, c, hv, hc, _⟩ := Kd.R_reads h
  rcases ho.2 with ⟨rfl, h0⟩ | ⟨g, cap, cur, rfl, hb, hh, hr⟩
  · omega
  · refine ⟨g, cap, rfl, ho, ?_⟩
    cases hv
    exact hc

theorem lit_reads (W : World) (k : IntKind) (e : TypeId) (xs : List Int) (hm : xs.length ≤ 9223372036854775807) : Kd.C (Kd.int k) (W.alloc (.cells (nums k xs).toArray e)) (some ⟨W.heap.size, 0, none⟩) xs.length xs :=
  (Kd.R_reads' (Kd.R_of_own (ok := fun _ => True) (h1 := fun _ => rfl) (own_lit W 0 e k xs (by omega) hm) (fun _ _ => trivial))).2.2

theorem info5 : (Try.prog.info? 5).map (fun i => (i.zero, i.size, i.bytes)) = some (some (.int .u8 0), 1, 1) := by kernel_rfl

set_option maxRecDepth 100000 in
set_option maxHeartbeats 8000000 in
theorem awake_true (w : World) : Calls Try.prog 9 #[] w fun e w' => e = .returned (.bool true) ∧ Below w.heap.size w w' := by
  obtain ⟨i0, hi, hz0, hz1, hz2⟩ := info_parts info5
  go_enter Try.func9, Try.ntmps9
  go_wp2_with (fail)
  refine (vari_Put.calls 300 [172, 2] w (by decide)).mono ?_
  rintro e w1 ⟨v1, rfl, hR1, hb1⟩
  obtain ⟨g, cap, rfl, ho1, hcap⟩ := row_form hR1 (by simp)
  simp only [List.length_cons, List.length_nil, Nat.zero_add, Nat.reduceAdd] at ho1 hcap ⊢
  go_wp2_with (fail)
  refine (vari_Get.calls (some ⟨g, 0, none⟩) cap [172, 2] 0 300 2 w1 (Kd.R_reads' hR1).2.2 hcap (by decide)).mono ?_
  rintro e w2 ⟨rfl, hb2⟩
  go_wp2_with (fail)
  have hC1 : Kd.C (Kd.int .u8) (w2.alloc (.cells #[.int .u8 128, .int .u8 0] 5)) (some ⟨w2.heap.size, 0, none⟩) ([128, 0] : List Int).length [128, 0] := lit_reads w2 .u8 5 [128, 0] (by simp)
  refine (vari_Get.calls (some ⟨w2.heap.size, 0, none⟩) 2 [128, 0] 0 0 (-1) _ hC1 (by simp) (by decide)).mono ?_
  rintro e w3 ⟨rfl, hb3⟩
  have hb13 : Below w1.heap.size w1 w3 := hb2.trans (((Below.refl _ w2).alloc (Nat.le_refl _) _).trans (hb3.mono (by simp)) |>.mono hb2.size)
  have ho3 := pw_own_below ho1 hb13
  have hs3 : w.heap.size ≤ w3.heap.size := Nat.le_trans hb1.size hb13.size
  clear hC1
  go_wp2_with (at_builtin; refine append_keep _ rfl _ _ 22 5 rfl w.heap.size i0 (.int .u8 0) 1 Try.underlying22 hi hz0 hz1 hz2 rfl g 2 cap (nums .u8 [172, 2]) rfl (ho3.alloc _) (.int .u8 5) ⟨w3.heap.size, 0, none⟩ 1 rfl (by simp [Addr.add]) rfl (by unfold maxLen; omega) (by omega) (by simp; omega) ?_; intro v4 w4 ho4 hb4 hk4)
  have hR4 : Kd.R (Kd.int .u8) 5 w4 w.heap.size (fun _ => True) v4 ([172, 2, 5] : List Int) := Kd.R_of_own (h1 := fun _ => rfl) ho4 (fun _ _ => trivial)
  obtain ⟨A4, c4, rfl, hc4, hC4⟩ := Kd.R_reads hR4
  refine (vari_Read.calls A4 c4 [172, 2, 5] [300, 5] true w4 hC4 hc4 (by decide)).mono ?_
  rintro e w5 ⟨v5, rfl, hR5, hb5⟩
  obtain ⟨g5, cap5, rfl, ho5, hcap5⟩ := row_form hR5 (by simp)
  simp only [List.length_cons, List.length_nil, Nat.zero_add, Nat.reduceAdd] at ho5 hcap5 ⊢
  have hs4 : w.heap.size ≤ w4.heap.size := by have := hb4.size; simp at this; omega
  go_wp2_with (fail)
  have hC6 : Kd.C (Kd.int .i64) (w5.alloc (.cells #[.int .i64 300, .int .i64 5] 3)) (some ⟨w5.heap.size, 0, none⟩) ([300, 5] : List Int).length [300, 5] := lit_reads w5 .i64 3 [300, 5] (by simp)
  refine (vari_All.calls (some ⟨w5.heap.size, 0, none⟩) 2 [300, 5] [172, 2, 5] true _ hC6 (by simp) (by decide)).mono ?_
  rintro e w6 ⟨v6, rfl, hR6, hb6⟩
  obtain ⟨g6, cap6, rfl, ho6, hcap6⟩ := row_form hR6 (by simp)
  simp only [List.length_cons, List.length_nil, Nat.zero_add, Nat.reduceAdd] at ho6 hcap6 ⊢
  have hb56 : Below w5.heap.size w5 w6 := ((Below.refl _ w5).alloc (Nat.le_refl _) _).trans (hb6.mono (by simp))
  have hb46 : Below w4.heap.size w4 w6 := hb5.trans (hb56.mono hb5.size)
  have k0 : w6.cell? ⟨g, 0, none⟩ = some (.int .u8 172) := pw_cell_below hb46 (hk4 0 _ rfl)
  have k1 : w6.cell? ⟨g, 1, none⟩ = some (.int .u8 2) := pw_cell_below hb46 (hk4 1 _ rfl)
  have k5 : w6.cell? ⟨g5, 1, none⟩ = some (.int .i64 5) := pw_cell_below hb56 (own_at ho5 1 (by omega) (by omega)).1
  have hfin : Below w.heap.size w w6 := hb1.trans ((hb13.mono hb1.size).trans ((((Below.refl _ w3).alloc hs3 _).trans hb4).trans (hb46.mono hs4)))
  clear hC6 hR1 hR4 hR5 hR6 ho1 ho3 ho4 ho5 ho6 hk4 hC4
  go_wp2_with (fail)
  go_ret
  exact ⟨rfl, hfin⟩

/-- .. in the printer's form. -/
def mooringslaw01_awake.f : Option Bool := some true
theorem mooringslaw01_awake.calls (r : Bool) (w : World) (h : mooringslaw01_awake.f = some r) :
    Calls Try.prog 9 #[] w fun e w' => e = .returned (.bool r) ∧ Below w.heap.size w w' := by
  obtain rfl : true = r := by simpa [mooringslaw01_awake.f] using h
  exact awake_true w

end Go.Proofs.Ytngohjjepjpdlaa.H
