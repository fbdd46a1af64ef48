import Derived.Test.YtiopafdndlodoaaRecP
import Derived.Test.YtiopafdndlodoaaMoorRecG
import Derived.Deep.MidRow
import Derived.Deep.QuietTactic
import Derived.BigQuiet
import Derived.Deep.RegionHeld3
/-! Layer 5: Get, its parts. -/
namespace Go.Proofs.Ytiopafdndlodoaa.H
open Go.RowKit Moor Go.Proofs.YtiopafdndlodoaaW.PrintWords Go.Proofs.YtiopafdndlodoaaW.PrintLast Go.Proofs.YtiopafdndlodoaaW.PrintMore
set_option linter.unusedVariables false
set_option linter.unusedSimpArgs false

/-- A part of three numbers. -/
theorem mid3B (A : Option Addr) (c : Nat) (l : List Int) (a b : Int) (h0 : 0 ≤ a) (h1 : a ≤ b) (hm : b ≤ l.length) (hc : l.length ≤ c) :
    ∃ A' : Option Addr, (∀ W : World, (Instr.slice 29 (.slice A l.length c) (some (.int .i64 a)) (some (.int .i64 b)) (some (.int .i64 b))).run Try.prog W = .ok (.slice A' ((l.take b.toNat).drop a.toNat).length (b.toNat - a.toNat)) W) ∧
      (∀ w : World, Kd.C (Kd.int .u8) w A l.length l → Kd.C (Kd.int .u8) w A' ((l.take b.toNat).drop a.toNat).length ((l.take b.toNat).drop a.toNat)) ∧ ((l.take b.toNat).drop a.toNat).length ≤ b.toNat - a.toNat := by
  obtain ⟨i0, hi, hz0, hz1, hz2⟩ := info_parts infoU8
  have hlt : (l.take b.toNat).length = b.toNat := by rw [List.length_take]; omega
  have hl : ((l.take b.toNat).drop a.toNat).length = b.toNat - a.toNat := by rw [List.length_drop, hlt]
  refine ⟨if b.toNat = a.toNat then A else A.map (·.add a.toNat), fun W => ?_, fun w h => ?_, by rw [hl]; omega⟩
  · have ht : Try.prog.underlying 29 = some (.slice 5) := Try.underlying29
    have hel : Try.prog.elem 29 = 5 := by simp [Program.elem, ht]
    have hu : Try.prog.underlying 29 = some (.slice (Try.prog.elem 29)) := by rw [hel]; exact ht
    rw [run_slice_lhm W 29 A l.length c hu .i64 .i64 .i64 a b b h0 h1 (Int.le_refl _) (by omega), hel, hl]
    simp [sizeOf, typeInfo, hi, hz1, sliced, Result.andThen]
  · have hr : ReadsOf (Value.int .u8) (0 : Int) w A l.length l := Kd.reads_of_C (h1 := fun _ => rfl) h
    have h2 := (hr.take_ b.toNat (by omega)).drop_ (c := b.toNat) a.toNat (by omega) (by omega)
    rw [hl]
    exact Kd.C_of_reads (h1 := fun _ => rfl) h2
theorem add_blockR (ad : Addr) (n : Nat) : (ad.add n).block = ad.block := by
  cases ad
  unfold Addr.add
  split <;> simp_all
/-- A part between two places. -/
theorem midB (A : Option Addr) (c : Nat) (l : List Int) (a b : Int) (h0 : 0 ≤ a) (h1 : a ≤ b) (hm : b ≤ l.length) (hc : l.length ≤ c) :
    ∃ A' : Option Addr, (∀ W : World, (Instr.slice 29 (.slice A l.length c) (some (.int .i64 a)) (some (.int .i64 b)) none).run Try.prog W = .ok (.slice A' ((l.take b.toNat).drop a.toNat).length (c - a.toNat)) W) ∧
      (∀ w : World, Kd.C (Kd.int .u8) w A l.length l → Kd.C (Kd.int .u8) w A' ((l.take b.toNat).drop a.toNat).length ((l.take b.toNat).drop a.toNat)) ∧ ((l.take b.toNat).drop a.toNat).length ≤ c - a.toNat := by
  obtain ⟨i0, hi, hz0, hz1, hz2⟩ := info_parts infoU8
  obtain ⟨A', k1, k2, k3⟩ := print_mid_of (P := Try.prog) (Value.int .u8) (0 : Int) 29 5 .i64 .i64 Try.underlying29 hi hz1 A c l a b h0 h1 hm hc
  exact ⟨A', k1, fun w h => Kd.C_of_reads (h1 := fun _ => rfl) (k2 w (Kd.reads_of_C (h1 := fun _ => rfl) h)), k3⟩
theorem midB2 (A : Option Addr) (c : Nat) (l : List Int) (a b : Int) (h0 : 0 ≤ a) (h1 : a ≤ b) (hm : b ≤ l.length) (hc : l.length ≤ c) :
    ∃ A' : Option Addr, (∀ W : World, (Instr.slice 29 (.slice A l.length c) (some (.int .i64 a)) (some (.int .i64 b)) none).run Try.prog W = .ok (.slice A' ((l.take b.toNat).drop a.toNat).length (c - a.toNat)) W) ∧
      (∀ w : World, Kd.C (Kd.int .u8) w A l.length l → Kd.C (Kd.int .u8) w A' ((l.take b.toNat).drop a.toNat).length ((l.take b.toNat).drop a.toNat)) ∧ ((l.take b.toNat).drop a.toNat).length ≤ c - a.toNat ∧ ((l.take b.toNat).drop a.toNat).length = b.toNat - a.toNat := by
  obtain ⟨A', k1, k2, k3⟩ := midB A c l a b h0 h1 hm hc
  exact ⟨A', k1, k2, k3, by rw [List.length_drop, List.length_take]; omega⟩
/-- A part from a place on; it lies in the same block. -/
theorem dropB2 (A : Option Addr) (c : Nat) (l : List Int) (j : Int) (h0 : 0 ≤ j) (hm : j ≤ l.length) (hc : l.length ≤ c) :
    ∃ A' : Option Addr, (∀ W : World, (Instr.slice 29 (.slice A l.length c) (some (.int .i64 j)) none none).run Try.prog W = .ok (.slice A' (l.drop j.toNat).length (c - j.toNat)) W) ∧
      (∀ w : World, Kd.C (Kd.int .u8) w A l.length l → Kd.C (Kd.int .u8) w A' (l.drop j.toNat).length (l.drop j.toNat)) ∧ (l.drop j.toNat).length ≤ c - j.toNat ∧ (∀ ad', A' = some ad' → ∃ ad, A = some ad ∧ ad'.block = ad.block) := by
  obtain ⟨i0, hi, hz0, hz1, hz2⟩ := info_parts infoU8
  have hl : (l.drop j.toNat).length = l.length - j.toNat := List.length_drop
  refine ⟨if c = j.toNat then A else A.map (·.add j.toNat), fun W => ?_, fun w h => ?_, by rw [hl]; omega, fun ad' he => ?_⟩
  · have ht : Try.prog.underlying 29 = some (.slice 5) := Try.underlying29
    have hel : Try.prog.elem 29 = 5 := by simp [Program.elem, ht]
    have hu : Try.prog.underlying 29 = some (.slice (Try.prog.elem 29)) := by rw [hel]; exact ht
    rw [run_slice_l W 29 A l.length c hu .i64 j h0 hm, hel, hl]
    simp [sizeOf, typeInfo, hi, hz1, sliced, Result.andThen]
  · have hr : ReadsOf (Value.int .u8) (0 : Int) w A l.length l := Kd.reads_of_C (h1 := fun _ => rfl) h
    have h2 := hr.drop_ (c := c) j.toNat (by omega) hc
    rw [hl]
    exact Kd.C_of_reads (h1 := fun _ => rfl) h2
  · cases A with
    | none => split at he <;> simp at he
    | some ad =>
      refine ⟨ad, rfl, ?_⟩
      split at he
      · cases he; rfl
      · simp at he
        rw [← he, add_blockR]

end Go.Proofs.Ytiopafdndlodoaa.H
/-! Layer 5: Get, walked. -/
namespace Go.Proofs.Ytiopafdndlodoaa.H
open Go.RowKit Moor Go.Proofs.YtiopafdndlodoaaW.PrintWords Go.Proofs.YtiopafdndlodoaaW.PrintLast Go.Proofs.YtiopafdndlodoaaW.PrintMore
set_option linter.unusedVariables false
set_option linter.unusedSimpArgs false

/-- What Get hands back. -/
def RecEnd (r : Rc × Int × Int) (w : World) (e : Ending) (w' : World) : Prop := ∃ (A' : Option Addr) (c' : Nat), e = .returned (.tuple #[.agg #[.int .i64 r.1.kind, .slice A' r.1.body.length c'], .int .i64 r.2.1, .int .i64 r.2.2]) ∧ r.1.body.length ≤ c' ∧ Kd.C (Kd.int .u8) w' A' r.1.body.length r.1.body ∧ Below w.heap.size w w' ∧ ∀ ad, A' = some ad → w.heap.size ≤ ad.block

theorem add_zeroR (ad : Addr) : ad.add 0 = ad := by
  cases ad
  unfold Addr.add
  split <;> simp_all
theorem i64_of {n : Int} (h0 : -9223372036854775808 ≤ n) (h1 : n ≤ 9223372036854775807) : IntKind.i64.wrap n = n := by have h := IntKind.wrap_i64 n; rw [h]; omega
/-- A store into another block. -/
theorem C_farB {w : World} {A : Option Addr} {l : List Int} (h : Kd.C (Kd.int .u8) w A l.length l) (p : Addr) (v : Value) (hne : ∀ ad, A = some ad → p.block ≠ ad.block) : Kd.C (Kd.int .u8) (w.setCell p v) A l.length l := by
  refine ⟨h.1, h.2.1, fun hn => ?_⟩
  obtain ⟨ad, e, hc⟩ := h.2.2 hn
  refine ⟨ad, e, fun j q hj => ?_⟩
  obtain ⟨c, hs, hK, hcell⟩ := hc j q hj
  exact ⟨c, hs, hK, fun i u hu => (World.cell?_setCell_far w p _ v (by rw [add_blockR]; exact hne ad e)).trans (hcell i u hu)⟩
theorem infoRec : (Try.prog.info? 64).map (·.size) = some 2 := by kernel_rfl
theorem results_rec {fn : Func} {p t u : Tmp} (h : fn.results = #[.cell p 64, .tmp t, .tmp u]) (tmps : Array Value) (w : World) (g : Nat) (x y : Value) (hp : tmps.getD p undef = .pointer (some ⟨g, 0, none⟩)) (h0 : w.cell? ⟨g, 0, none⟩ = some x) (h1 : w.cell? ⟨g, 1, none⟩ = some y) :
    (results fn tmps).run Try.prog w = .ok (.tuple #[.agg #[x, y], tmps.getD t undef, tmps.getD u undef]) w := by
  have hl := run_loadVar_mid (P := Try.prog) w g 0 64 [x, y] _ (fun j v hj => by
    match j with
    | 0 => simp at hj; subst hj; exact h0
    | 1 => simp at hj; subst hj; exact h1
    | j + 2 => simp at hj) Try.underlying64 rfl infoRec
  have hp' : tmps[p]?.getD undef = .pointer (some ⟨g, 0, none⟩) := by simpa using hp
  simp [results, h, hp', asAddr, hl]
/-- The box of a record. -/
def BoxR (W : World) (B0 : Nat) (x y : Value) : Prop := W.heap[B0]? = some (.cells #[x, y] 64 (0, 0))
theorem BoxR.new (W : World) (x y : Value) : BoxR (W.alloc (.cells #[x, y] 64)) W.heap.size x y := heap_alloc_new W _
theorem BoxR.c0 {W : World} {B0 : Nat} {x y : Value} (h : BoxR W B0 x y) : W.cell? ⟨B0, 0, none⟩ = some x := (blk_cell h 0).trans rfl
theorem BoxR.c1 {W : World} {B0 : Nat} {x y : Value} (h : BoxR W B0 x y) : W.cell? ⟨B0, 1, none⟩ = some y := (blk_cell h 1).trans rfl
theorem BoxR.below {W W' : World} {B0 : Nat} {x y : Value} (h : BoxR W B0 x y) (hb : Below W.heap.size W W') : BoxR W' B0 x y := (hb.block B0 (blk_lt h)).trans h
theorem BoxR.f {W : World} {B0 : Nat} {x y : Value} (h : BoxR W B0 x y) (o : Nat) : W.frozen? ⟨B0, o, none⟩ = false := by simp [World.frozen?, show W.heap[B0]? = _ from h]

theorem vGet_n0 {l : List Int} (ho : okB l) (a : Int) : 0 ≤ (vGet l a).1 := by
  unfold vGet
  by_cases h : a < 0 ∨ a > (l.length : Int)
  · rw [if_pos h]; exact Int.le_refl _
  · rw [if_neg h]
    cases hd : dec (l.drop a.toNat) with
    | none => exact Int.le_refl _
    | some p =>
      obtain ⟨n, k⟩ := p
      exact (dec_facts (okB_drop ho _) hd).1
theorem vget_calls (A : Option Addr) (c : Nat) (l : List Int) (a : Int) (w : World) (hr : Kd.C (Kd.int .u8) w A l.length l) (hc : l.length ≤ c) (ho : okB l) (hl : l.length ≤ 4611686018427387904) :
    Calls Try.prog 46 #[.slice A l.length c, .int .i64 a] w fun e w' => e = .returned (.tuple #[.int .i64 (vGet l a).1, .int .i64 (vGet l a).2]) ∧ Below w.heap.size w w' :=
  B.vari_Get.calls 10 A c l a _ _ w hr hc (get_tells l a ho hl 10 (Nat.le_refl _))

/-- The end with an error. -/
theorem rec_none {tmps : Array Value} {w W : World} {e : Int} {fn : Func} {h : fn.results = #[.cell 4 64, .tmp 5, .tmp 6]} (hp : tmps.getD 4 undef = .pointer (some ⟨w.heap.size, 0, none⟩)) (h5 : tmps.getD 5 undef = .int .i64 0) (h6 : tmps.getD 6 undef = .int .i64 e) (hb : BoxR W w.heap.size (.int .i64 0) (.slice none 0 0)) (hB : Below w.heap.size w W) :
    bodyPost Try.prog fn (RecEnd (⟨0, []⟩, 0, e) w) .ret { tmps := tmps, defers := [] } W := by
  refine bodyPost_ret (results_rec h _ _ w.heap.size _ _ hp hb.c0 hb.c1) rfl ?_
  rw [h5, h6]
  exact ⟨none, 0, rfl, Nat.le_refl _, Kd.C_nil _ _, hB, fun _ e => by cases e⟩

theorem set2_c0 {W : World} {g : Nat} {x y x' y' : Value} (hb : BoxR W g x y) : ((W.setCell ⟨g, 0, none⟩ x').setCell ⟨g, 1, none⟩ y').cell? ⟨g, 0, none⟩ = some x' := by
  rw [World.cell?_setCell_other (w := W.setCell ⟨g, 0, none⟩ x') (a := ⟨g, 1, none⟩) (b := ⟨g, 0, none⟩) (v := y') (by intro e; injection e with _ e2; omega)]
  exact World.cell?_setCell_same' _ _ _ (by rw [hb.c0]; rfl)
theorem set2_c1 {W : World} {g : Nat} {x y x' y' : Value} (hb : BoxR W g x y) : ((W.setCell ⟨g, 0, none⟩ x').setCell ⟨g, 1, none⟩ y').cell? ⟨g, 1, none⟩ = some y' := by
  apply World.cell?_setCell_same'
  rw [World.cell?_setCell_other (w := W) (a := ⟨g, 0, none⟩) (b := ⟨g, 1, none⟩) (v := x') (by intro e; injection e with _ e2; omega), hb.c1]
  rfl
/-- The end, with a record stored. -/
theorem rec_end {tmps : Array Value} {w W : World} {k end_ e : Int} {A' : Option Addr} {c' : Nat} {d : List Int} {x y : Value} {fn : Func} {h : fn.results = #[.cell 4 64, .tmp 5, .tmp 6]} (hp : tmps.getD 4 undef = .pointer (some ⟨w.heap.size, 0, none⟩)) (h5 : tmps.getD 5 undef = .int .i64 end_) (h6 : tmps.getD 6 undef = .int .i64 e) (hb : BoxR W w.heap.size x y) (hB : Below w.heap.size w W) (hc : d.length ≤ c') (hfr : ∀ ad, A' = some ad → w.heap.size ≤ ad.block) (hg : Kd.C (Kd.int .u8) ((W.setCell ⟨w.heap.size, 0, none⟩ (.int .i64 k)).setCell ⟨w.heap.size, 1, none⟩ (.slice A' d.length c')) A' d.length d) :
    bodyPost Try.prog fn (RecEnd (⟨k, d⟩, end_, e) w) .ret { tmps := tmps, defers := [] } ((W.setCell ⟨w.heap.size, 0, none⟩ (.int .i64 k)).setCell ⟨w.heap.size, 1, none⟩ (.slice A' d.length c')) := by
  refine bodyPost_ret (results_rec h _ _ w.heap.size _ _ hp (set2_c0 hb) (set2_c1 hb)) rfl ?_
  rw [h5, h6]
  exact ⟨A', c', rfl, hc, hg, (hB.setCell (p := ⟨w.heap.size, 0, none⟩) (Nat.le_refl _) _).setCell (p := ⟨w.heap.size, 1, none⟩) (Nat.le_refl _) _, hfr⟩
theorem rec_endD {tmps : Array Value} {w W : World} {k end_ e : Int} {A' : Option Addr} {c' : Nat} {d : List Int} {x y : Value} {fn : Func} {h : fn.results = #[.cell 4 64, .tmp 5, .tmp 6]} (hp : tmps.getD 4 undef = .pointer (some ⟨w.heap.size, 0, none⟩)) (h5 : tmps.getD 5 undef = .int .i64 end_) (h6 : tmps.getD 6 undef = .int .i64 e) (hb : BoxR W w.heap.size x y) (hB : Below w.heap.size w W) (hc : d.length ≤ c') (hfr : ∀ ad, A' = some ad → w.heap.size ≤ ad.block) (hg : Kd.C (Kd.int .u8) ((W.setCell ⟨w.heap.size, 0, none⟩ (.int .i64 k)).setCell ⟨w.heap.size, 1, none⟩ (.slice A' d.length c')) A' d.length d) :
    bodyPost Try.prog fn (RecEnd (⟨k, d⟩, end_, e) w) .ret { tmps := tmps, defers := [] } ((W.setCell ⟨w.heap.size, 0, none⟩ (.int .i64 k)).setCell ⟨w.heap.size, 1, none⟩ (.slice A' d.length c')).drew := by
  refine bodyPost_ret (results_rec h _ _ w.heap.size (.int .i64 k) (.slice A' d.length c') hp (by simpa using set2_c0 hb) (by simpa using set2_c1 hb)) rfl ?_
  rw [h5, h6]
  exact ⟨A', c', rfl, hc, Kd.C_drew hg, below_drew ((hB.setCell (p := ⟨w.heap.size, 0, none⟩) (Nat.le_refl _) _).setCell (p := ⟨w.heap.size, 1, none⟩) (Nat.le_refl _) _), hfr⟩
theorem rec_noneS {tmps : Array Value} {w W : World} {e : Int} {fn : Func} {h : fn.results = #[.cell 4 64, .tmp 5, .tmp 6]} (hp : tmps.getD 4 undef = .pointer (some ⟨w.heap.size, 0, none⟩)) (h5 : tmps.getD 5 undef = .int .i64 0) (h6 : tmps.getD 6 undef = .int .i64 e) {x y : Value} (hb : BoxR W w.heap.size x y) (hB : Below w.heap.size w W) :
    bodyPost Try.prog fn (RecEnd (⟨0, []⟩, 0, e) w) .ret { tmps := tmps, defers := [] } ((W.setCell ⟨w.heap.size, 0, none⟩ (.int .i64 0)).setCell ⟨w.heap.size, 1, none⟩ (.slice none 0 0)) :=
  rec_end (h := h) (d := []) hp h5 h6 hb hB (Nat.le_refl _) (fun _ e => by cases e) (Kd.C_nil _ _)

set_option maxRecDepth 100000 in
set_option maxHeartbeats 4000000 in
theorem recGet_neg (A : Option Addr) (c : Nat) (l : List Int) (a : Int) (w : World) (hc : l.length ≤ c) (h : a < 0) :
    Calls Try.prog 34 #[.slice A l.length c, .int .i64 a] w (RecEnd (⟨0, []⟩, 0, 2) w) := by
  go_enter Try.func34, Try.ntmps34
  go_wp2_with (fail)
  exact rec_none (h := rfl) rfl rfl rfl (BoxR.new _ _ _) (below_alloc (Below.refl _ _) _)
set_option maxRecDepth 100000 in
set_option maxHeartbeats 4000000 in
theorem recGet_high (A : Option Addr) (c : Nat) (l : List Int) (a : Int) (w : World) (hc : l.length ≤ c) (h : 0 ≤ a) (h1 : (l.length : Int) < a) :
    Calls Try.prog 34 #[.slice A l.length c, .int .i64 a] w (RecEnd (⟨0, []⟩, 0, 2) w) := by
  go_enter Try.func34, Try.ntmps34
  go_wp2_with (fail)
  exact rec_none (h := rfl) rfl rfl rfl (BoxR.new _ _ _) (below_alloc (Below.refl _ _) _)
set_option maxRecDepth 100000 in
set_option maxHeartbeats 4000000 in
theorem recGet_end (A : Option Addr) (c : Nat) (l : List Int) (w : World) (hc : l.length ≤ c) :
    Calls Try.prog 34 #[.slice A l.length c, .int .i64 (l.length : Int)] w (RecEnd (⟨0, []⟩, 0, 4) w) := by
  go_enter Try.func34, Try.ntmps34
  go_wp2_with (fail)
  exact rec_none (h := rfl) rfl rfl rfl (BoxR.new _ _ _) (below_alloc (Below.refl _ _) _)

set_option maxRecDepth 100000 in
set_option maxHeartbeats 8000000 in
theorem recGet_in (A : Option Addr) (c : Nat) (l : List Int) (a : Nat) (w : World) (hR : Kd.C (Kd.int .u8) w A l.length l) (hc : l.length ≤ c) (ho : okB l) (hl : l.length ≤ 140737488355328) (h : a < l.length) :
    Calls Try.prog 34 #[.slice A l.length c, .int .i64 (a : Int)] w (RecEnd (rGet l a) w) := by
  have hst := rGet_step ho h
  have hmo := midR_open ho h
  have hai : (a : Int) < (l.length : Int) := by omega
  obtain ⟨A', hd1, hd2, hd3⟩ := dropB A c l ((a + 1 : Nat) : Int) (by omega) (by omega) hc
  have hda : ((a + 1 : Nat) : Int) = (a : Int) + 1 := by omega
  rw [Int.toNat_natCast] at hd1 hd2 hd3
  rw [hda] at hd1 hst hmo
  have hend : endR l a = (vGet l ((a : Int) + 1)).2 + (vGet l ((a : Int) + 1)).1 + 4 := by unfold endR; rw [hda]
  have hwr : wrap64 ((a : Int) + 1) = (a : Int) + 1 := wrap64_id (by omega) (by omega)
  have HST := Lib.hid hst
  have HMO := Lib.hid hmo
  have HEND := Lib.hid hend
  have HD2 := Lib.hid hd2
  have HR := Lib.hid hR
  clear hst hmo hend hd2 hR
  have hB0 : Below w.heap.size w (w.alloc (.cells #[.int .i64 0, .slice none 0 0] 64)) := below_alloc (Below.refl _ _) _
  have HB0 := Lib.hid hB0
  have hbx := BoxR.new w (.int .i64 0) (.slice none 0 0)
  have HBX := Lib.hid hbx
  clear hbx hB0
  generalize hgd : l.drop (a + 1) = d at *
  clear hgd
  go_enter Try.func34, Try.ntmps34
  go_wp2_with (fail)
  refine (recOpen_calls A' _ d _ (HD2.out _ (Kd.C_alloc HR.out _)) hd3).mono ?_
  rintro e w1 ⟨rfl, hb1⟩
  have hB1 := HB0.out.trans (hb1.mono HB0.out.size)
  have bx1 := HBX.out.below hb1
  have HB1 := Lib.hid hB1
  have b0 := bx1.c0
  have b1 := bx1.c1
  have b2 := bx1.f 0
  have b3 := bx1.f 1
  have BX1 := Lib.hid bx1
  clear hb1 hB1 bx1
  cases hop : openR d with
  | true =>
    have HV := Lib.hid (HST.out.trans (if_pos hop))
    clear hop
    go_wp2_with (fail)
    rw [HV.out]
    exact rec_noneS (h := rfl) rfl rfl rfl BX1.out HB1.out
  | false =>
    have HV1 := Lib.hid (HST.out.trans (if_neg (by rw [hop]; decide)))
    clear hop HST
    go_wp2_with (fail)
    refine (vget_calls A c l ((a : Int) + 1) w1 (Kd.C_below HR.out HB1.out) hc ho (by omega)).mono ?_
    rintro e w2 ⟨rfl, hb2⟩
    have bx2 := BX1.out.below hb2
    have HB2 := Lib.hid (HB1.out.trans (hb2.mono HB1.out.size))
    clear b0 b1 b2 b3
    have b0 := bx2.c0
    have b1 := bx2.c1
    have b2 := bx2.f 0
    have b3 := bx2.f 1
    have BX2 := Lib.hid bx2
    clear hb2 bx2 BX1
    have hn0 := vGet_n0 ho ((a : Int) + 1)
    have HBD := Lib.hid (vGet_bound l ((a : Int) + 1))
    generalize (vGet l ((a : Int) + 1)).1 = n at *
    generalize (vGet l ((a : Int) + 1)).2 = from_ at *
    by_cases h1 : from_ = -1
    · have h1b : (from_ == -1) = true := by simpa using h1
      have HV := Lib.hid (HV1.out.trans (if_pos (.inl h1)))
      clear h1 HMO
      go_wp2_with (fail)
      rw [HV.out]
      exact rec_noneS (h := rfl) rfl rfl rfl BX2.out HB2.out
    · have h1b : (from_ == -1) = false := by simpa using h1
      by_cases h2 : n > 1000
      · have h2' : (1000 : Int) < n := h2
        have HV := Lib.hid (HV1.out.trans (if_pos (.inr h2)))
        clear h1 HMO h2
        go_wp2_with (fail)
        rw [HV.out]
        exact rec_noneS (h := rfl) rfl rfl rfl BX2.out HB2.out
      · have h2' : ¬ (1000 : Int) < n := h2
        have HV2 := Lib.hid (HV1.out.trans (if_neg (by omega)))
        by_cases h4 : (l.length : Int) < endR l a
        · have HV := Lib.hid (HV2.out.trans (if_pos h4))
          have hlt : (l.length : Int) < from_ + n + 4 := by rw [← HEND.out]; exact h4
          have hbd := HBD.out.resolve_left h1
          clear h4 HMO HEND HV1 HV2
          go_wp2_with (fail)
          rw [HV.out]
          exact rec_noneS (h := rfl) rfl rfl rfl BX2.out HB2.out
        · obtain ⟨m1, m2, m3, m4, m5⟩ := HMO.out h1 (by omega) (by omega)
          have HV3 := Lib.hid (HV2.out.trans (if_neg h4))
          have he := HEND.out
          have hea : endR l a ≤ l.length := by omega
          have heb : (a : Int) ≤ endR l a := by omega
          obtain ⟨A3, q1, q2, q3⟩ := mid3B A c l (a : Int) (endR l a) (by omega) heb hea hc
          rw [Int.toNat_natCast] at q1 q2 q3
          have hmd : (l.take (endR l a).toNat).drop a = midR l a := rfl
          have hmo : okB (midR l a) := okB_drop (okB_take ho _) _
          rw [hmd] at q1 q2 q3
          rw [he] at hea heb q1 q3 m4 m5
          have HV4 := Lib.hid (show _ from HV3.out)
          rw [he] at HV4
          generalize midR l a = md at *
          have hlt : ¬ (l.length : Int) < from_ + n + 4 := by omega
          have hmll : md.length ≤ 140737488355328 := by omega
          have HQ2 := Lib.hid q2
          have HM5 := Lib.hid m5
          have HM4 := Lib.hid m4
          have HMO := Lib.hid hmo
          clear h4 HEND HV1 HV2 HV3 he hmd m5 q2 m4 hmo
          go_wp2_with (fail)
          refine (open_calls A3 _ md w2 (HQ2.out _ (Kd.C_below HR.out HB2.out)) q3 HMO.out hmll).mono ?_
          rintro e w3 ⟨v3, rfl, hR3, hb3⟩
          obtain ⟨A4, c4, rfl, hc4, hC4⟩ := Kd.R_reads hR3
          have bx3 := BX2.out.below hb3
          have HB3 := Lib.hid (HB2.out.trans (hb3.mono HB2.out.size))
          clear b0 b1 b2 b3
          have b0 := bx3.c0
          have b1 := bx3.c1
          have b2 := bx3.f 0
          have b3 := bx3.f 1
          have BX3 := Lib.hid bx3
          have hbs := Kd.R_base hR3
          have hwz : w.heap.size < w2.heap.size := blk_lt BX2.out
          clear hb3 bx3 BX2 hR3
          cases hop : (cOpen md).2 with
          | false =>
            have HV := Lib.hid (HV4.out.trans (if_neg (by rw [hop]; decide)))
            clear HV4 HM5 hop
            generalize (cOpen md).1 = y at *
            go_wp2_with (fail)
            rw [HV.out]
            exact rec_noneS (h := rfl) rfl rfl rfl BX3.out HB3.out
          | true =>
            have HV := Lib.hid (HV4.out.trans (if_pos hop))
            obtain ⟨t, ht, htl⟩ := HM5.out hop
            clear HV4 HM5 hop
            generalize (cOpen md).1 = y_ at *
            obtain ⟨ad, rfl, hce⟩ := cell_ofB hC4 0 (by omega)
            have hy0 : y_[0]'(by omega) = l[a] := by simp only [ht]; rfl
            have hfa0 : 0 ≤ from_ - (a : Int) := by omega
            have hfa1 : from_ - (a : Int) ≤ y_.length := by omega
            obtain ⟨A5, p1, p2, p3, p4⟩ := dropB2 (some ad) c4 y_ (from_ - (a : Int)) hfa0 hfa1 hc4
            rw [hy0] at hce
            have hce1 : w3.cell? ad = some (.int .u8 l[a]) := by rw [add_zeroR] at hce; exact hce
            have hyl : 0 < (y_.length : Int) := by omega
            have HP2 := Lib.hid p2
            have hne : w.heap.size ≠ ad.block := by
              have := hbs _ rfl
              omega
            have hk := ho _ (List.getElem_mem h)
            have hwf : IntKind.i64.wrap (from_ - (a : Int)) = from_ - (a : Int) := by exact i64_of (by omega) (by omega)
            have hyn : 0 < y_.length := by omega
            have HFR := Lib.hid (show ∀ ad', A5 = some ad' → w.heap.size ≤ ad'.block from fun ad' e => by
              obtain ⟨ad2, e2, e3⟩ := p4 ad' e
              cases e2
              have := hbs _ rfl
              omega)
            have HG := Lib.hid (show ∀ x y, Kd.C (Kd.int .u8) ((w3.setCell ⟨w.heap.size, 0, none⟩ x).setCell ⟨w.heap.size, 1, none⟩ y) (some ad) y_.length y_ from fun x y => C_farB (C_farB hC4 _ _ (fun _ e => by cases e; exact hne)) _ _ (fun _ e => by cases e; exact hne))
            generalize y_.drop (from_ - (a : Int)).toNat = z at *
            generalize l[a] = k at *
            have hwk : IntKind.i64.wrap k = k := by exact i64_of (by have := hk.1; omega) (by have := hk.2; omega)
            have HKS := Lib.hid (show ∀ x y, ((w3.setCell ⟨w.heap.size, 0, none⟩ x).setCell ⟨w.heap.size, 1, none⟩ y).cell? ad = some (.int .u8 k) from fun x y => by rw [World.cell?_setCell_far _ _ _ _ hne, World.cell?_setCell_far _ _ _ _ hne]; exact hce1)
            clear ht htl hy0 p2 hC4 HMO hk hbs hwz hne hce p4
            go_wp2_with (fail)
            go_region_held3 (fun W => W.cell? ad = some (.int .u8 k)) (first | (simpa using hce1) | (simpa using HKS.out _ _)) (fail)
            all_goals
              go_wp2_with (fail)
              rw [HV.out]
              exact rec_endD (h := rfl) rfl rfl rfl BX3.out HB3.out (by omega) HFR.out (HP2.out _ (HG.out _ _))

theorem recGet_calls (A : Option Addr) (c : Nat) (l : List Int) (a : Int) (w : World) (hR : Kd.C (Kd.int .u8) w A l.length l) (hc : l.length ≤ c) (ho : okB l) (hl : l.length ≤ 140737488355328) :
    Calls Try.prog 34 #[.slice A l.length c, .int .i64 a] w (RecEnd (rGet l a) w) := by
  by_cases h0 : a < 0
  · have : rGet l a = (⟨0, []⟩, 0, 2) := by unfold rGet; rw [if_pos (.inl h0)]
    rw [this]
    exact recGet_neg A c l a w hc h0
  · by_cases h1 : (l.length : Int) < a
    · have : rGet l a = (⟨0, []⟩, 0, 2) := by unfold rGet; rw [if_pos (.inr h1)]
      rw [this]
      exact recGet_high A c l a w hc (by omega) h1
    · obtain ⟨k, rfl⟩ := Int.eq_ofNat_of_zero_le (show 0 ≤ a by omega)
      by_cases h2 : k < l.length
      · exact recGet_in A c l k w hR hc ho hl h2
      · obtain rfl : k = l.length := by omega
        have : rGet l (l.length : Int) = (⟨0, []⟩, 0, 4) := by
          unfold rGet
          rw [if_neg (by omega), Int.toNat_natCast, List.drop_length]
          rfl
        rw [this]
        exact recGet_end A c l w hc

theorem C_lt {W : World} {A : Option Addr} {l : List Int} (hC : Kd.C (Kd.int .u8) W A l.length l) (h0 : 0 < l.length) {ad : Addr} (had : A = some ad) : ad.block < W.heap.size := by
  obtain ⟨ad', e', hcell⟩ := hC.2.2 h0
  rw [had] at e'
  cases e'
  obtain ⟨c, hs, hK, hcl⟩ := hcell 0 _ (List.getElem?_eq_getElem h0)
  have hcc : c = [.int .u8 l[0]] := hK
  subst hcc
  have h7 := hcl 0 _ rfl
  have h8 : (ad.add (0 * (Kd.int .u8).sz + 0)) = ad := by rw [Nat.zero_mul, Nat.add_zero, add_zeroR]
  rw [h8] at h7
  exact World.block_lt_of_cell? _ _ h7
end Go.Proofs.Ytiopafdndlodoaa.H
