import Derived.Test.YtodjlacbjcbafaaEvA
import Derived.Lib.BufferOwn
import Derived.Lib.BufferWrite
import Derived.Lib.Hide
/-! Layer 14: the paper (a box), and its next number. -/
namespace Go.Proofs.Ytodjlacbjcbafaa.H
open Go.RowKit Moor Go.Proofs.YtodjlacbjcbafaaW.PrintWords Go.Proofs.YtodjlacbjcbafaaW.PrintLast Go.Proofs.YtodjlacbjcbafaaW.PrintMore
set_option linter.unusedVariables false
set_option linter.unusedSimpArgs false

abbrev cvE (t : Int) (l : Value) (e : Ev) (bad : Bool) : Array Value := #[.int .i64 t, l, .int .i64 e.kind, .int .i64 e.at_, .int .i64 e.a, .int .i64 e.b, .int .i64 e.c, .int .i64 e.q, .int .i64 e.i, .int .i64 e.h, .bool e.pair, .bool bad]
def BoxE (W : World) (B0 : Nat) (t : Int) (l : Value) (e : Ev) (bad : Bool) : Prop := W.heap[B0]? = some (.cells (cvE t l e bad) 51 (0, 0))
theorem blk_cellE {W : World} {g : Nat} {cs : Array Value} {t : Nat} (h : W.heap[g]? = some (.cells cs t (0, 0))) (j : Nat) : W.cell? ⟨g, j, none⟩ = cs[j]? := by
  simp [World.cell?, h]
theorem blk_ltE {W : World} {g : Nat} {o : Obj} (h : W.heap[g]? = some o) : g < W.heap.size := by
  rcases Nat.lt_or_ge g W.heap.size with h1 | h1
  · exact h1
  · rw [Array.getElem?_eq_none h1] at h; cases h
theorem BoxE.cells {W : World} {B0 : Nat} {t : Int} {l : Value} {e : Ev} {bad : Bool} (h : BoxE W B0 t l e bad) : W.cell? ⟨B0, 0, none⟩ = some (.int .i64 t) ∧ W.cell? ⟨B0, 1, none⟩ = some l ∧ W.cell? ⟨B0, 2, none⟩ = some (.int .i64 e.kind) ∧ W.cell? ⟨B0, 3, none⟩ = some (.int .i64 e.at_) ∧ W.cell? ⟨B0, 4, none⟩ = some (.int .i64 e.a) ∧ W.cell? ⟨B0, 5, none⟩ = some (.int .i64 e.b) ∧ W.cell? ⟨B0, 6, none⟩ = some (.int .i64 e.c) ∧ W.cell? ⟨B0, 7, none⟩ = some (.int .i64 e.q) ∧ W.cell? ⟨B0, 8, none⟩ = some (.int .i64 e.i) ∧ W.cell? ⟨B0, 9, none⟩ = some (.int .i64 e.h) ∧ W.cell? ⟨B0, 10, none⟩ = some (.bool e.pair) ∧ W.cell? ⟨B0, 11, none⟩ = some (.bool bad) :=
  ⟨(blk_cellE h 0).trans rfl, (blk_cellE h 1).trans rfl, (blk_cellE h 2).trans rfl, (blk_cellE h 3).trans rfl, (blk_cellE h 4).trans rfl, (blk_cellE h 5).trans rfl, (blk_cellE h 6).trans rfl, (blk_cellE h 7).trans rfl, (blk_cellE h 8).trans rfl, (blk_cellE h 9).trans rfl, (blk_cellE h 10).trans rfl, (blk_cellE h 11).trans rfl⟩
theorem BoxE.f {W : World} {B0 : Nat} {t : Int} {l : Value} {e : Ev} {bad : Bool} (h : BoxE W B0 t l e bad) (o : Nat) : W.frozen? ⟨B0, o, none⟩ = false := by simp [World.frozen?, show W.heap[B0]? = _ from h]
theorem BoxE.setl {W : World} {B0 : Nat} {t : Int} {l : Value} {e : Ev} {bad : Bool} (h : BoxE W B0 t l e bad) (l' : Value) : BoxE (W.setCell ⟨B0, 1, none⟩ l') B0 t l' e bad := by
  unfold BoxE at *
  simp [World.setCell, Array.getElem?_modify, h]
theorem BoxE.setbad {W : World} {B0 : Nat} {t : Int} {l : Value} {e : Ev} {bad : Bool} (h : BoxE W B0 t l e bad) (bad' : Bool) : BoxE (W.setCell ⟨B0, 11, none⟩ (.bool bad')) B0 t l e bad' := by
  unfold BoxE at *
  simp [World.setCell, Array.getElem?_modify, h]
theorem add_blockR (ad : Addr) (n : Nat) : (ad.add n).block = ad.block := by
  cases ad
  unfold Addr.add
  split <;> simp_all
theorem add_zeroR (ad : Addr) : ad.add 0 = ad := by
  cases ad
  unfold Addr.add
  split <;> simp_all
/-- Numbers in memory that changes only elsewhere. -/
theorem C_other {w w' : World} {A : Option Addr} {l : List Int} {B : Nat} (h : Kd.C (Kd.int .i64) w A l.length l) (hg : w.grownBy w' (some B)) (hne : ∀ ad, A = some ad → ad.block < B) : Kd.C (Kd.int .i64) w' A l.length l := by
  refine ⟨h.1, h.2.1, fun hn => ?_⟩
  obtain ⟨ad, e, hc⟩ := h.2.2 hn
  refine ⟨ad, e, fun j q hj => ?_⟩
  obtain ⟨c, hs, hK, hcell⟩ := hc j q hj
  exact ⟨c, hs, hK, fun i u hu => hg.cell (hcell i u hu) (by rw [add_blockR]; intro e2; have h1 := hne ad e; have h2 := Option.some.inj e2; omega)⟩
theorem cell_ofI {w : World} {A : Option Addr} {l : List Int} (h : Kd.C (Kd.int .i64) w A l.length l) (k : Nat) (hk : k < l.length) : ∃ ad, A = some ad ∧ w.cell? (ad.add k) = some (.int .i64 l[k]) := by
  have hr : ReadsOf (Value.int .i64) (0 : Int) w A l.length l := Kd.reads_of_C (h1 := fun _ => rfl) h
  obtain ⟨ad, e, hc⟩ := hr.2.2 (by omega)
  refine ⟨ad, e, ?_⟩
  have := hc k hk
  simpa [List.getD_eq_getElem?_getD, List.getElem?_eq_getElem hk] using this
/-- Numbers from a place on; they lie in the same block. -/
theorem dropI (A : Option Addr) (c : Nat) (l : List Int) (j : Int) (h0 : 0 ≤ j) (hm : j ≤ l.length) (hc : l.length ≤ c) :
    ∃ A' : Option Addr, (∀ W : World, (Instr.slice 40 (.slice A l.length c) (some (.int .i64 j)) none none).run Try.prog W = .ok (.slice A' (l.drop j.toNat).length (c - j.toNat)) W) ∧
      (∀ w : World, Kd.C (Kd.int .i64) w A l.length l → Kd.C (Kd.int .i64) w A' (l.drop j.toNat).length (l.drop j.toNat)) ∧ (l.drop j.toNat).length ≤ c - j.toNat ∧ (∀ ad', A' = some ad' → ∃ ad, A = some ad ∧ ad'.block = ad.block) := by
  obtain ⟨i0, hi, hz0, hz1, hz2⟩ := info_parts B.info3
  have hl : (l.drop j.toNat).length = l.length - j.toNat := List.length_drop
  refine ⟨if c = j.toNat then A else A.map (·.add j.toNat), fun W => ?_, fun w h => ?_, by rw [hl]; omega, fun ad' he => ?_⟩
  · have ht : Try.prog.underlying 40 = some (.slice 3) := Try.underlying40
    have hel : Try.prog.elem 40 = 3 := by simp [Program.elem, ht]
    have hu : Try.prog.underlying 40 = some (.slice (Try.prog.elem 40)) := by rw [hel]; exact ht
    rw [run_slice_l W 40 A l.length c hu .i64 j h0 hm, hel, hl]
    simp [sizeOf, typeInfo, hi, hz1, sliced, Result.andThen]
  · have hr : ReadsOf (Value.int .i64) (0 : Int) w A l.length l := Kd.reads_of_C (h1 := fun _ => rfl) h
    have h2 := hr.drop_ (c := c) j.toNat (by omega) hc
    rw [hl]
    exact Kd.C_of_reads (h1 := fun _ => rfl) h2
  · cases A with
    | none => split at he <;> simp at he
    | some ad =>
      refine ⟨ad, rfl, ?_⟩
      split at he
      · cases he; rfl
      · simp at he
        rw [← he, add_blockR]
/-- The paper: its numbers lie elsewhere. -/
def Pp (W : World) (B0 : Nat) (t : Int) (l : List Int) (e : Ev) (bad : Bool) : Prop := ∃ A c, BoxE W B0 t (.slice A l.length c) e bad ∧ l.length ≤ c ∧ Kd.C (Kd.int .i64) W A l.length l ∧ ∀ ad, A = some ad → ad.block < B0
theorem Pp.lt {W : World} {B0 : Nat} {t : Int} {l : List Int} {e : Ev} {bad : Bool} (h : Pp W B0 t l e bad) : B0 < W.heap.size := by
  obtain ⟨A, c, h, _⟩ := h; exact blk_ltE h
def TakeEnd (w : World) (B0 : Nat) (t : Int) (l : List Int) (e : Ev) (bad : Bool) (x : Ending) (w' : World) : Prop := x = .returned (.int .i64 (l.headD 0)) ∧ Pp w' B0 t l.tail e (bad || l.isEmpty) ∧ w.grownBy w' (some B0)

set_option maxRecDepth 100000 in
set_option maxHeartbeats 4000000 in
theorem take_none (B0 : Nat) (t : Int) (e : Ev) (bad : Bool) (w : World) (h : Pp w B0 t [] e bad) :
    Calls Try.prog 26 #[.pointer (some ⟨B0, 0, none⟩)] w (TakeEnd w B0 t [] e bad) := by
  obtain ⟨A, c, hb, hc, hR, hne⟩ := h
  obtain ⟨c0, c1, c2, c3, c4, c5, c6, c7, c8, c9, c10, c11⟩ := hb.cells
  have f1 := hb.f 1
  have f11 := hb.f 11
  have HB := Lib.hid hb
  have HR := Lib.hid hR
  have HN := Lib.hid hne
  clear hb hR hne
  go_enter Try.func26, Try.ntmps26
  go_wp2_with (fail)
  refine bodyPost_ret (results_tmp (fn := Try.f26) (t := 2) rfl _ _ _) rfl ?_
  refine ⟨rfl, ⟨A, c, ?_, hc, ?_, HN.out⟩, Lib.grownBy_setCell _ _ _ _⟩
  · have := HB.out.setbad true
    simpa using this
  · exact C_other HR.out (Lib.grownBy_setCell _ _ _ _) HN.out
set_option maxRecDepth 100000 in
set_option maxHeartbeats 4000000 in
theorem take_some (B0 : Nat) (t : Int) (n : Int) (l : List Int) (e : Ev) (bad : Bool) (w : World) (h : Pp w B0 t (n :: l) e bad) :
    Calls Try.prog 26 #[.pointer (some ⟨B0, 0, none⟩)] w (TakeEnd w B0 t (n :: l) e bad) := by
  obtain ⟨A, c, hb, hc, hR, hne⟩ := h
  obtain ⟨A', d1, d2, d3, d4⟩ := dropI A c (n :: l) 1 (by omega) (by rw [List.length_cons]; omega) hc
  obtain ⟨ad, rfl, hce⟩ := cell_ofI hR 0 (by simp)
  rw [add_zeroR] at hce
  have hce : w.cell? ad = some (.int .i64 n) := hce
  have d1 : ∀ W : World, (Instr.slice 40 (.slice (some ad) (n :: l).length c) (some (.int .i64 1)) none none).run Try.prog W = .ok (.slice A' l.length (c - 1)) W := d1
  have d2 : ∀ w : World, Kd.C (Kd.int .i64) w (some ad) (n :: l).length (n :: l) → Kd.C (Kd.int .i64) w A' l.length l := d2
  have d3 : l.length ≤ c - 1 := d3
  obtain ⟨c0, c1, c2, c3, c4, c5, c6, c7, c8, c9, c10, c11⟩ := hb.cells
  have f1 := hb.f 1
  have f11 := hb.f 11
  have hl0 : 0 < (((n :: l).length : Nat) : Int) := by rw [List.length_cons]; omega
  have hl1 : (((n :: l).length : Nat) : Int) ≠ 0 := by omega
  have HX := Lib.hid (show BoxE (w.setCell ⟨B0, 1, none⟩ (.slice A' l.length (c - 1))) B0 t (.slice A' l.length (c - 1)) e bad from hb.setl _)
  have HR := Lib.hid (show Kd.C (Kd.int .i64) (w.setCell ⟨B0, 1, none⟩ (.slice A' l.length (c - 1))) A' l.length l from d2 _ (C_other hR (Lib.grownBy_setCell _ _ _ _) hne))
  have HN := Lib.hid (show ∀ ad', A' = some ad' → ad'.block < B0 from fun ad' he => by
    obtain ⟨ad2, e2, e3⟩ := d4 ad' he
    rw [e3]; exact hne ad2 e2)
  have HE := Lib.hid (show TakeEnd w B0 t (n :: l) e bad (.returned (.int .i64 n)) (w.setCell ⟨B0, 1, none⟩ (.slice A' l.length (c - 1))) from ⟨rfl, ⟨A', c - 1, by simpa using HX.out, d3, HR.out, HN.out⟩, Lib.grownBy_setCell _ _ _ _⟩)
  clear hR hne hb d2 d3 d4 HX HR HN
  generalize TakeEnd w B0 t (n :: l) e bad = Q at *
  generalize hlen : (n :: l).length = len at *
  clear hlen
  go_enter Try.func26, Try.ntmps26
  go_wp2_with (fail)
  exact HE.out
theorem take_calls (B0 : Nat) (t : Int) (l : List Int) (e : Ev) (bad : Bool) (w : World) (h : Pp w B0 t l e bad) :
    Calls Try.prog 26 #[.pointer (some ⟨B0, 0, none⟩)] w (TakeEnd w B0 t l e bad) := by
  cases l with
  | nil => exact take_none B0 t e bad w h
  | cons n l => exact take_some B0 t n l e bad w h
end Go.Proofs.Ytodjlacbjcbafaa.H

/-! Layer 14: how each kind's numbers are read. -/
namespace Go.Proofs.Ytodjlacbjcbafaa.H
open Go.RowKit Moor Go.Proofs.YtodjlacbjcbafaaW.PrintWords Go.Proofs.YtodjlacbjcbafaaW.PrintLast Go.Proofs.YtodjlacbjcbafaaW.PrintMore
set_option linter.unusedVariables false
set_option linter.unusedSimpArgs false

/-- An end with a paper. -/
def Red (w : World) (B0 : Nat) (t : Int) (l : List Int) (e : Ev) (bad : Bool) (x : Ending) (w' : World) : Prop := x = .returned (.tuple #[]) ∧ Pp w' B0 t l e bad ∧ w.grownBy w' (some B0)
theorem Pp.set {W : World} {B0 : Nat} {t : Int} {l : List Int} {e : Ev} {bad : Bool} (h : Pp W B0 t l e bad) (W' : World) (e' : Ev) (bad' : Bool) (hg : W.grownBy W' (some B0)) (hb : ∀ sl, BoxE W B0 t sl e bad → BoxE W' B0 t sl e' bad') : Pp W' B0 t l e' bad' := by
  obtain ⟨A, c, h1, h2, h3, h4⟩ := h
  exact ⟨A, c, hb _ h1, h2, C_other h3 hg h4, h4⟩
theorem BoxE.set2 {W : World} {B0 : Nat} {t : Int} {l : Value} {e : Ev} {bad : Bool} (h : BoxE W B0 t l e bad) (n : Int) : BoxE (W.setCell ⟨B0, 2, none⟩ (.int .i64 n)) B0 t l { e with kind := n } bad := by
  unfold BoxE at *
  simp [World.setCell, Array.getElem?_modify, h]
theorem BoxE.set3 {W : World} {B0 : Nat} {t : Int} {l : Value} {e : Ev} {bad : Bool} (h : BoxE W B0 t l e bad) (n : Int) : BoxE (W.setCell ⟨B0, 3, none⟩ (.int .i64 n)) B0 t l { e with at_ := n } bad := by
  unfold BoxE at *
  simp [World.setCell, Array.getElem?_modify, h]
theorem BoxE.set4 {W : World} {B0 : Nat} {t : Int} {l : Value} {e : Ev} {bad : Bool} (h : BoxE W B0 t l e bad) (n : Int) : BoxE (W.setCell ⟨B0, 4, none⟩ (.int .i64 n)) B0 t l { e with a := n } bad := by
  unfold BoxE at *
  simp [World.setCell, Array.getElem?_modify, h]
theorem BoxE.set5 {W : World} {B0 : Nat} {t : Int} {l : Value} {e : Ev} {bad : Bool} (h : BoxE W B0 t l e bad) (n : Int) : BoxE (W.setCell ⟨B0, 5, none⟩ (.int .i64 n)) B0 t l { e with b := n } bad := by
  unfold BoxE at *
  simp [World.setCell, Array.getElem?_modify, h]
theorem BoxE.set6 {W : World} {B0 : Nat} {t : Int} {l : Value} {e : Ev} {bad : Bool} (h : BoxE W B0 t l e bad) (n : Int) : BoxE (W.setCell ⟨B0, 6, none⟩ (.int .i64 n)) B0 t l { e with c := n } bad := by
  unfold BoxE at *
  simp [World.setCell, Array.getElem?_modify, h]
theorem i64_and7 (n : Int) : Go.bits .and .i64 n 7 = n % 8 := by
  have h7 : (BitVec.ofInt 64 7).toNat = 2 ^ 3 - 1 := by decide
  have key : (BitVec.ofInt 64 n &&& BitVec.ofInt 64 7).toNat = (n % ((2 ^ 64 : Nat) : Int)).toNat % 2 ^ 3 := by
    rw [BitVec.toNat_and, BitVec.toNat_ofInt, h7, Nat.and_two_pow_sub_one_eq_mod]
  show IntKind.i64.wrap ((BitVec.ofInt 64 n &&& BitVec.ofInt 64 7).toNat : Nat) = n % 8
  rw [key, IntKind.wrap_i64]
  omega
theorem i64_and3 (n : Int) : Go.bits .and .i64 n 3 = n % 4 := by
  have h7 : (BitVec.ofInt 64 3).toNat = 2 ^ 2 - 1 := by decide
  have key : (BitVec.ofInt 64 n &&& BitVec.ofInt 64 3).toNat = (n % ((2 ^ 64 : Nat) : Int)).toNat % 2 ^ 2 := by
    rw [BitVec.toNat_and, BitVec.toNat_ofInt, h7, Nat.and_two_pow_sub_one_eq_mod]
  show IntKind.i64.wrap ((BitVec.ofInt 64 n &&& BitVec.ofInt 64 3).toNat : Nat) = n % 4
  rw [key, IntKind.wrap_i64]
  omega
theorem BoxE.set7 {W : World} {B0 : Nat} {t : Int} {l : Value} {e : Ev} {bad : Bool} (h : BoxE W B0 t l e bad) (n : Int) : BoxE (W.setCell ⟨B0, 7, none⟩ (.int .i64 n)) B0 t l { e with q := n } bad := by
  unfold BoxE at *
  simp [World.setCell, Array.getElem?_modify, h]
theorem BoxE.set8 {W : World} {B0 : Nat} {t : Int} {l : Value} {e : Ev} {bad : Bool} (h : BoxE W B0 t l e bad) (n : Int) : BoxE (W.setCell ⟨B0, 8, none⟩ (.int .i64 n)) B0 t l { e with i := n } bad := by
  unfold BoxE at *
  simp [World.setCell, Array.getElem?_modify, h]
theorem BoxE.set9 {W : World} {B0 : Nat} {t : Int} {l : Value} {e : Ev} {bad : Bool} (h : BoxE W B0 t l e bad) (n : Int) : BoxE (W.setCell ⟨B0, 9, none⟩ (.int .i64 n)) B0 t l { e with h := n } bad := by
  unfold BoxE at *
  simp [World.setCell, Array.getElem?_modify, h]
theorem BoxE.set10 {W : World} {B0 : Nat} {t : Int} {l : Value} {e : Ev} {bad : Bool} (h : BoxE W B0 t l e bad) (n : Bool) : BoxE (W.setCell ⟨B0, 10, none⟩ (.bool n)) B0 t l { e with pair := n } bad := by
  unfold BoxE at *
  simp [World.setCell, Array.getElem?_modify, h]
theorem red_end {fn : Func} (hr : fn.results = #[]) {w W : World} {B0 : Nat} {t : Int} {l : List Int} {e : Ev} {bad : Bool} {tmps : Array Value} (h1 : Pp W B0 t l e bad) (h2 : w.grownBy W (some B0)) : bodyPost Try.prog fn (Red w B0 t l e bad) .normal { tmps := tmps, defers := [] } W :=
  bodyPost_end (results_none hr _ _ _) rfl ⟨rfl, h1, h2⟩
set_option maxRecDepth 100000 in
set_option maxHeartbeats 4000000 in
theorem place_calls (B0 : Nat) (t : Int) (l : List Int) (e : Ev) (bad : Bool) (w : World) (h : Pp w B0 t l e bad) :
    Calls Try.prog 39 #[.pointer (some ⟨B0, 0, none⟩)] w (Red w B0 t l.tail { e with a := l.headD 0 } (bad || l.isEmpty)) := by
  have H := Lib.hid h
  clear h
  go_enter Try.func39, Try.ntmps39
  go_wp2_with (fail)
  refine (take_calls B0 t l e bad w H.out).mono ?_
  rintro x w1 ⟨rfl, hp, hg⟩
  have HP := Lib.hid hp
  have HG := Lib.hid hg
  obtain ⟨A, c, hb, _⟩ := hp
  have f4 := hb.f 4
  have f5 := hb.f 5
  have f6 := hb.f 6
  obtain ⟨c0, c1, c2, c3, c4, c5, c6, c7, c8, c9, c10, c11⟩ := hb.cells
  clear hb hg
  generalize l.headD 0 = n at *
  generalize l.tail = l' at *
  generalize (bad || l.isEmpty) = bad' at *
  go_wp2_with (fail)
  exact red_end rfl (HP.out.set _ _ _ (Lib.grownBy_setCell _ _ _ _) (fun sl h => h.set4 _)) (Lib.grownBy_setB HG.out _ _)
set_option maxRecDepth 100000 in
set_option maxHeartbeats 4000000 in
theorem pool_calls (B0 : Nat) (t : Int) (l : List Int) (e : Ev) (bad : Bool) (w : World) (h : Pp w B0 t l e bad) :
    Calls Try.prog 38 #[.pointer (some ⟨B0, 0, none⟩)] w (Red w B0 t l.tail { e with a := l.headD 0 / 8, b := l.headD 0 % 8 } (bad || l.isEmpty)) := by
  have H := Lib.hid h
  clear h
  go_enter Try.func38, Try.ntmps38
  go_wp2_with (fail)
  refine (take_calls B0 t l e bad w H.out).mono ?_
  rintro x w1 ⟨rfl, hp, hg⟩
  have HP := Lib.hid hp
  have HG := Lib.hid hg
  obtain ⟨A, c, hb, _⟩ := hp
  have f4 := hb.f 4
  have f5 := hb.f 5
  have f6 := hb.f 6
  obtain ⟨c0, c1, c2, c3, c4, c5, c6, c7, c8, c9, c10, c11⟩ := hb.cells
  clear hb hg
  generalize l.headD 0 = n at *
  generalize l.tail = l' at *
  generalize (bad || l.isEmpty) = bad' at *
  go_wp2_with (fail)
  rw [i64_and7]
  have g1 := Lib.grownBy_setCell w1 B0 4 (.int .i64 (n / 8))
  have g2 := Lib.grownBy_setB g1 5 (.int .i64 (n % 8))
  exact red_end rfl (HP.out.set _ _ _ g2 (fun sl h => (h.set4 _).set5 _)) (Lib.grownBy_trans HG.out g2)
set_option maxRecDepth 100000 in
set_option maxHeartbeats 4000000 in
theorem block_calls (B0 : Nat) (t : Int) (l : List Int) (e : Ev) (bad : Bool) (w : World) (h : Pp w B0 t l e bad) :
    Calls Try.prog 37 #[.pointer (some ⟨B0, 0, none⟩)] w (Red w B0 t l.tail { e with a := l.headD 0 / 32, b := l.headD 0 / 8 % 4, c := l.headD 0 % 8 } (bad || l.isEmpty)) := by
  have H := Lib.hid h
  clear h
  go_enter Try.func37, Try.ntmps37
  go_wp2_with (fail)
  refine (take_calls B0 t l e bad w H.out).mono ?_
  rintro x w1 ⟨rfl, hp, hg⟩
  have HP := Lib.hid hp
  have HG := Lib.hid hg
  obtain ⟨A, c, hb, _⟩ := hp
  have f4 := hb.f 4
  have f5 := hb.f 5
  have f6 := hb.f 6
  obtain ⟨c0, c1, c2, c3, c4, c5, c6, c7, c8, c9, c10, c11⟩ := hb.cells
  clear hb hg
  generalize l.headD 0 = n at *
  generalize l.tail = l' at *
  generalize (bad || l.isEmpty) = bad' at *
  go_wp2_with (fail)
  rw [i64_and7, i64_and3]
  have g1 := Lib.grownBy_setCell w1 B0 4 (.int .i64 (n / 32))
  have g2 := Lib.grownBy_setB g1 5 (.int .i64 (n / 8 % 4))
  have g3 := Lib.grownBy_setB g2 6 (.int .i64 (n % 8))
  exact red_end rfl (HP.out.set _ _ _ g3 (fun sl h => ((h.set4 _).set5 _).set6 _)) (Lib.grownBy_trans HG.out g3)
/-- What policy reads. -/
def polE (e : Ev) (l : List Int) : Ev := { e with q := l.headD 0, i := l.tail.headD 0, h := l.tail.tail.headD 0, pair := l.tail.tail.tail.headD 0 == 1 }
def badE (bad : Bool) (l : List Int) : Bool := (bad || l.isEmpty || l.tail.isEmpty || l.tail.tail.isEmpty || l.tail.tail.tail.isEmpty) || decide (l.tail.tail.tail.headD 0 > 1)
set_option maxRecDepth 100000 in
set_option maxHeartbeats 4000000 in
theorem policy_calls (B0 : Nat) (t : Int) (l : List Int) (e : Ev) (bad : Bool) (w : World) (h : Pp w B0 t l e bad) :
    Calls Try.prog 40 #[.pointer (some ⟨B0, 0, none⟩)] w (Red w B0 t l.tail.tail.tail.tail (polE e l) (badE bad l)) := by
  have H := Lib.hid h
  clear h
  have HE := Lib.hid (show polE e l = { e with q := l.headD 0, i := l.tail.headD 0, h := l.tail.tail.headD 0, pair := l.tail.tail.tail.headD 0 == 1 } from rfl)
  have HZ := Lib.hid (show badE bad l = ((bad || l.isEmpty || l.tail.isEmpty || l.tail.tail.isEmpty || l.tail.tail.tail.isEmpty) || decide (l.tail.tail.tail.headD 0 > 1)) from rfl)
  generalize polE e l = eZ at *
  generalize badE bad l = bZ at *
  go_enter Try.func40, Try.ntmps40
  go_wp2_with (fail)
  refine (take_calls B0 t l e bad w H.out).mono ?_
  rintro x w1 ⟨rfl, hp, hg⟩
  have HP := Lib.hid hp
  have HG := Lib.hid hg
  clear hp hg
  generalize l.headD 0 = n1 at *
  generalize l.tail = l1 at *
  generalize (bad || l.isEmpty) = b1 at *
  go_wp2_with (fail)
  refine (take_calls B0 t l1 e b1 w1 HP.out).mono ?_
  rintro x w2 ⟨rfl, hp, hg⟩
  have HP2 := Lib.hid hp
  have HG2 := Lib.hid (Lib.grownBy_trans HG.out hg)
  clear hp hg HP HG
  generalize l1.headD 0 = n2 at *
  generalize l1.tail = l2 at *
  generalize (b1 || l1.isEmpty) = b2 at *
  go_wp2_with (fail)
  refine (take_calls B0 t l2 e b2 w2 HP2.out).mono ?_
  rintro x w3 ⟨rfl, hp, hg⟩
  have HP3 := Lib.hid hp
  have HG3 := Lib.hid (Lib.grownBy_trans HG2.out hg)
  obtain ⟨A, c, hb, _⟩ := hp
  have f7 := hb.f 7
  have f8 := hb.f 8
  have f9 := hb.f 9
  have f10 := hb.f 10
  have f11 := hb.f 11
  obtain ⟨c0, c1, c2, c3, c4, c5, c6, c7, c8, c9, c10, c11⟩ := hb.cells
  clear hb hg HP2 HG2
  generalize l2.headD 0 = n3 at *
  generalize l2.tail = l3 at *
  generalize (b2 || l2.isEmpty) = b3 at *
  go_wp2_with (fail)
  have g1 := Lib.grownBy_setCell w3 B0 7 (.int .i64 n1)
  have g2 := Lib.grownBy_setB g1 8 (.int .i64 n2)
  have g3 := Lib.grownBy_setB g2 9 (.int .i64 n3)
  have g4 := Lib.grownBy_setB g3 10 (.bool false)
  have HP4 := HP3.out.set _ { e with q := n1, i := n2, h := n3, pair := false } _ g4 (fun sl h => ((((h.set7 _).set8 _).set9 _).set10 _))
  refine (take_calls B0 t l3 _ b3 _ HP4).mono ?_
  rintro x w4 ⟨rfl, hp, hg⟩
  have HP5 := Lib.hid hp
  have HG5 := Lib.hid (Lib.grownBy_trans HG3.out (Lib.grownBy_trans g4 hg))
  obtain ⟨A, c, hb, _⟩ := hp
  clear f7 f8 f9 f10 f11 c0 c1 c2 c3 c4 c5 c6 c7 c8 c9 c10 c11 g1 g2 g3 g4 HP4 HP3 HG3
  have f10 := hb.f 10
  have f11 := hb.f 11
  obtain ⟨c0, c1, c2, c3, c4, c5, c6, c7, c8, c9, c10, c11⟩ := hb.cells
  clear hb hg
  generalize l3.headD 0 = n4 at *
  generalize l3.tail = l4 at *
  generalize (b3 || l3.isEmpty) = b4 at *
  cases b4 with
  | true =>
    go_wp2_with (fail)
    have g1 := Lib.grownBy_setCell w4 B0 10 (.bool (n4 == 1))
    have g2 := Lib.grownBy_setB g1 11 (.bool true)
    rw [HE.out, HZ.out]
    exact red_end rfl (HP5.out.set _ _ _ g2 (fun sl h => (h.set10 (n4 == 1)).setbad true)) (Lib.grownBy_trans HG5.out g2)
  | false =>
    go_wp2_with (fail)
    have g1 := Lib.grownBy_setCell w4 B0 10 (.bool (n4 == 1))
    have g2 := Lib.grownBy_setB g1 11 (.bool (decide (1 < n4)))
    rw [HE.out, HZ.out]
    exact red_end rfl (HP5.out.set _ _ _ g2 (fun sl h => (h.set10 (n4 == 1)).setbad (decide (1 < n4)))) (Lib.grownBy_trans HG5.out g2)
end Go.Proofs.Ytodjlacbjcbafaa.H
