import Derived.Test.YtiopafdndlodoaaRecH0
import Derived.Test.YtiopafdndlodoaaVariR
import Derived.Test.YtiopafdndlodoaaMoorWire
import Derived.Deep.RegionHeld3
import Derived.Deep.QuietTactic
import Derived.BigQuiet
import Derived.Lib.Hide
import Derived.Lib.BufferOwn
import Derived.Lib.BufferWrite
import Derived.Deep.RegionHeldLaw
import Derived.Deep.Slices
import Derived.Deep.Fields
import Derived.ChangeSame
import Derived.ChangeSlices
import Derived.OpenShut
import Derived.Test.YtiopafdndlodoaaRowS
/-! Layer 19: where the numbers of what is asked stand. -/
namespace Go.Proofs.Ytiopafdndlodoaa.H
open Go.RowKit Moor Go.Proofs.YtiopafdndlodoaaW.PrintWords Go.Proofs.YtiopafdndlodoaaW.PrintLast Go.Proofs.YtiopafdndlodoaaW.PrintMore
set_option linter.unusedVariables false
set_option linter.unusedSimpArgs false

abbrev cellsQ (r : Rq) : Array Value := #[.int .i64 r.kind, .int .i64 r.sub, .int .i64 r.addr, .int .i64 r.blk, .int .i64 r.n, .int .i64 r.q, .int .i64 r.i, .int .i64 r.h, .bool r.pair]
def QC (W : World) (B0 : Nat) (cs : Array Value) : Prop := W.heap[B0]? = some (.cells cs 25 (0, 0))
theorem QC.new (W : World) (cs : Array Value) : QC (W.alloc (.cells cs 25)) W.heap.size cs := heap_alloc_new W _
theorem QC.lt {W : World} {B0 : Nat} {cs : Array Value} (h : QC W B0 cs) : B0 < W.heap.size := blk_lt h
theorem QC.below {W W' : World} {B0 : Nat} {cs : Array Value} (h : QC W B0 cs) (hb : Below W.heap.size W W') : QC W' B0 cs := (hb.block B0 (blk_lt h)).trans h
theorem QC.alloc {W : World} {B0 : Nat} {cs : Array Value} (h : QC W B0 cs) (o : Obj) : QC (W.alloc o) B0 cs := h.below (below_alloc (Below.refl _ _) o)
theorem QC.c {W : World} {B0 : Nat} {cs : Array Value} (h : QC W B0 cs) (j : Nat) : W.cell? ⟨B0, j, none⟩ = cs[j]? := blk_cell h j
theorem QC.f {W : World} {B0 : Nat} {cs : Array Value} (h : QC W B0 cs) (o : Nat) : W.frozen? ⟨B0, o, none⟩ = false := blk_frozen h o
theorem QC.set {W : World} {B0 : Nat} {cs : Array Value} (h : QC W B0 cs) (j : Nat) (v : Value) : QC (W.setCell ⟨B0, j, none⟩ v) B0 (cs.setIfInBounds j v) := blk_set h j v
theorem QC.other {W : World} {B0 B1 : Nat} {cs : Array Value} (h : QC W B0 cs) (hne : B0 ≠ B1) (j : Nat) (v : Value) : QC (W.setCell ⟨B1, j, none⟩ v) B0 cs := blk_far h hne v
theorem QC.nine {W : World} {B0 : Nat} {r : Rq} (h : QC W B0 (cellsQ r)) : W.cell? ⟨B0, 0, none⟩ = some (.int .i64 r.kind) ∧ W.cell? ⟨B0, 1, none⟩ = some (.int .i64 r.sub) ∧ W.cell? ⟨B0, 2, none⟩ = some (.int .i64 r.addr) ∧ W.cell? ⟨B0, 3, none⟩ = some (.int .i64 r.blk) ∧ W.cell? ⟨B0, 4, none⟩ = some (.int .i64 r.n) ∧ W.cell? ⟨B0, 5, none⟩ = some (.int .i64 r.q) ∧ W.cell? ⟨B0, 6, none⟩ = some (.int .i64 r.i) ∧ W.cell? ⟨B0, 7, none⟩ = some (.int .i64 r.h) ∧ W.cell? ⟨B0, 8, none⟩ = some (.bool r.pair) :=
  ⟨(h.c 0).trans rfl, (h.c 1).trans rfl, (h.c 2).trans rfl, (h.c 3).trans rfl, (h.c 4).trans rfl, (h.c 5).trans rfl, (h.c 6).trans rfl, (h.c 7).trans rfl, (h.c 8).trans rfl⟩
theorem QC.size {W : World} {B0 : Nat} {cs : Array Value} (h : QC W B0 cs) : W.heap[B0]? = some (.cells cs 25 (0, 0)) := h
/-- The places of a kind's numbers. -/
def offsW (k : Int) : List Nat := if k = 0 then [1] else if k = 1 ∨ k = 2 then [1, 2, 3] else if k = 3 ∨ k = 5 ∨ k = 7 then [4] else if k = 4 ∨ k = 6 then [2, 4] else if k = 9 then [2, 3, 4] else [5, 6, 7]
theorem offsW_range (k : Int) : ∀ o ∈ offsW k, 1 ≤ o ∧ o ≤ 7 := by
  unfold offsW
  repeat' split
  all_goals decide
theorem offsW_len (k : Int) : 1 ≤ (offsW k).length ∧ (offsW k).length ≤ 3 := by
  unfold offsW
  repeat' split
  all_goals decide
def ptrQ (B0 : Nat) (o : Nat) : Value := .pointer (some ⟨B0, o, none⟩)
abbrev kP (B0 : Nat) : Kd Nat := Kd.scalar (ptrQ B0) (fun _ => rfl)
theorem infoP : (Try.prog.info? 56).map (fun i => (i.zero, i.size, i.bytes)) = some (some (.pointer none), 1, 8) := by kernel_rfl
theorem lit_P (W : World) (B0 : Nat) (l : List Nat) (cs : Array Value) (t : TypeId) (hl : l.length ≤ 1000) (hcs : cs = (l.map (ptrQ B0)).toArray) : Kd.C (kP B0) (W.alloc (.cells cs t)) (some ⟨W.heap.size, 0, none⟩) l.length l := by
  subst hcs
  refine Kd.C_of_reads (d := 0) ⟨rfl, by omega, fun _ => ⟨_, rfl, fun j hj => ?_⟩⟩
  rw [add_plain, blk_cell (heap_alloc_new W _)]
  simp [List.getD_eq_getElem?_getD, List.getElem?_eq_getElem hj]
/-- Pointers in new memory. -/
def FldEnd (B0 : Nat) (l : List Nat) (w : World) (e : Ending) (w' : World) : Prop := ∃ (A : Option Addr) (c : Nat), e = .returned (.slice A l.length c) ∧ l.length ≤ c ∧ Kd.C (kP B0) w' A l.length l ∧ (∀ ad, A = some ad → w.heap.size ≤ ad.block) ∧ Below w.heap.size w w'
theorem fld_end {w w1 : World} {B0 : Nat} {l : List Nat} {v : Value} (hr : Kd.R (kP B0) 56 w1 w.heap.size (fun _ => True) v l) (hb : Below w.heap.size w w1) : FldEnd B0 l w (.returned v) w1 := by
  have hbd := Kd.R_bound hr
  obtain ⟨A, c, rfl, hc, hC⟩ := Kd.R_reads hr
  exact ⟨A, c, rfl, hc, hC, fun ad e => (hbd.1 ad.block (by rw [e]; rfl)).2.1, hb⟩

set_option maxRecDepth 100000 in
set_option maxHeartbeats 4000000 in
theorem fields_0 (B0 : Nat) (w : World) (x0 : w.cell? ⟨B0, 0, none⟩ = some (.int .i64 0)) :
    Calls Try.prog 24 #[.pointer (some ⟨B0, 0, none⟩)] w (FldEnd B0 [1] w) := by
  go_enter Try.func24, Try.ntmps24
  have HA1 := Lib.hid (lit_P w B0 [1] #[.pointer (some ⟨B0, 1, none⟩)] 56 (by decide) rfl)
  have D1 := Lib.hid (below_alloc (Below.refl w.heap.size w) (.cells #[.pointer (some ⟨B0, 1, none⟩)] 56))
  go_wp2_with (at_builtin; refine Kd.R_append_rows (kP B0) (Rr := fun x cs => cs = [ptrQ B0 x]) (w0 := w) w.heap.size rfl _ _ 53 56 (.pointer none) 8 rfl Try.underlying53 infoP rfl Nat.one_pos (by decide) (.slice none 0 0) [] [1] _ 1 1 (fun _ => True) (fun _ => False) rfl rfl (Kd.R_nil _ _ _ _ _) HA1.out (fun _ _ h => h) (fun _ h => h.elim) (fun _ _ => trivial) D1.out D1.out.size (by decide) ?_; intro v1 w1 hr1 hb1 hG1 _)
  replace hr1 : Kd.R (kP B0) 56 w1 w.heap.size (fun _ => True) v1 [1] := (by simpa using hr1)
  have HRL := Lib.hid hr1
  have HBL := Lib.hid hb1
  clear hr1 hb1
  go_wp2_with (fail)
  go_ret
  exact fld_end HRL.out HBL.out
set_option maxRecDepth 100000 in
set_option maxHeartbeats 4000000 in
theorem fields_1 (B0 : Nat) (w : World) (x0 : w.cell? ⟨B0, 0, none⟩ = some (.int .i64 1)) :
    Calls Try.prog 24 #[.pointer (some ⟨B0, 0, none⟩)] w (FldEnd B0 [1, 2, 3] w) := by
  go_enter Try.func24, Try.ntmps24
  have HA := Lib.hid (Kd.C_drew (lit_P w B0 [1, 2, 3] #[.pointer (some ⟨B0, 1, none⟩), .pointer (some ⟨B0, 2, none⟩), .pointer (some ⟨B0, 3, none⟩)] 56 (by decide) rfl))
  have D0 := Lib.hid (below_drew (below_alloc (Below.refl w.heap.size w) (.cells #[.pointer (some ⟨B0, 1, none⟩), .pointer (some ⟨B0, 2, none⟩), .pointer (some ⟨B0, 3, none⟩)] 56)))
  go_wp2_with (fail)
  go_region_held3 (fun _ => True) (exact True.intro) ((refine Kd.R_append_rows_step (kP B0) (Rr := fun x cs => cs = [ptrQ B0 x]) (w0 := w) w.heap.size (by rfl) _ _ 53 56 (.pointer none) 8 (by rfl) Try.underlying53 infoP rfl Nat.one_pos (by decide) (.slice none 0 0) [] [1, 2, 3] _ 3 3 (fun _ => True) (fun _ => False) (by rfl) (by rfl) (Kd.R_nil _ _ _ _ _) HA.out (fun _ _ h => h) (fun _ h => h.elim) (fun _ _ => trivial) D0.out D0.out.size (by decide) ?_; intro v1 w1 hr1 hb1 hG1 _))
  replace hr1 : Kd.R (kP B0) 56 w1 w.heap.size (fun _ => True) v1 [1, 2, 3] := (by simpa using hr1)
  have HRL := Lib.hid hr1
  have HBL := Lib.hid hb1
  clear hr1 hb1
  go_wp2_with (fail)
  go_ret
  exact fld_end HRL.out HBL.out
set_option maxRecDepth 100000 in
set_option maxHeartbeats 4000000 in
theorem fields_2 (B0 : Nat) (w : World) (x0 : w.cell? ⟨B0, 0, none⟩ = some (.int .i64 2)) :
    Calls Try.prog 24 #[.pointer (some ⟨B0, 0, none⟩)] w (FldEnd B0 [1, 2, 3] w) := by
  go_enter Try.func24, Try.ntmps24
  have HA := Lib.hid (Kd.C_drew (lit_P w B0 [1, 2, 3] #[.pointer (some ⟨B0, 1, none⟩), .pointer (some ⟨B0, 2, none⟩), .pointer (some ⟨B0, 3, none⟩)] 56 (by decide) rfl))
  have D0 := Lib.hid (below_drew (below_alloc (Below.refl w.heap.size w) (.cells #[.pointer (some ⟨B0, 1, none⟩), .pointer (some ⟨B0, 2, none⟩), .pointer (some ⟨B0, 3, none⟩)] 56)))
  go_wp2_with (fail)
  go_region_held3 (fun _ => True) (exact True.intro) ((refine Kd.R_append_rows_step (kP B0) (Rr := fun x cs => cs = [ptrQ B0 x]) (w0 := w) w.heap.size (by rfl) _ _ 53 56 (.pointer none) 8 (by rfl) Try.underlying53 infoP rfl Nat.one_pos (by decide) (.slice none 0 0) [] [1, 2, 3] _ 3 3 (fun _ => True) (fun _ => False) (by rfl) (by rfl) (Kd.R_nil _ _ _ _ _) HA.out (fun _ _ h => h) (fun _ h => h.elim) (fun _ _ => trivial) D0.out D0.out.size (by decide) ?_; intro v1 w1 hr1 hb1 hG1 _))
  replace hr1 : Kd.R (kP B0) 56 w1 w.heap.size (fun _ => True) v1 [1, 2, 3] := (by simpa using hr1)
  have HRL := Lib.hid hr1
  have HBL := Lib.hid hb1
  clear hr1 hb1
  go_wp2_with (fail)
  go_ret
  exact fld_end HRL.out HBL.out
set_option maxRecDepth 100000 in
set_option maxHeartbeats 4000000 in
theorem fields_3 (B0 : Nat) (w : World) (x0 : w.cell? ⟨B0, 0, none⟩ = some (.int .i64 3)) :
    Calls Try.prog 24 #[.pointer (some ⟨B0, 0, none⟩)] w (FldEnd B0 [4] w) := by
  go_enter Try.func24, Try.ntmps24
  have HA1 := Lib.hid (lit_P w B0 [4] #[.pointer (some ⟨B0, 4, none⟩)] 56 (by decide) rfl)
  have D1 := Lib.hid (below_alloc (Below.refl w.heap.size w) (.cells #[.pointer (some ⟨B0, 4, none⟩)] 56))
  go_wp2_with (at_builtin; refine Kd.R_append_rows (kP B0) (Rr := fun x cs => cs = [ptrQ B0 x]) (w0 := w) w.heap.size rfl _ _ 53 56 (.pointer none) 8 rfl Try.underlying53 infoP rfl Nat.one_pos (by decide) (.slice none 0 0) [] [4] _ 1 1 (fun _ => True) (fun _ => False) rfl rfl (Kd.R_nil _ _ _ _ _) HA1.out (fun _ _ h => h) (fun _ h => h.elim) (fun _ _ => trivial) D1.out D1.out.size (by decide) ?_; intro v1 w1 hr1 hb1 hG1 _)
  replace hr1 : Kd.R (kP B0) 56 w1 w.heap.size (fun _ => True) v1 [4] := (by simpa using hr1)
  have HRL := Lib.hid hr1
  have HBL := Lib.hid hb1
  clear hr1 hb1
  go_wp2_with (fail)
  go_ret
  exact fld_end HRL.out HBL.out
set_option maxRecDepth 100000 in
set_option maxHeartbeats 4000000 in
theorem fields_4 (B0 : Nat) (w : World) (x0 : w.cell? ⟨B0, 0, none⟩ = some (.int .i64 4)) :
    Calls Try.prog 24 #[.pointer (some ⟨B0, 0, none⟩)] w (FldEnd B0 [2, 4] w) := by
  go_enter Try.func24, Try.ntmps24
  have HA := Lib.hid (Kd.C_drew (lit_P w B0 [2, 4] #[.pointer (some ⟨B0, 2, none⟩), .pointer (some ⟨B0, 4, none⟩)] 56 (by decide) rfl))
  have D0 := Lib.hid (below_drew (below_alloc (Below.refl w.heap.size w) (.cells #[.pointer (some ⟨B0, 2, none⟩), .pointer (some ⟨B0, 4, none⟩)] 56)))
  go_wp2_with (fail)
  go_region_held3 (fun _ => True) (exact True.intro) ((refine Kd.R_append_rows_step (kP B0) (Rr := fun x cs => cs = [ptrQ B0 x]) (w0 := w) w.heap.size (by rfl) _ _ 53 56 (.pointer none) 8 (by rfl) Try.underlying53 infoP rfl Nat.one_pos (by decide) (.slice none 0 0) [] [2, 4] _ 2 2 (fun _ => True) (fun _ => False) (by rfl) (by rfl) (Kd.R_nil _ _ _ _ _) HA.out (fun _ _ h => h) (fun _ h => h.elim) (fun _ _ => trivial) D0.out D0.out.size (by decide) ?_; intro v1 w1 hr1 hb1 hG1 _))
  replace hr1 : Kd.R (kP B0) 56 w1 w.heap.size (fun _ => True) v1 [2, 4] := (by simpa using hr1)
  have HRL := Lib.hid hr1
  have HBL := Lib.hid hb1
  clear hr1 hb1
  go_wp2_with (fail)
  go_ret
  exact fld_end HRL.out HBL.out
set_option maxRecDepth 100000 in
set_option maxHeartbeats 4000000 in
theorem fields_5 (B0 : Nat) (w : World) (x0 : w.cell? ⟨B0, 0, none⟩ = some (.int .i64 5)) :
    Calls Try.prog 24 #[.pointer (some ⟨B0, 0, none⟩)] w (FldEnd B0 [4] w) := by
  go_enter Try.func24, Try.ntmps24
  have HA1 := Lib.hid (lit_P w B0 [4] #[.pointer (some ⟨B0, 4, none⟩)] 56 (by decide) rfl)
  have D1 := Lib.hid (below_alloc (Below.refl w.heap.size w) (.cells #[.pointer (some ⟨B0, 4, none⟩)] 56))
  go_wp2_with (at_builtin; refine Kd.R_append_rows (kP B0) (Rr := fun x cs => cs = [ptrQ B0 x]) (w0 := w) w.heap.size rfl _ _ 53 56 (.pointer none) 8 rfl Try.underlying53 infoP rfl Nat.one_pos (by decide) (.slice none 0 0) [] [4] _ 1 1 (fun _ => True) (fun _ => False) rfl rfl (Kd.R_nil _ _ _ _ _) HA1.out (fun _ _ h => h) (fun _ h => h.elim) (fun _ _ => trivial) D1.out D1.out.size (by decide) ?_; intro v1 w1 hr1 hb1 hG1 _)
  replace hr1 : Kd.R (kP B0) 56 w1 w.heap.size (fun _ => True) v1 [4] := (by simpa using hr1)
  have HRL := Lib.hid hr1
  have HBL := Lib.hid hb1
  clear hr1 hb1
  go_wp2_with (fail)
  go_ret
  exact fld_end HRL.out HBL.out
set_option maxRecDepth 100000 in
set_option maxHeartbeats 4000000 in
theorem fields_6 (B0 : Nat) (w : World) (x0 : w.cell? ⟨B0, 0, none⟩ = some (.int .i64 6)) :
    Calls Try.prog 24 #[.pointer (some ⟨B0, 0, none⟩)] w (FldEnd B0 [2, 4] w) := by
  go_enter Try.func24, Try.ntmps24
  have HA := Lib.hid (Kd.C_drew (lit_P w B0 [2, 4] #[.pointer (some ⟨B0, 2, none⟩), .pointer (some ⟨B0, 4, none⟩)] 56 (by decide) rfl))
  have D0 := Lib.hid (below_drew (below_alloc (Below.refl w.heap.size w) (.cells #[.pointer (some ⟨B0, 2, none⟩), .pointer (some ⟨B0, 4, none⟩)] 56)))
  go_wp2_with (fail)
  go_region_held3 (fun _ => True) (exact True.intro) ((refine Kd.R_append_rows_step (kP B0) (Rr := fun x cs => cs = [ptrQ B0 x]) (w0 := w) w.heap.size (by rfl) _ _ 53 56 (.pointer none) 8 (by rfl) Try.underlying53 infoP rfl Nat.one_pos (by decide) (.slice none 0 0) [] [2, 4] _ 2 2 (fun _ => True) (fun _ => False) (by rfl) (by rfl) (Kd.R_nil _ _ _ _ _) HA.out (fun _ _ h => h) (fun _ h => h.elim) (fun _ _ => trivial) D0.out D0.out.size (by decide) ?_; intro v1 w1 hr1 hb1 hG1 _))
  replace hr1 : Kd.R (kP B0) 56 w1 w.heap.size (fun _ => True) v1 [2, 4] := (by simpa using hr1)
  have HRL := Lib.hid hr1
  have HBL := Lib.hid hb1
  clear hr1 hb1
  go_wp2_with (fail)
  go_ret
  exact fld_end HRL.out HBL.out
set_option maxRecDepth 100000 in
set_option maxHeartbeats 4000000 in
theorem fields_7 (B0 : Nat) (w : World) (x0 : w.cell? ⟨B0, 0, none⟩ = some (.int .i64 7)) :
    Calls Try.prog 24 #[.pointer (some ⟨B0, 0, none⟩)] w (FldEnd B0 [4] w) := by
  go_enter Try.func24, Try.ntmps24
  have HA1 := Lib.hid (lit_P w B0 [4] #[.pointer (some ⟨B0, 4, none⟩)] 56 (by decide) rfl)
  have D1 := Lib.hid (below_alloc (Below.refl w.heap.size w) (.cells #[.pointer (some ⟨B0, 4, none⟩)] 56))
  go_wp2_with (at_builtin; refine Kd.R_append_rows (kP B0) (Rr := fun x cs => cs = [ptrQ B0 x]) (w0 := w) w.heap.size rfl _ _ 53 56 (.pointer none) 8 rfl Try.underlying53 infoP rfl Nat.one_pos (by decide) (.slice none 0 0) [] [4] _ 1 1 (fun _ => True) (fun _ => False) rfl rfl (Kd.R_nil _ _ _ _ _) HA1.out (fun _ _ h => h) (fun _ h => h.elim) (fun _ _ => trivial) D1.out D1.out.size (by decide) ?_; intro v1 w1 hr1 hb1 hG1 _)
  replace hr1 : Kd.R (kP B0) 56 w1 w.heap.size (fun _ => True) v1 [4] := (by simpa using hr1)
  have HRL := Lib.hid hr1
  have HBL := Lib.hid hb1
  clear hr1 hb1
  go_wp2_with (fail)
  go_ret
  exact fld_end HRL.out HBL.out
set_option maxRecDepth 100000 in
set_option maxHeartbeats 4000000 in
theorem fields_8 (B0 : Nat) (w : World) (x0 : w.cell? ⟨B0, 0, none⟩ = some (.int .i64 8)) :
    Calls Try.prog 24 #[.pointer (some ⟨B0, 0, none⟩)] w (FldEnd B0 [5, 6, 7] w) := by
  go_enter Try.func24, Try.ntmps24
  have HA := Lib.hid (Kd.C_drew (lit_P w B0 [5, 6, 7] #[.pointer (some ⟨B0, 5, none⟩), .pointer (some ⟨B0, 6, none⟩), .pointer (some ⟨B0, 7, none⟩)] 56 (by decide) rfl))
  have D0 := Lib.hid (below_drew (below_alloc (Below.refl w.heap.size w) (.cells #[.pointer (some ⟨B0, 5, none⟩), .pointer (some ⟨B0, 6, none⟩), .pointer (some ⟨B0, 7, none⟩)] 56)))
  go_wp2_with (fail)
  go_region_held3 (fun _ => True) (exact True.intro) ((refine Kd.R_append_rows_step (kP B0) (Rr := fun x cs => cs = [ptrQ B0 x]) (w0 := w) w.heap.size (by rfl) _ _ 53 56 (.pointer none) 8 (by rfl) Try.underlying53 infoP rfl Nat.one_pos (by decide) (.slice none 0 0) [] [5, 6, 7] _ 3 3 (fun _ => True) (fun _ => False) (by rfl) (by rfl) (Kd.R_nil _ _ _ _ _) HA.out (fun _ _ h => h) (fun _ h => h.elim) (fun _ _ => trivial) D0.out D0.out.size (by decide) ?_; intro v1 w1 hr1 hb1 hG1 _))
  replace hr1 : Kd.R (kP B0) 56 w1 w.heap.size (fun _ => True) v1 [5, 6, 7] := (by simpa using hr1)
  have HRL := Lib.hid hr1
  have HBL := Lib.hid hb1
  clear hr1 hb1
  go_wp2_with (fail)
  go_ret
  exact fld_end HRL.out HBL.out
set_option maxRecDepth 100000 in
set_option maxHeartbeats 4000000 in
theorem fields_9 (B0 : Nat) (w : World) (x0 : w.cell? ⟨B0, 0, none⟩ = some (.int .i64 9)) :
    Calls Try.prog 24 #[.pointer (some ⟨B0, 0, none⟩)] w (FldEnd B0 [2, 3, 4] w) := by
  go_enter Try.func24, Try.ntmps24
  have HA := Lib.hid (Kd.C_drew (lit_P w B0 [2, 3] #[.pointer (some ⟨B0, 2, none⟩), .pointer (some ⟨B0, 3, none⟩)] 56 (by decide) rfl))
  have D0 := Lib.hid (below_drew (below_alloc (Below.refl w.heap.size w) (.cells #[.pointer (some ⟨B0, 2, none⟩), .pointer (some ⟨B0, 3, none⟩)] 56)))
  go_wp2_with (fail)
  go_region_held3 (fun _ => True) (exact True.intro) ((refine Kd.R_append_rows_step (kP B0) (Rr := fun x cs => cs = [ptrQ B0 x]) (w0 := w) w.heap.size (by rfl) _ _ 53 56 (.pointer none) 8 (by rfl) Try.underlying53 infoP rfl Nat.one_pos (by decide) (.slice none 0 0) [] [2, 3] _ 2 2 (fun _ => True) (fun _ => False) (by rfl) (by rfl) (Kd.R_nil _ _ _ _ _) HA.out (fun _ _ h => h) (fun _ h => h.elim) (fun _ _ => trivial) D0.out D0.out.size (by decide) ?_; intro v1 w1 hr1 hb1 hG1 _))
  replace hr1 : Kd.R (kP B0) 56 w1 w.heap.size (fun _ => True) v1 [2, 3] := (by simpa using hr1)
  have HR1 := Lib.hid hr1
  have HB1 := Lib.hid hb1
  clear hr1 hb1 HA D0
  have HA2 := Lib.hid (lit_P w1 B0 [4] #[.pointer (some ⟨B0, 4, none⟩)] 56 (by decide) rfl)
  have D2 := Lib.hid (below_alloc HB1.out (.cells #[.pointer (some ⟨B0, 4, none⟩)] 56))
  go_wp2_with (at_builtin; refine Kd.R_append_rows (kP B0) (Rr := fun x cs => cs = [ptrQ B0 x]) (w0 := w) w.heap.size rfl _ _ 53 56 (.pointer none) 8 rfl Try.underlying53 infoP rfl Nat.one_pos (by decide) v1 [2, 3] [4] _ 1 1 (fun _ => True) (fun _ => False) rfl rfl (Kd.R_alloc HR1.out _) HA2.out (fun _ _ h => h) (fun _ h => h.elim) (fun _ _ => trivial) D2.out D2.out.size (by decide) ?_; intro v2 w2 hr2 hb2 hG2 _)
  replace hr2 : Kd.R (kP B0) 56 w2 w.heap.size (fun _ => True) v2 [2, 3, 4] := (by simpa using hr2)
  have HRL := Lib.hid hr2
  have HBL := Lib.hid hb2
  clear hr2 hb2
  go_wp2_with (fail)
  go_ret
  exact fld_end HRL.out HBL.out
theorem fields_calls (B0 : Nat) (r : Rq) (hk : kindW r.kind) (cs : Array Value) (hc0 : cs[0]? = some (.int .i64 r.kind)) (w : World) (h : QC w B0 cs) :
    Calls Try.prog 24 #[.pointer (some ⟨B0, 0, none⟩)] w (FldEnd B0 (offsW r.kind) w) := by
  have x0 := (h.c 0).trans hc0
  unfold kindW at hk
  generalize r.kind = k at *
  have hk' : k = 0 ∨ k = 1 ∨ k = 2 ∨ k = 3 ∨ k = 4 ∨ k = 5 ∨ k = 6 ∨ k = 7 ∨ k = 8 ∨ k = 9 := by omega
  rcases hk' with rfl | rfl | rfl | rfl | rfl | rfl | rfl | rfl | rfl | rfl
  · exact fields_0 B0 w x0
  · exact fields_1 B0 w x0
  · exact fields_2 B0 w x0
  · exact fields_3 B0 w x0
  · exact fields_4 B0 w x0
  · exact fields_5 B0 w x0
  · exact fields_6 B0 w x0
  · exact fields_7 B0 w x0
  · exact fields_8 B0 w x0
  · exact fields_9 B0 w x0
end Go.Proofs.Ytiopafdndlodoaa.H

/-! Layer 19: what is asked, of its numbers alone. -/
namespace Go.Proofs.Ytiopafdndlodoaa.H
open Go.RowKit Moor Go.Proofs.YtiopafdndlodoaaW.PrintWords Go.Proofs.YtiopafdndlodoaaW.PrintLast Go.Proofs.YtiopafdndlodoaaW.PrintMore
set_option linter.unusedVariables false
set_option linter.unusedSimpArgs false

/-- The number at a place. -/
def numQ (r : Rq) (o : Nat) : Int := match o with
  | 1 => r.sub
  | 2 => r.addr
  | 3 => r.blk
  | 4 => r.n
  | 5 => r.q
  | 6 => r.i
  | _ => r.h
theorem numQ_cell (r : Rq) (o : Nat) (h : 1 ≤ o ∧ o ≤ 7) : (cellsQ r)[o]? = some (.int .i64 (numQ r o)) := by
  obtain ⟨h0, h1⟩ := h
  have : o = 1 ∨ o = 2 ∨ o = 3 ∨ o = 4 ∨ o = 5 ∨ o = 6 ∨ o = 7 := by omega
  rcases this with rfl | rfl | rfl | rfl | rfl | rfl | rfl <;> rfl
/-- Cells, some of them set. -/
def fillQ (g : Nat → Int) : Array Value → List Nat → Array Value
  | cs, [] => cs
  | cs, o :: l => fillQ g (cs.setIfInBounds o (.int .i64 (g o))) l
theorem fillQ_snoc (g : Nat → Int) : ∀ (l : List Nat) (cs : Array Value) (o : Nat), fillQ g cs (l ++ [o]) = (fillQ g cs l).setIfInBounds o (.int .i64 (g o))
  | [], cs, o => rfl
  | a :: l, cs, o => fillQ_snoc g l _ o
theorem fillQ_size (g : Nat → Int) : ∀ (l : List Nat) (cs : Array Value), (fillQ g cs l).size = cs.size
  | [], cs => rfl
  | o :: l, cs => by
    show (fillQ g (cs.setIfInBounds o _) l).size = _
    rw [fillQ_size g l, Array.size_setIfInBounds]
theorem QC.some {W : World} {B0 : Nat} {cs : Array Value} (h : QC W B0 cs) (j : Nat) (hj : j < cs.size) : ∃ v, W.cell? ⟨B0, j, none⟩ = some v := ⟨cs[j], (h.c j).trans (Array.getElem?_eq_getElem hj)⟩
theorem fill_plain (r : Rq) (hk : kindW r.kind) : fillQ (numQ r) (cellsQ ⟨r.kind, 0, 0, 0, 0, 0, 0, 0, false⟩) (offsW r.kind) = cellsQ { plainW r with pair := false } := by
  cases r with | mk k s a b n q i hh p =>
  unfold kindW at hk
  unfold offsW plainW
  simp only at *
  by_cases k0 : k = 0
  · subst k0; rfl
  · rw [if_neg k0, if_neg k0]
    by_cases k1 : k = 1 ∨ k = 2
    · rw [if_pos k1, if_pos k1]; rfl
    · rw [if_neg k1, if_neg k1]
      by_cases k2 : k = 3 ∨ k = 5 ∨ k = 7
      · rw [if_pos k2, if_pos k2]; rfl
      · rw [if_neg k2, if_neg k2]
        by_cases k3 : k = 4 ∨ k = 6
        · rw [if_pos k3, if_pos k3]; rfl
        · rw [if_neg k3, if_neg k3]
          by_cases k4 : k = 9
          · subst k4; rfl
          · rw [if_neg k4, if_neg k4]; rfl
theorem plainW_pair (r : Rq) (hk : kindW r.kind) : (plainW r).pair = if r.kind = 8 then r.pair else false := by
  unfold kindW at hk
  unfold plainW
  by_cases k8 : r.kind = 8
  · rw [if_pos k8, if_neg (by omega), if_neg (by omega), if_neg (by omega), if_neg (by omega), if_neg (by omega)]
  · rw [if_neg k8]
    repeat' split
    all_goals first
      | rfl
      | omega
theorem plainW_kind (r : Rq) : (plainW r).kind = r.kind := by
  unfold plainW
  repeat' split
  all_goals first
    | rfl
    | (simp only; omega)
theorem infoQ : (Try.prog.info? 25).map (·.size) = some 9 := by kernel_rfl
theorem results_Q {fn : Func} {p : Tmp} (h : fn.results = #[.cell p 25]) (tmps : Array Value) (w : World) (g : Nat) (cs : Array Value) (hs : cs.size = 9) (hp : tmps.getD p undef = .pointer (some ⟨g, 0, none⟩)) (hb : QC w g cs) :
    (results fn tmps).run Try.prog w = .ok (.agg cs) w := by
  have hl := run_loadVar_mid (P := Try.prog) w g 0 25 cs.toList _ (fun j v hj => by
    rw [Nat.zero_add, hb.c j]
    simpa using hj) Try.underlying25 rfl (by simpa [hs] using infoQ)
  have hp' : tmps[p]?.getD undef = .pointer (some ⟨g, 0, none⟩) := by simpa using hp
  simp [results, h, hp', asAddr, hl]
theorem cell_P {w : World} {B0 : Nat} {A : Option Addr} {l : List Nat} (h : Kd.C (kP B0) w A l.length l) (k : Nat) (hk : k < l.length) : ∃ ad, A = some ad ∧ w.cell? (ad.add k) = some (.pointer (some ⟨B0, l[k], none⟩)) := by
  have hr : ReadsOf (ptrQ B0) (0 : Nat) w A l.length l := Kd.reads_of_C h
  obtain ⟨ad, e, hc⟩ := hr.2.2 (by omega)
  refine ⟨ad, e, ?_⟩
  have := hc k hk
  simpa [ptrQ, List.getD_eq_getElem?_getD, List.getElem?_eq_getElem hk] using this
/-- Pointers in memory that changes only elsewhere. -/
theorem P_other {w w' : World} {B0 : Nat} {A : Option Addr} {l : List Nat} {row : Option Nat} (h : Kd.C (kP B0) w A l.length l) (hg : w.grownBy w' row) (hne : ∀ ad, A = some ad → some ad.block ≠ row) : Kd.C (kP B0) w' A l.length l := by
  refine ⟨h.1, h.2.1, fun hn => ?_⟩
  obtain ⟨ad, e, hc⟩ := h.2.2 hn
  refine ⟨ad, e, fun j q hj => ?_⟩
  obtain ⟨c, hs, hK, hcell⟩ := hc j q hj
  exact ⟨c, hs, hK, fun i u hu => hg.cell (hcell i u hu) (by rw [add_blockR]; exact hne ad e)⟩
abbrev S9 (W : World) (B0 : Nat) (v0 v1 v2 v3 v4 v5 v6 v7 v8 : Value) : World := ((((((((W.setCell ⟨B0, 0, none⟩ v0).setCell ⟨B0, 1, none⟩ v1).setCell ⟨B0, 2, none⟩ v2).setCell ⟨B0, 3, none⟩ v3).setCell ⟨B0, 4, none⟩ v4).setCell ⟨B0, 5, none⟩ v5).setCell ⟨B0, 6, none⟩ v6).setCell ⟨B0, 7, none⟩ v7).setCell ⟨B0, 8, none⟩ v8
set_option maxHeartbeats 2000000 in
theorem QC.set9 {W : World} {B0 : Nat} {cs : Array Value} (h : QC W B0 cs) (hs : cs.size = 9) (v0 v1 v2 v3 v4 v5 v6 v7 v8 : Value) : QC (S9 W B0 v0 v1 v2 v3 v4 v5 v6 v7 v8) B0 #[v0, v1, v2, v3, v4, v5, v6, v7, v8] := by
  obtain ⟨l⟩ := cs
  match l, hs with
  | [a0, a1, a2, a3, a4, a5, a6, a7, a8], _ =>
    have q0 := QC.set h 0 v0
    rw [show ((#[a0, a1, a2, a3, a4, a5, a6, a7, a8] : Array Value).setIfInBounds 0 v0) = #[v0, a1, a2, a3, a4, a5, a6, a7, a8] from rfl] at q0
    have q1 := QC.set q0 1 v1
    rw [show ((#[v0, a1, a2, a3, a4, a5, a6, a7, a8] : Array Value).setIfInBounds 1 v1) = #[v0, v1, a2, a3, a4, a5, a6, a7, a8] from rfl] at q1
    have q2 := QC.set q1 2 v2
    rw [show ((#[v0, v1, a2, a3, a4, a5, a6, a7, a8] : Array Value).setIfInBounds 2 v2) = #[v0, v1, v2, a3, a4, a5, a6, a7, a8] from rfl] at q2
    have q3 := QC.set q2 3 v3
    rw [show ((#[v0, v1, v2, a3, a4, a5, a6, a7, a8] : Array Value).setIfInBounds 3 v3) = #[v0, v1, v2, v3, a4, a5, a6, a7, a8] from rfl] at q3
    have q4 := QC.set q3 4 v4
    rw [show ((#[v0, v1, v2, v3, a4, a5, a6, a7, a8] : Array Value).setIfInBounds 4 v4) = #[v0, v1, v2, v3, v4, a5, a6, a7, a8] from rfl] at q4
    have q5 := QC.set q4 5 v5
    rw [show ((#[v0, v1, v2, v3, v4, a5, a6, a7, a8] : Array Value).setIfInBounds 5 v5) = #[v0, v1, v2, v3, v4, v5, a6, a7, a8] from rfl] at q5
    have q6 := QC.set q5 6 v6
    rw [show ((#[v0, v1, v2, v3, v4, v5, a6, a7, a8] : Array Value).setIfInBounds 6 v6) = #[v0, v1, v2, v3, v4, v5, v6, a7, a8] from rfl] at q6
    have q7 := QC.set q6 7 v7
    rw [show ((#[v0, v1, v2, v3, v4, v5, v6, a7, a8] : Array Value).setIfInBounds 7 v7) = #[v0, v1, v2, v3, v4, v5, v6, v7, a8] from rfl] at q7
    have q8 := QC.set q7 8 v8
    rw [show ((#[v0, v1, v2, v3, v4, v5, v6, v7, a8] : Array Value).setIfInBounds 8 v8) = #[v0, v1, v2, v3, v4, v5, v6, v7, v8] from rfl] at q8
    exact q8
theorem S9_below {w W : World} {B B0 : Nat} (h : Below B w W) (hb : B ≤ B0) (v0 v1 v2 v3 v4 v5 v6 v7 v8 : Value) : Below B w (S9 W B0 v0 v1 v2 v3 v4 v5 v6 v7 v8) :=
  ((((((((h.setCell hb _).setCell hb _).setCell hb _).setCell hb _).setCell hb _).setCell hb _).setCell hb _).setCell hb _).setCell hb _
abbrev zQ : Array Value := cellsQ r0
theorem offs_get {k : Int} (j : Nat) (h : j < (offsW k).length) : 1 ≤ (offsW k)[j] ∧ (offsW k)[j] ≤ 7 := offsW_range k _ (List.getElem_mem h)
theorem take_snocN (l : List Nat) (k : Nat) (h : k < l.length) : l.take (k + 1) = l.take k ++ [l[k]] := by
  rw [List.take_succ_eq_append_getElem h]
set_option maxRecDepth 100000 in
set_option maxHeartbeats 8000000 in
theorem plain_calls (r : Rq) (hk : kindW r.kind) (w : World) :
    Calls Try.prog 23 #[.agg (cellsQ r)] w fun e w' => e = .returned (.agg (cellsQ (plainW r))) ∧ Below w.heap.size w w' := by
  go_enter Try.func23, Try.ntmps23
  go_wp2_with (fail)
  have q1 : QC (((w.alloc (.cells (cellsQ r) 25)).alloc (.cells zQ 25)).alloc (.cells (cellsQ ⟨r.kind, 0, 0, 0, 0, 0, 0, 0, false⟩) 25)) w.heap.size (cellsQ r) := ((QC.new w _).alloc _).alloc _
  have q2 : QC (((w.alloc (.cells (cellsQ r) 25)).alloc (.cells zQ 25)).alloc (.cells (cellsQ ⟨r.kind, 0, 0, 0, 0, 0, 0, 0, false⟩) 25)) (w.heap.size + 1) zQ := by
    have h := (QC.new (w.alloc (.cells (cellsQ r) 25)) zQ).alloc (.cells (cellsQ ⟨r.kind, 0, 0, 0, 0, 0, 0, 0, false⟩) 25)
    rw [World.size_alloc] at h
    exact h
  have q3 : QC (((w.alloc (.cells (cellsQ r) 25)).alloc (.cells zQ 25)).alloc (.cells (cellsQ ⟨r.kind, 0, 0, 0, 0, 0, 0, 0, false⟩) 25)) (w.heap.size + 1 + 1) (cellsQ ⟨r.kind, 0, 0, 0, 0, 0, 0, 0, false⟩) := by
    have h := QC.new ((w.alloc (.cells (cellsQ r) 25)).alloc (.cells zQ 25)) (cellsQ ⟨r.kind, 0, 0, 0, 0, 0, 0, 0, false⟩)
    rw [World.size_alloc, World.size_alloc] at h
    exact h
  have hb : Below w.heap.size w (((w.alloc (.cells (cellsQ r) 25)).alloc (.cells zQ 25)).alloc (.cells (cellsQ ⟨r.kind, 0, 0, 0, 0, 0, 0, 0, false⟩) 25)) := below_alloc (below_alloc (below_alloc (Below.refl _ _) _) _) _
  have q := fields_calls w.heap.size r hk (cellsQ r) rfl _ q1
  refine q.mono ?_
  clear q
  rintro e w1 ⟨A1, c1, rfl, hc1, hC1, hn1, hb1⟩
  have Q1 := Lib.hid (q1.below hb1)
  have Q2 := Lib.hid (q2.below hb1)
  have Q3 := Lib.hid (q3.below hb1)
  have HN1 := Lib.hid (show ∀ ad, A1 = some ad → w.heap.size + 3 ≤ ad.block from fun ad e => by have := hn1 ad e; simp only [World.size_alloc] at this; exact this)
  have HB1 := Lib.hid (hb.trans (hb1.mono hb.size))
  have HC1 := Lib.hid hC1
  clear q1 q2 q3 hn1 hb hb1 hC1
  go_wp2_with (fail)
  have q := fields_calls (w.heap.size + 1 + 1) ⟨r.kind, 0, 0, 0, 0, 0, 0, 0, false⟩ hk (cellsQ ⟨r.kind, 0, 0, 0, 0, 0, 0, 0, false⟩) rfl _ Q3.out
  refine q.mono ?_
  clear q
  rintro e w2 ⟨A2, c2, rfl, hc2, hC2, hn2, hb2⟩
  have R1 := Lib.hid (Q1.out.below hb2)
  have R2 := Lib.hid (Q2.out.below hb2)
  have R3 := Lib.hid (Q3.out.below hb2)
  have HN2 := Lib.hid (show ∀ ad, A2 = some ad → w.heap.size + 3 ≤ ad.block from fun ad e => by have := hn2 ad e; have := Q3.out.lt; omega)
  have HB2 := Lib.hid (HB1.out.trans (hb2.mono HB1.out.size))
  have HC2 := Lib.hid hC2
  have HD1 := Lib.hid (Kd.C_below HC1.out hb2)
  clear Q1 Q2 Q3 hn2 hb2 hC2 HC1 HB1
  have HFP := Lib.hid (fill_plain r hk)
  have HPP := Lib.hid (plainW_pair r hk)
  have HOR := Lib.hid (fun j h => offs_get (k := r.kind) j h)
  have HL3 := Lib.hid (offsW_len r.kind)
  clear hk
  dsimp only at *
  generalize offsW r.kind = l at *
  go_wp2_with (fail)
  go_loopw [13] (fun i wr => ∃ k : Nat, k ≤ l.length ∧ i = .int .i64 (k : Int) ∧ Hid (QC wr w.heap.size (cellsQ r)) ∧ Hid (QC wr (w.heap.size + 1) zQ) ∧ Hid (QC wr (w.heap.size + 1 + 1) (fillQ (numQ r) (cellsQ ⟨r.kind, 0, 0, 0, 0, 0, 0, 0, false⟩) (l.take k))) ∧ Hid (Kd.C (kP w.heap.size) wr A1 l.length l) ∧ Hid (Kd.C (kP (w.heap.size + 1 + 1)) wr A2 l.length l) ∧ Hid (Below w.heap.size w wr)) (fun i _ => l.length - (intOf i).toNat)
  case atStart => exact ⟨0, Nat.zero_le _, rfl, R1, R2, R3, HD1, HC2, HB2⟩
  case round =>
    obtain ⟨k, hkl, rfl, P1, P2, P3, E1, E2, HB⟩ := hrel
    by_cases hlt : k < l.length
    · obtain ⟨ad1, rfl, y1⟩ := cell_P E1.out k hlt
      obtain ⟨ad2, rfl, y2⟩ := cell_P E2.out k hlt
      have ho := HOR.out k hlt
      have y3 := (P1.out.c l[k]).trans (numQ_cell r _ ho)
      have y4 := P3.out.f l[k]
      obtain ⟨v5, y5⟩ := P3.out.some l[k] (by rw [fillQ_size]; show _ < 9; omega)
      have hlti : (k : Int) < (l.length : Int) := by omega
      have hl9 : l.length ≤ 3 := HL3.out.2
      have HTS := Lib.hid (take_snocN l k hlt)
      generalize hoo : l[k] = oo at *
      clear hoo ho
      go_wp2_with (fail)
      go_roundw
      case rel =>
        have g := Lib.grownBy_setCell wr (w.heap.size + 1 + 1) oo (.int .i64 (numQ r oo))
        refine ⟨k + 1, by omega, by go_num, Lib.hid (P1.out.other (by omega) _ _), Lib.hid (P2.out.other (by omega) _ _), Lib.hid ?_, Lib.hid (P_other E1.out g (fun ad e e2 => by have := HN1.out ad e; have := Option.some.inj e2; omega)), Lib.hid (P_other E2.out g (fun ad e e2 => by have := HN2.out ad e; have := Option.some.inj e2; omega)), Lib.hid (HB.out.setCell (by show w.heap.size ≤ w.heap.size + 1 + 1; omega) _)⟩
        rw [HTS.out, fillQ_snoc]
        exact P3.out.set _ _
      case measure => simp [intOf]; omega
    · have hlti : ¬ (k : Int) < (l.length : Int) := by omega
      have hke : k = l.length := by omega
      have P4 : Hid (QC wr (w.heap.size + 1 + 1) (cellsQ { plainW r with pair := false })) := Lib.hid (by
        rw [← HFP.out]
        have q := P3.out
        rw [hke, List.take_length] at q
        exact q)
      obtain ⟨x0, x1, x2, x3, x4, x5, x6, x7, x8⟩ := P1.out.nine
      obtain ⟨z0, z1, z2, z3, z4, z5, z6, z7, z8⟩ := P2.out.nine
      have F2 : ∀ o, wr.frozen? ⟨w.heap.size + 1, o, none⟩ = false := fun o => P2.out.f o
      have fa := F2 0
      have fb := F2 1
      have fc := F2 2
      have fd := F2 3
      have fe := F2 4
      have ff := F2 5
      have fg := F2 6
      have fh := F2 7
      have fi := F2 8
      have f38 := P4.out.f 8
      have HFIN := Lib.hid (show ∀ W, QC W (w.heap.size + 1) (cellsQ (plainW r)) → (results Try.f23 #[]).run Try.prog W = (results Try.f23 #[]).run Try.prog W from fun W h => rfl)
      clear P3 hke F2 HFIN
      by_cases k8 : r.kind = 8
      · have k8b : (r.kind == 8) = true := by simpa using k8
        have hpr : (plainW r).pair = r.pair := by rw [HPP.out, if_pos k8]
        have HPR := Lib.hid hpr
        clear k8 hpr
        obtain ⟨y0, y1, y2, y3, y4, y5, y6, y7, y8⟩ := P4.out.nine
        dsimp only at y0 y1 y2 y3 y4 y5 y6 y7 y8
        clear x1 x2 x3 x4 x5 x6 x7
        go_wp2_with (fail)
        refine bodyPost_ret (results_Q (p := 2) rfl _ _ (w.heap.size + 1) (cellsQ (plainW r)) rfl rfl ?_) rfl ?_
        · have z := (P2.out.other (B1 := w.heap.size + 1 + 1) (by omega) 8 (.bool r.pair)).set9 rfl (.int .i64 (plainW r).kind) (.int .i64 (plainW r).sub) (.int .i64 (plainW r).addr) (.int .i64 (plainW r).blk) (.int .i64 (plainW r).n) (.int .i64 (plainW r).q) (.int .i64 (plainW r).i) (.int .i64 (plainW r).h) (.bool r.pair)
          rw [show cellsQ (plainW r) = #[.int .i64 (plainW r).kind, .int .i64 (plainW r).sub, .int .i64 (plainW r).addr, .int .i64 (plainW r).blk, .int .i64 (plainW r).n, .int .i64 (plainW r).q, .int .i64 (plainW r).i, .int .i64 (plainW r).h, .bool r.pair] by rw [← HPR.out]]
          exact z
        · exact ⟨rfl, S9_below (HB.out.setCell (by show w.heap.size ≤ w.heap.size + 1 + 1; omega) _) (by omega) _ _ _ _ _ _ _ _ _⟩
      · have k8b : (r.kind == 8) = false := by simpa using k8
        have hpr : (plainW r).pair = false := by rw [HPP.out, if_neg k8]
        have HPR := Lib.hid hpr
        clear k8 hpr
        obtain ⟨y0, y1, y2, y3, y4, y5, y6, y7, y8⟩ := P4.out.nine
        dsimp only at y0 y1 y2 y3 y4 y5 y6 y7 y8
        clear x1 x2 x3 x4 x5 x6 x7 x8
        go_wp2_with (fail)
        refine bodyPost_ret (results_Q (p := 2) rfl _ _ (w.heap.size + 1) (cellsQ (plainW r)) rfl rfl ?_) rfl ?_
        · have z := P2.out.set9 rfl (.int .i64 (plainW r).kind) (.int .i64 (plainW r).sub) (.int .i64 (plainW r).addr) (.int .i64 (plainW r).blk) (.int .i64 (plainW r).n) (.int .i64 (plainW r).q) (.int .i64 (plainW r).i) (.int .i64 (plainW r).h) (.bool false)
          rw [show cellsQ (plainW r) = #[.int .i64 (plainW r).kind, .int .i64 (plainW r).sub, .int .i64 (plainW r).addr, .int .i64 (plainW r).blk, .int .i64 (plainW r).n, .int .i64 (plainW r).q, .int .i64 (plainW r).i, .int .i64 (plainW r).h, .bool false] by rw [← HPR.out]]
          exact z
        · exact ⟨rfl, S9_below HB.out (by omega) _ _ _ _ _ _ _ _ _⟩
end Go.Proofs.Ytiopafdndlodoaa.H

/-! Layer 19: the bytes of a kind, and numbers; the kind, and the numbers, of bytes. -/
namespace Go.Proofs.Ytiopafdndlodoaa.H
open Go.RowKit Moor Go.Proofs.YtiopafdndlodoaaW.PrintWords Go.Proofs.YtiopafdndlodoaaW.PrintLast Go.Proofs.YtiopafdndlodoaaW.PrintMore
set_option linter.unusedVariables false
set_option linter.unusedSimpArgs false

theorem vall_calls (A : Option Addr) (c : Nat) (l : List Int) (w : World) (hR : Kd.C (Kd.int .i64) w A l.length l) (hc : l.length ≤ c) :
    Calls Try.prog 37 #[.slice A l.length c] w (PutEnd (vAll l) w) := by
  refine (B.vari_All.calls 420 A c l _ _ w hR hc (vAll_tells l 420 (Nat.le_refl _))).mono ?_
  rintro e w' ⟨v, rfl, hv, hb⟩
  obtain ⟨A', c', rfl, hc', hC'⟩ := Kd.R_reads hv
  exact ⟨A', c', rfl, hc', hC', hb⟩
/-- A slice of numbers and a word. -/
def NumW (r : List Int × Bool) (w : World) (e : Ending) (w' : World) : Prop := ∃ (A' : Option Addr) (c' : Nat), e = .returned (.tuple #[.slice A' r.1.length c', .bool r.2]) ∧ r.1.length ≤ c' ∧ Kd.C (Kd.int .i64) w' A' r.1.length r.1 ∧ (∀ ad, A' = some ad → w.heap.size ≤ ad.block) ∧ Below w.heap.size w w'
theorem vread_calls (A0 : Option Addr) (c0 : Nat) (l : List Int) (w : World) (hr : Kd.C (Kd.int .u8) w A0 l.length l) (hc : l.length ≤ c0) (ho : okB l) (hl : l.length ≤ 140737488355328) :
    Calls Try.prog 41 #[.slice A0 l.length c0] w (NumW (vRead l) w) := by
  refine (callsIn_wide.1 (read_in 6 (Nat.le_refl _) A0 c0 l ho hc hl w hr)).mono ?_
  rintro e w' ⟨v, rfl, hv, hb⟩
  have hr := Kd.R_of_own (ok := fun _ => True) (h1 := fun _ => rfl) hv (fun _ _ => trivial)
  have hbd := Kd.R_bound hr
  obtain ⟨A', c', rfl, hc', hC'⟩ := Kd.R_reads hr
  exact ⟨A', c', rfl, hc', hC', fun ad e => (hbd.1 ad.block (by rw [e]; rfl)).2.1, hb⟩
theorem PutEnd.no {w W : World} (h : Below w.heap.size w W) : PutEnd ([], false) w (.returned (.tuple #[.slice none 0 0, .bool false])) W := ⟨none, 0, rfl, Nat.le_refl _, Kd.C_nil _ _, h⟩
theorem PutEnd.lower {r : List Int × Bool} {w w1 W : World} {e : Ending} (h : PutEnd r w1 e W) (hb : Below w.heap.size w w1) : PutEnd r w e W := by
  obtain ⟨A, c, h1, h2, h3, h4⟩ := h
  exact ⟨A, c, h1, h2, h3, hb.trans (h4.mono hb.size)⟩
/-- A slice of bytes of the call's own and a word. -/
def PutEndR (r : List Int × Bool) (w : World) (e : Ending) (w' : World) : Prop := ∃ v : Value, e = .returned (.tuple #[v, .bool r.2]) ∧ Kd.R (Kd.int .u8) 5 w' w.heap.size (fun _ => True) v r.1 ∧ Below w.heap.size w w'
theorem PutEndR.to {r : List Int × Bool} {w w' : World} {e : Ending} (h : PutEndR r w e w') : PutEnd r w e w' := by
  obtain ⟨v, rfl, hr, hb⟩ := h
  obtain ⟨A, c, rfl, hc, hC⟩ := Kd.R_reads hr
  exact ⟨A, c, rfl, hc, hC, hb⟩
theorem PutEndR.no {w W : World} (h : Below w.heap.size w W) : PutEndR ([], false) w (.returned (.tuple #[.slice none 0 0, .bool false])) W := ⟨_, rfl, Kd.R_nil _ _ _ _ _, h⟩
theorem PutEndR.lower {r : List Int × Bool} {w w1 W : World} {e : Ending} (h : PutEndR r w1 e W) (hb : Below w.heap.size w w1) : PutEndR r w e W := by
  obtain ⟨v, h1, h2, h3⟩ := h
  exact ⟨v, h1, Kd.R_lower h2 hb.size, hb.trans (h3.mono hb.size)⟩
theorem rputR_calls (r : Rc) (A : Option Addr) (c : Nat) (w : World) (hR : Kd.C (Kd.int .u8) w A r.body.length r.body) (hc : r.body.length ≤ c) (ho : okB r.body) :
    Calls Try.prog 38 #[.agg #[.int .i64 r.kind, .slice A r.body.length c]] w (PutEndR (rPut r) w) := by
  by_cases hm : recMay r
  · rw [rPut_pos hm]
    exact recPut_calls r.kind A c r.body w hR hc ho hm
  · rw [rPut_neg hm]
    refine (recPut_no r.kind A c r.body w hm).mono ?_
    rintro e w' ⟨rfl, hb⟩
    exact PutEndR.no hb
set_option maxRecDepth 100000 in
set_option maxHeartbeats 4000000 in
theorem wputR_calls (k : Int) (A : Option Addr) (c : Nat) (l : List Int) (w : World) (hR : Kd.C (Kd.int .i64) w A l.length l) (hc : l.length ≤ c) :
    Calls Try.prog 25 #[.int .i64 k, .slice A l.length c] w (PutEndR (putW k l) w) := by
  have HR := Lib.hid hR
  have HV := Lib.hid (vAll_ok l)
  have HP := Lib.hid (show putW k l = if (vAll l).2 = true then rPut ⟨k, (vAll l).1⟩ else ([], false) from rfl)
  clear hR
  generalize putW k l = res at *
  go_enter Try.func25, Try.ntmps25
  go_wp2_with (fail)
  refine (vall_calls A c l w HR.out hc).mono ?_
  rintro e w1 ⟨A1, c1, rfl, hc1, hC1, hb1⟩
  have HB1 := Lib.hid hb1
  have HC1 := Lib.hid hC1
  clear hb1 hC1
  obtain ⟨V, hV⟩ : ∃ V, vAll l = V := ⟨_, rfl⟩
  rw [hV] at HV HP HC1 hc1 ⊢
  clear hV
  obtain ⟨body, is_⟩ := V
  dsimp only at *
  cases is_ with
  | false =>
    have HZ := Lib.hid (HP.out.trans (if_neg (by decide)))
    clear HP
    go_wp2_with (fail)
    rw [HZ.out]
    exact bodyPost_ret (results_tmp2 (fn := Try.f25) (t := 4) (u := 5) rfl _ _ _) rfl (PutEndR.no HB1.out)
  | true =>
    have HZ := Lib.hid (HP.out.trans (if_pos rfl))
    clear HP
    go_wp2_with (fail)
    refine (rputR_calls ⟨k, body⟩ A1 c1 w1 HC1.out hc1 HV.out.1).mono ?_
    rintro e w2 ⟨v2, rfl, hr2, hb2⟩
    have HE := Lib.hid (show PutEndR res w (.returned (.tuple #[v2, .bool res.2])) w2 from ⟨v2, rfl, by rw [HZ.out]; exact Kd.R_lower hr2 HB1.out.size, HB1.out.trans (hb2.mono HB1.out.size)⟩)
    rw [← HZ.out]
    clear hb2 hr2
    go_wp2_with (fail)
    exact bodyPost_ret (results_tmp2 (fn := Try.f25) (t := 4) (u := 5) rfl _ _ _) rfl HE.out
theorem wput_calls (k : Int) (A : Option Addr) (c : Nat) (l : List Int) (w : World) (hR : Kd.C (Kd.int .i64) w A l.length l) (hc : l.length ≤ c) :
    Calls Try.prog 25 #[.int .i64 k, .slice A l.length c] w (PutEnd (putW k l) w) := (wputR_calls k A c l w hR hc).mono fun _ _ h => h.to
theorem rGet_okW {b : List Int} (ho : okB b) (a : Int) : okB (rGet b a).1.body := by
  rcases rGet_cases b ho a with ⟨-, -, h3, k, -, -, -, h⟩ | ⟨-, h, -⟩
  · have h1 : okB (recBytes (rGet b a).1) := by
      rw [h]
      exact okB_take (okB_drop ho _) _
    rw [recBytes_eq] at h1
    intro x hx
    exact h1 x (by simp [hx])
  · rw [h]
    intro x hx
    cases hx
theorem rGet_lenW {b : List Int} (ho : okB b) (a : Int) : (rGet b a).1.body.length ≤ 1000 := by
  rcases rGet_cases b ho a with ⟨-, -, h3, -⟩ | ⟨-, h, -⟩
  · exact h3.2.2
  · rw [h]; simp
/-- A kind, numbers, and why not. -/
def GetWEnd (r : Int × List Int × Int) (w : World) (e : Ending) (w' : World) : Prop := ∃ (A' : Option Addr) (c' : Nat), e = .returned (.tuple #[.int .i64 r.1, .slice A' r.2.1.length c', .int .i64 r.2.2]) ∧ r.2.1.length ≤ c' ∧ Kd.C (Kd.int .i64) w' A' r.2.1.length r.2.1 ∧ (∀ ad, A' = some ad → w.heap.size ≤ ad.block) ∧ Below w.heap.size w w'
theorem GetWEnd.no {w W : World} (e : Int) (h : Below w.heap.size w W) : GetWEnd (-1, [], e) w (.returned (.tuple #[.int .i64 (-1), .slice none 0 0, .int .i64 e])) W := ⟨none, 0, rfl, Nat.le_refl _, Kd.C_nil _ _, fun _ e => (by cases e), h⟩
set_option maxRecDepth 100000 in
set_option maxHeartbeats 4000000 in
theorem wget_calls (A : Option Addr) (c : Nat) (b : List Int) (w : World) (hR : Kd.C (Kd.int .u8) w A b.length b) (hc : b.length ≤ c) (ho : okB b) (hl : b.length ≤ 140737488355328) :
    Calls Try.prog 30 #[.slice A b.length c] w (GetWEnd (getW b) w) := by
  have HR := Lib.hid hR
  have HP := Lib.hid (show getW b = if (rGet b 0).2.2 ≠ 0 then (-1, [], (rGet b 0).2.2) else if (vRead (rGet b 0).1.body).2 = false ∨ (rGet b 0).2.1 ≠ b.length then (-1, [], 2) else ((rGet b 0).1.kind, (vRead (rGet b 0).1.body).1, 0) from rfl)
  have HOK := Lib.hid (rGet_okW ho 0)
  have HLN := Lib.hid (rGet_lenW ho 0)
  clear hR
  generalize getW b = res at *
  go_enter Try.func30, Try.ntmps30
  go_wp2_with (fail)
  refine (recGet_calls A c b 0 w HR.out hc ho hl).mono ?_
  rintro e w1 ⟨A1, c1, rfl, hc1, hC1, hb1, -⟩
  generalize rGet b 0 = g at *
  obtain ⟨⟨kind, body⟩, end_, er⟩ := g
  dsimp only at *
  have HB1 := Lib.hid hb1
  have HC1 := Lib.hid hC1
  clear hb1 hC1
  by_cases he : er = 0
  · subst he
    have HZ := Lib.hid (HP.out.trans (if_neg (by simp)))
    clear HP
    go_wp2_with (fail)
    have hB2 := Lib.hid (below_alloc HB1.out (.cells #[.int .i64 kind, .slice A1 body.length c1] 64))
    refine (vread_calls A1 c1 body _ (Kd.C_alloc HC1.out _) hc1 HOK.out (by have := HLN.out; omega)).mono ?_
    rintro e w2 ⟨A2, c2, rfl, hc2, hC2, hn2, hb2⟩
    have HN2 := Lib.hid (show ∀ ad, A2 = some ad → w.heap.size ≤ ad.block from fun ad e => by have := hn2 ad e; have h2 := HB1.out.size; rw [World.size_alloc] at this; omega)
    clear hn2
    have HC2 := Lib.hid hC2
    have HB2 := Lib.hid (hB2.out.trans (hb2.mono hB2.out.size))
    have x0 := ((BoxR.new w1 (.int .i64 kind) (.slice A1 body.length c1)).below hb2).c0
    have x1 := ((BoxR.new w1 (.int .i64 kind) (.slice A1 body.length c1)).below hb2).c1
    clear hC2 hb2
    obtain ⟨V, hV⟩ : ∃ V, vRead body = V := ⟨_, rfl⟩
    rw [hV] at HZ HC2 hc2 ⊢
    clear hV
    obtain ⟨l, is_⟩ := V
    dsimp only at *
    cases is_ with
    | false =>
      have HY := Lib.hid (HZ.out.trans (if_pos (.inl rfl)))
      clear HZ
      go_wp2_with (fail)
      go_ret3
      rw [HY.out]
      exact GetWEnd.no _ HB2.out
    | true =>
      by_cases hn : end_ = (b.length : Int)
      · have HY := Lib.hid (HZ.out.trans (if_neg (by rintro (h | h); exact absurd h (by decide); exact h hn)))
        have hnb : (end_ != (b.length : Int)) = false := by simpa using hn
        clear HZ hn
        go_wp2_with (fail)
        go_ret3
        rw [HY.out]
        exact ⟨A2, c2, rfl, hc2, HC2.out, HN2.out, HB2.out⟩
      · have HY := Lib.hid (HZ.out.trans (if_pos (.inr hn)))
        have hnb : (end_ != (b.length : Int)) = true := by simpa using hn
        clear HZ hn
        go_wp2_with (fail)
        go_ret3
        rw [HY.out]
        exact GetWEnd.no _ HB2.out
  · have HZ := Lib.hid (HP.out.trans (if_pos he))
    have heb : (er != 0) = true := by simpa using he
    clear HP he
    go_wp2_with (fail)
    have hB2 := Lib.hid (below_alloc HB1.out (.cells #[.int .i64 kind, .slice A1 body.length c1] 64))
    go_ret3
    rw [HZ.out]
    exact GetWEnd.no _ hB2.out
/-! ### answers -/
abbrev cellsA (a : Aw) : Array Value := #[.int .i64 a.e, .int .i64 a.a, .int .i64 a.b]
theorem errs_tells (e : Int) : B.wire_errs.f e = some (decide (errW e)) := by
  unfold B.wire_errs.f errW
  by_cases h : e ≥ 0
  · rw [if_pos h]; congr 1; exact decide_eq_decide.2 ⟨fun g => ⟨h, g⟩, fun g => g.2⟩
  · rw [if_neg h]; congr 1; exact (decide_eq_false (fun g => h g.1)).symm
theorem kind_tells (e : Int) : B.wire_kind.f e = some (decide (kindW e)) := by
  unfold B.wire_kind.f kindW
  by_cases h : e ≥ 0
  · rw [if_pos h]; congr 1; exact decide_eq_decide.2 ⟨fun g => ⟨h, g⟩, fun g => g.2⟩
  · rw [if_neg h]; congr 1; exact (decide_eq_false (fun g => h g.1)).symm
theorem errs_calls (e : Int) (b : Bool) (hb : decide (errW e) = b) (w : World) : Calls Try.prog 33 #[.int .i64 e] w fun x w' => x = .returned (.bool b) ∧ Below w.heap.size w w' :=
  (B.wire_errs.calls e b w (by rw [errs_tells, hb])).mono fun _ _ h => ⟨h.1, h.2.below⟩
theorem kind_calls (e : Int) (b : Bool) (hb : decide (kindW e) = b) (w : World) : Calls Try.prog 22 #[.int .i64 e] w fun x w' => x = .returned (.bool b) ∧ Below w.heap.size w w' :=
  (B.wire_kind.calls e b w (by rw [kind_tells, hb])).mono fun _ _ h => ⟨h.1, h.2.below⟩
theorem lit_two (W : World) (t : TypeId) (x y : Int) : Kd.C (Kd.int .i64) (W.alloc (.cells #[.int .i64 x, .int .i64 y] t)) (some ⟨W.heap.size, 0, none⟩) ([x, y] : List Int).length [x, y] := by
  refine Kd.C_of_reads (d := (0 : Int)) ⟨rfl, by simp, fun _ => ⟨_, rfl, fun j hj => ?_⟩⟩
  rw [add_plain, blk_cell (heap_alloc_new W _)]
  match j, hj with
  | 0, _ => rfl
  | 1, _ => rfl
theorem lit_i64 (W : World) (t : TypeId) (x : Int) : Kd.C (Kd.int .i64) (W.alloc (.cells #[.int .i64 x] t)) (some ⟨W.heap.size, 0, none⟩) ([x] : List Int).length [x] := by
  refine Kd.C_of_reads (d := (0 : Int)) ⟨rfl, by simp, fun _ => ⟨_, rfl, fun j hj => ?_⟩⟩
  rw [add_plain, blk_cell (heap_alloc_new W _)]
  match j, hj with
  | 0, _ => rfl
def AC (W : World) (B0 : Nat) (a : Aw) : Prop := W.heap[B0]? = some (.cells (cellsA a) 28 (0, 0))
theorem AC.new (W : World) (a : Aw) : AC (W.alloc (.cells (cellsA a) 28)) W.heap.size a := heap_alloc_new W _
theorem AC.below {W W' : World} {B0 : Nat} {a : Aw} (h : AC W B0 a) (hb : Below W.heap.size W W') : AC W' B0 a := (hb.block B0 (blk_lt h)).trans h
theorem AC.three {W : World} {B0 : Nat} {a : Aw} (h : AC W B0 a) : W.cell? ⟨B0, 0, none⟩ = some (.int .i64 a.e) ∧ W.cell? ⟨B0, 1, none⟩ = some (.int .i64 a.a) ∧ W.cell? ⟨B0, 2, none⟩ = some (.int .i64 a.b) :=
  ⟨(blk_cell h 0).trans rfl, (blk_cell h 1).trans rfl, (blk_cell h 2).trans rfl⟩
theorem AC.f {W : World} {B0 : Nat} {a : Aw} (h : AC W B0 a) (o : Nat) : W.frozen? ⟨B0, o, none⟩ = false := blk_frozen h o
end Go.Proofs.Ytiopafdndlodoaa.H

/-! Layer 19: answers told, and heard; what comes one behind the other, split. -/
namespace Go.Proofs.Ytiopafdndlodoaa.H
open Go.RowKit Moor Go.Proofs.YtiopafdndlodoaaW.PrintWords Go.Proofs.YtiopafdndlodoaaW.PrintLast Go.Proofs.YtiopafdndlodoaaW.PrintMore
set_option linter.unusedVariables false
set_option linter.unusedSimpArgs false

theorem array2 (B0 : Nat) (W : World) : (Instr.sliceAt 71 (.pointer (some ⟨B0, 0, none⟩)) none none none).run Try.prog W = .ok (.slice (some ⟨B0, 0, none⟩) 2 2) W := by
  have hl : Try.prog.arrayLen 71 = 2 := by kernel_rfl
  have he : Try.prog.elem 71 = 3 := by kernel_rfl
  have hu : Try.prog.underlying 71 = some (.array (Try.prog.arrayLen 71) (Try.prog.elem 71)) := by kernel_rfl
  obtain ⟨i0, hi, hz0, hz1, hz2⟩ := info_parts (show (Try.prog.info? 3).map (fun i => (i.zero, i.size, i.bytes)) = some (some (.int .i64 0), 1, 8) by kernel_rfl)
  rw [run_sliceAt_array_all W 71 _ hu, hl, he]
  simp [sizeOf, typeInfo, hi, slicedAt, Result.andThen, Addr.add]
set_option maxRecDepth 100000 in
set_option maxHeartbeats 4000000 in
theorem wtell_calls (a : Aw) (w : World) :
    Calls Try.prog 15 #[.agg (cellsA a)] w (PutEnd (wTell a) w) := by
  have HP := Lib.hid (show wTell a = if errW a.e then putW a.e [a.a, a.b] else ([], false) from rfl)
  generalize wTell a = res at *
  go_enter Try.func15, Try.ntmps15
  go_wp2_with (fail)
  have hA := AC.new w a
  have hb := below_alloc (Below.refl w.heap.size w) (.cells (cellsA a) 28)
  by_cases he : errW a.e
  · refine (errs_calls a.e true (decide_eq_true he) _).mono ?_
    rintro e w1 ⟨rfl, hb1⟩
    have HA := Lib.hid (hA.below hb1)
    have HB1 := Lib.hid (hb.trans (hb1.mono hb.size))
    have HZ := Lib.hid (HP.out.trans (if_pos he))
    clear hA hb hb1 HP he
    obtain ⟨x0, x1, x2⟩ := HA.out.three
    have hsl := array2 w1.heap.size
    go_wp2_with (fail)
    have HL := Lib.hid (lit_two w1 71 a.a a.b)
    have HA2 := Lib.hid (HA.out.below (below_alloc (Below.refl _ w1) (.cells #[.int .i64 a.a, .int .i64 a.b] 71)))
    have HB2 := Lib.hid (below_alloc HB1.out (.cells #[.int .i64 a.a, .int .i64 a.b] 71))
    generalize hww : w1.alloc (.cells #[.int .i64 a.a, .int .i64 a.b] 71) = w2 at *
    clear x0 x1 x2 hww
    have HSS := Lib.hid (show ∀ W, Below w2.heap.size w2 W → W.cell? ⟨w.heap.size, 0, none⟩ = some (.int .i64 a.e) from fun W h => (HA2.out.below h).three.1)
    have D0 := Lib.hid ((Below.refl w2.heap.size w2).drew)
    go_region_held3 (fun W => W.cell? ⟨w.heap.size, 0, none⟩ = some (.int .i64 a.e)) (first | (with_reducible exact HSS.out _ D0.out) | (with_reducible exact HSS.out _ D1.out))
      ((go_at_call 25; refine (wput_calls a.e (some ⟨w1.heap.size, 0, none⟩) 2 [a.a, a.b] _ (Kd.C_below HL.out D0.out) (Nat.le_refl _)).mono ?_; rintro e w3 ⟨A3, c3, rfl, hc3, hC3, hb3⟩; have D1 := Lib.hid (D0.out.trans (hb3.mono D0.out.size)); have HC3 := Lib.hid hC3; clear hC3 hb3))
    have HE := Lib.hid (show PutEnd res w (.returned (.tuple #[.slice A3 res.1.length c3, .bool res.2])) w3 from ⟨A3, c3, rfl, by rw [HZ.out]; exact hc3, by rw [HZ.out]; exact HC3.out, HB2.out.trans (D1.out.mono HB2.out.size)⟩)
    rw [← HZ.out] at hc3 HC3 ⊢
    clear HSS D0 D1 hc3
    go_wp2_with (fail)
    exact bodyPost_ret (results_tmp2 (fn := Try.f15) (t := 2) (u := 3) rfl _ _ _) rfl HE.out
  · refine (errs_calls a.e false (decide_eq_false he) _).mono ?_
    rintro e w1 ⟨rfl, hb1⟩
    have HB1 := Lib.hid (hb.trans (hb1.mono hb.size))
    have HZ := Lib.hid (HP.out.trans (if_neg he))
    clear hA hb hb1 HP he
    go_wp2_with (fail)
    rw [HZ.out]
    exact bodyPost_ret (results_tmp2 (fn := Try.f15) (t := 2) (u := 3) rfl _ _ _) rfl (PutEnd.no HB1.out)
/-- An answer, and why not. -/
def HearEnd (r : Aw × Int) (w : World) (e : Ending) (w' : World) : Prop := e = .returned (.tuple #[.agg (cellsA r.1), .int .i64 r.2]) ∧ Below w.heap.size w w'
theorem infoA : (Try.prog.info? 28).map (·.size) = some 3 := by kernel_rfl
theorem results_A {fn : Func} {p t : Tmp} (h : fn.results = #[.cell p 28, .tmp t]) (tmps : Array Value) (w : World) (g : Nat) (a : Aw) (hp : tmps.getD p undef = .pointer (some ⟨g, 0, none⟩)) (h0 : w.cell? ⟨g, 0, none⟩ = some (.int .i64 a.e)) (h1 : w.cell? ⟨g, 1, none⟩ = some (.int .i64 a.a)) (h2 : w.cell? ⟨g, 2, none⟩ = some (.int .i64 a.b)) :
    (results fn tmps).run Try.prog w = .ok (.tuple #[.agg (cellsA a), tmps.getD t undef]) w := by
  have hl := run_loadVar_mid (P := Try.prog) w g 0 28 [.int .i64 a.e, .int .i64 a.a, .int .i64 a.b] _ (fun j v hj => by
    match j with
    | 0 => simp at hj; subst hj; exact h0
    | 1 => simp at hj; subst hj; exact h1
    | 2 => simp at hj; subst hj; exact h2
    | j + 3 => simp at hj) Try.underlying28 rfl infoA
  have hp' : tmps[p]?.getD undef = .pointer (some ⟨g, 0, none⟩) := by simpa using hp
  simp [results, h, hp', asAddr, hl]
abbrev S3 (W : World) (B0 : Nat) (v0 v1 v2 : Value) : World := ((W.setCell ⟨B0, 0, none⟩ v0).setCell ⟨B0, 1, none⟩ v1).setCell ⟨B0, 2, none⟩ v2
theorem AC.set3 {W : World} {B0 : Nat} {a : Aw} (h : AC W B0 a) (b : Aw) : AC (S3 W B0 (.int .i64 b.e) (.int .i64 b.a) (.int .i64 b.b)) B0 b := by
  unfold AC at *
  simp [S3, World.setCell, Array.getElem?_modify, h]
theorem S3_below {w W : World} {B B0 : Nat} (h : Below B w W) (hb : B ≤ B0) (v0 v1 v2 : Value) : Below B w (S3 W B0 v0 v1 v2) := ((h.setCell hb _).setCell hb _).setCell hb _
theorem cell_I {w : World} {A : Option Addr} {l : List Int} (h : Kd.C (Kd.int .i64) w A l.length l) (k : Nat) (hk : k < l.length) : ∃ ad, A = some ad ∧ w.cell? (ad.add k) = some (.int .i64 l[k]) := by
  have hr : ReadsOf (Value.int .i64) (0 : Int) w A l.length l := Kd.reads_of_C (h1 := fun _ => rfl) h
  obtain ⟨ad, e, hc⟩ := hr.2.2 (by omega)
  refine ⟨ad, e, ?_⟩
  have := hc k hk
  simpa [List.getD_eq_getElem?_getD, List.getElem?_eq_getElem hk] using this
theorem add_oneW (ad : Addr) : ad.add 1 = ⟨ad.block, ad.off + 1, none⟩ := by
  have q := add_field ad 0 1 (by decide)
  rw [Nat.zero_add, add_zeroR] at q
  exact q
set_option maxRecDepth 100000 in
set_option maxHeartbeats 4000000 in
theorem whear_calls (A : Option Addr) (c : Nat) (b : List Int) (w : World) (hR : Kd.C (Kd.int .u8) w A b.length b) (hc : b.length ≤ c) (ho : okB b) (hl : b.length ≤ 140737488355328) :
    Calls Try.prog 17 #[.slice A b.length c] w (HearEnd (wHear b) w) := by
  have HR := Lib.hid hR
  have HP := Lib.hid (show wHear b = if (getW b).2.2 ≠ 0 then (a0W, (getW b).2.2) else if errW (getW b).1 then (match (getW b).2.1 with
    | [x, y] => (⟨(getW b).1, x, y⟩, 0)
    | _ => (a0W, 2)) else (a0W, 2) from rfl)
  clear hR
  generalize wHear b = res at *
  go_enter Try.func17, Try.ntmps17
  go_wp2_with (fail)
  have hA := AC.new w a0W
  have hb := below_alloc (Below.refl w.heap.size w) (.cells (cellsA a0W) 28)
  refine (wget_calls A c b _ (Kd.C_alloc HR.out _) hc ho hl).mono ?_
  rintro e w1 ⟨A1, c1, rfl, hc1, hC1, hn1, hb1⟩
  have HA := Lib.hid (hA.below hb1)
  have HN1 := Lib.hid (show ∀ ad, A1 = some ad → w.heap.size < ad.block from fun ad e => by have := hn1 ad e; rw [World.size_alloc] at this; omega)
  clear hn1
  have HB1 := Lib.hid (hb.trans (hb1.mono hb.size))
  have HC1 := Lib.hid hC1
  clear hA hb hb1 hC1
  generalize getW b = g at *
  obtain ⟨k, l, er⟩ := g
  dsimp only at *
  obtain ⟨x0, x1, x2⟩ := HA.out.three
  have f0 := HA.out.f 0
  have f1 := HA.out.f 1
  have f2 := HA.out.f 2
  by_cases h0 : er = 0
  · subst h0
    have HZ := Lib.hid (HP.out.trans (if_neg (by simp)))
    clear HP
    go_wp2_with (fail)
    by_cases he : errW k
    · refine (errs_calls k true (decide_eq_true he) _).mono ?_
      rintro e w2 ⟨rfl, hb2⟩
      have HY := Lib.hid (HZ.out.trans (if_pos he))
      have HA2 := Lib.hid (HA.out.below hb2)
      have HB2 := Lib.hid (HB1.out.trans (hb2.mono HB1.out.size))
      have HC2 := Lib.hid (Kd.C_below HC1.out hb2)
      clear HZ he hb2 x0 x1 x2 f0 f1 f2
      obtain ⟨x0, x1, x2⟩ := HA2.out.three
      have f0 := HA2.out.f 0
      have f1 := HA2.out.f 1
      have f2 := HA2.out.f 2
      match l with
      | [x, y] =>
        have HX := Lib.hid (show res = (⟨k, x, y⟩, 0) from HY.out)
        obtain ⟨ad, rfl, y0⟩ := cell_I HC2.out 0 (by simp)
        obtain ⟨ad', e', y1⟩ := cell_I HC2.out 1 (by simp)
        cases e'
        rw [add_zeroR] at y0
        rw [add_oneW] at y1
        have y0 : w2.cell? ad = some (.int .i64 x) := y0
        have y1 : w2.cell? ⟨ad.block, ad.off + 1, none⟩ = some (.int .i64 y) := y1
        have hna := HN1.out ad rfl
        have hs1 : ∀ v0 v1 v2, (S3 w2 w.heap.size v0 v1 v2).drew.cell? ad = some (.int .i64 x) := fun v0 v1 v2 => by
          show (S3 w2 w.heap.size v0 v1 v2).cell? ad = _
          rw [cell_far (by show ad.block ≠ w.heap.size; omega), cell_far (by show ad.block ≠ w.heap.size; omega), cell_far (by show ad.block ≠ w.heap.size; omega)]
          exact y0
        have hs2 : ∀ v0 v1 v2, (S3 w2 w.heap.size v0 v1 v2).drew.cell? ⟨ad.block, ad.off + 1, none⟩ = some (.int .i64 y) := fun v0 v1 v2 => by
          show (S3 w2 w.heap.size v0 v1 v2).cell? ⟨ad.block, ad.off + 1, none⟩ = _
          rw [cell_far (by show ad.block ≠ w.heap.size; omega), cell_far (by show ad.block ≠ w.heap.size; omega), cell_far (by show ad.block ≠ w.heap.size; omega)]
          exact y1
        have HS2 := Lib.hid (show (S3 w2 w.heap.size (.int .i64 k) (.int .i64 x) (.int .i64 y)).drew.cell? ad = some (.int .i64 x) ∧ (S3 w2 w.heap.size (.int .i64 k) (.int .i64 x) (.int .i64 y)).drew.cell? ⟨ad.block, ad.off + 1, none⟩ = some (.int .i64 y) from ⟨hs1 _ _ _, hs2 _ _ _⟩)
        clear hs1 hs2 hna
        have HSS := Lib.hid (show w2.drew.cell? ad = some (.int .i64 x) ∧ w2.drew.cell? ⟨ad.block, ad.off + 1, none⟩ = some (.int .i64 y) from ⟨y0, y1⟩)
        go_wp2_with (fail)
        go_region_held3 (fun W => W.cell? ad = some (.int .i64 x) ∧ W.cell? ⟨ad.block, ad.off + 1, none⟩ = some (.int .i64 y)) (first | (with_reducible exact HSS.out) | (exact HS2.out)) (fail)
        all_goals
          go_wp2_with (fail)
          refine bodyPost_ret (results_A (p := 2) (t := 3) rfl _ _ w.heap.size ⟨k, x, y⟩ rfl (AC.set3 HA2.out ⟨k, x, y⟩).three.1 (AC.set3 HA2.out ⟨k, x, y⟩).three.2.1 (AC.set3 HA2.out ⟨k, x, y⟩).three.2.2) rfl ?_
          rw [HX.out]
          exact ⟨rfl, S3_below (below_drew HB2.out) (Nat.le_refl _) _ _ _⟩
      | [] =>
        have HX := Lib.hid (show res = (a0W, 2) from HY.out)
        go_wp2_with (fail)
        refine bodyPost_ret (results_A (p := 2) (t := 3) rfl _ _ w.heap.size a0W rfl (AC.set3 HA2.out a0W).three.1 (AC.set3 HA2.out a0W).three.2.1 (AC.set3 HA2.out a0W).three.2.2) rfl ?_
        rw [HX.out]
        exact ⟨rfl, S3_below HB2.out (Nat.le_refl _) _ _ _⟩
      | [z] =>
        have HX := Lib.hid (show res = (a0W, 2) from HY.out)
        go_wp2_with (fail)
        refine bodyPost_ret (results_A (p := 2) (t := 3) rfl _ _ w.heap.size a0W rfl (AC.set3 HA2.out a0W).three.1 (AC.set3 HA2.out a0W).three.2.1 (AC.set3 HA2.out a0W).three.2.2) rfl ?_
        rw [HX.out]
        exact ⟨rfl, S3_below HB2.out (Nat.le_refl _) _ _ _⟩
      | z :: z' :: z'' :: t =>
        have HX := Lib.hid (show res = (a0W, 2) from HY.out)
        have hln : (((z :: z' :: z'' :: t).length : Int) != 2) = true := by
          have : (z :: z' :: z'' :: t).length = t.length + 3 := rfl
          rw [this]
          simp
          omega
        generalize hq : (z :: z' :: z'' :: t).length = ln at *
        clear hq
        go_wp2_with (fail)
        refine bodyPost_ret (results_A (p := 2) (t := 3) rfl _ _ w.heap.size a0W rfl (AC.set3 HA2.out a0W).three.1 (AC.set3 HA2.out a0W).three.2.1 (AC.set3 HA2.out a0W).three.2.2) rfl ?_
        rw [HX.out]
        exact ⟨rfl, S3_below HB2.out (Nat.le_refl _) _ _ _⟩
    · refine (errs_calls k false (decide_eq_false he) _).mono ?_
      rintro e w2 ⟨rfl, hb2⟩
      have HY := Lib.hid (HZ.out.trans (if_neg he))
      have HA2 := Lib.hid (HA.out.below hb2)
      have HB2 := Lib.hid (HB1.out.trans (hb2.mono HB1.out.size))
      clear HZ he hb2 x0 x1 x2 f0 f1 f2
      obtain ⟨x0, x1, x2⟩ := HA2.out.three
      have f0 := HA2.out.f 0
      have f1 := HA2.out.f 1
      have f2 := HA2.out.f 2
      go_wp2_with (fail)
      refine bodyPost_ret (results_A (p := 2) (t := 3) rfl _ _ w.heap.size a0W rfl (AC.set3 HA2.out a0W).three.1 (AC.set3 HA2.out a0W).three.2.1 (AC.set3 HA2.out a0W).three.2.2) rfl ?_
      rw [HY.out]
      exact ⟨rfl, S3_below HB2.out (Nat.le_refl _) _ _ _⟩
  · have HZ := Lib.hid (HP.out.trans (if_pos h0))
    have heb : (er != 0) = true := by simpa using h0
    clear HP h0
    go_wp2_with (fail)
    refine bodyPost_ret (results_A (p := 2) (t := 3) rfl _ _ w.heap.size a0W rfl (AC.set3 HA.out a0W).three.1 (AC.set3 HA.out a0W).three.2.1 (AC.set3 HA.out a0W).three.2.2) rfl ?_
    rw [HZ.out]
    exact ⟨rfl, S3_below HB1.out (Nat.le_refl _) _ _ _⟩
end Go.Proofs.Ytiopafdndlodoaa.H

/-! Layer 19: what comes one behind the other, split. -/
namespace Go.Proofs.Ytiopafdndlodoaa.H
open Go.RowKit Moor Go.Proofs.YtiopafdndlodoaaW.PrintWords Go.Proofs.YtiopafdndlodoaaW.PrintLast Go.Proofs.YtiopafdndlodoaaW.PrintMore
set_option linter.unusedVariables false
set_option linter.unusedSimpArgs false

abbrev kBB : Kd (List Int) := Kd.slice 5 (Kd.int .u8)
theorem infoBB : (Try.prog.info? 29).map (fun i => (i.zero, i.size, i.bytes)) = some (some (.slice none 0 0), 1, 24) := by kernel_rfl
/-- Rows of bytes, and bytes. -/
def SplitEnd (r : List (List Int) × List Int) (w : World) (e : Ending) (w' : World) : Prop := ∃ (A : Option Addr) (c : Nat) (A' : Option Addr) (c' : Nat), e = .returned (.tuple #[.slice A r.1.length c, .slice A' r.2.length c']) ∧ r.1.length ≤ c ∧ r.2.length ≤ c' ∧ Kd.C kBB w' A r.1.length r.1 ∧ Kd.C (Kd.int .u8) w' A' r.2.length r.2 ∧ Below w.heap.size w w'
theorem lit_rowM {W : World} {t : TypeId} {base : Nat} {okp : Nat → Prop} {v : Value} {l : List Int} (h : Kd.R (Kd.int .u8) 5 W base okp v l) :
    ReadsRow (fun x cs => kBB.M (W.alloc (.cells #[v] t)) base okp x cs) 1 (W.alloc (.cells #[v] t)) (some ⟨W.heap.size, 0, none⟩) 1 [l] := by
  refine ⟨rfl, by decide, fun _ => ⟨_, rfl, fun j p hj => ?_⟩⟩
  cases j with
  | zero =>
    obtain rfl : l = p := by simpa using hj
    refine ⟨[v], rfl, ⟨v, rfl, Kd.R_alloc h _⟩, fun i u hu => ?_⟩
    rw [add_plain, blk_cell (heap_alloc_new W _)]
    cases i with
    | zero => simpa using hu
    | succ i => simp at hu
  | succ j => simp at hj
def lenS : Value → Nat
  | .slice _ n _ => n
  | _ => 0
set_option maxRecDepth 100000 in
set_option maxHeartbeats 8000000 in
theorem wsplit_calls (A : Option Addr) (c : Nat) (b : List Int) (w : World) (hR : Kd.C (Kd.int .u8) w A b.length b) (hc : b.length ≤ c) (ho : okB b) (hl : b.length ≤ 1000000) :
    Calls Try.prog 19 #[.slice A b.length c] w (SplitEnd (wSplit b) w) := by
  have HR := Lib.hid hR
  have HO := Lib.hid ho
  have HSP := Lib.hid (show wSplit b = (([] : List (List Int)) ++ (wSplit b).1, (wSplit b).2) from rfl)
  clear hR ho
  generalize hres : wSplit b = res at *
  have HSQ : Hid (res = (([] : List (List Int)) ++ (wSplit b).1, (wSplit b).2)) := Lib.hid (by rw [hres]; rfl)
  clear HSP hres
  go_enter Try.func19, Try.ntmps19
  go_wp2_with (fail)
  refine (recGet_calls A c b 0 w HR.out hc HO.out (by omega)).mono ?_
  rintro e w1 ⟨A1, c1, rfl, hc1, hC1, hb1, -⟩
  have HB1 := Lib.hid hb1
  clear hb1 hC1
  go_wp2_with (fail)
  have HB2 := Lib.hid (below_alloc HB1.out (.cells #[.int .i64 (rGet b 0).1.kind, .slice A1 (rGet b 0).1.body.length c1] 64))
  generalize hww : w1.alloc (.cells #[.int .i64 (rGet b 0).1.kind, .slice A1 (rGet b 0).1.body.length c1] 64) = w2 at *
  clear hww HB1
  go_loopw [0, 4, 6, 7] (fun s v p q wr => ∃ (x : List Int) (A : Option Addr) (c : Nat) (done : List (List Int)), s = .slice A x.length c ∧ x.length ≤ c ∧ Hid (Kd.C (Kd.int .u8) w A x.length x) ∧ Hid (okB x) ∧ x.length ≤ 1000000 ∧ Hid (Kd.R kBB 29 wr w.heap.size (fun _ => True) v done) ∧ p = .int .i64 (rGet x 0).2.1 ∧ q = .int .i64 (rGet x 0).2.2 ∧ Hid (res = (done ++ (wSplit x).1, (wSplit x).2)) ∧ done.length + x.length ≤ 1000000 ∧ Hid (Below w.heap.size w wr)) (fun s _ _ _ _ => lenS s)
  case atStart => exact ⟨b, A, c, [], rfl, hc, HR, HO, hl, Lib.hid (Kd.R_nil _ _ _ _ _), rfl, rfl, HSQ, by simpa using hl, HB2⟩
  case round =>
    obtain ⟨x, A, c, done, rfl, hc, HX, HO, hl, HV, rfl, rfl, HS, hdl, HB⟩ := hrel
    by_cases h0 : (rGet x 0).2.2 = 0
    · obtain ⟨h1, h2, h3⟩ := rGet_six HO.out h0
      have hst := wSplit_step HO.out h0
      obtain ⟨t1, t2, t3⟩ := takeB A c x (rGet x 0).2.1 (by omega) (by omega) hc
      obtain ⟨A', d1, d2, d3⟩ := dropB A c x (rGet x 0).2.1 (by omega) (by omega) hc
      have HS2 := Lib.hid (show res = ((done ++ [x.take (rGet x 0).2.1.toNat]) ++ (wSplit (x.drop (rGet x 0).2.1.toNat)).1, (wSplit (x.drop (rGet x 0).2.1.toNat)).2) from by
        have q := HS.out
        rw [hst] at q
        rw [q]
        simp)
      have hdrop : (x.drop (rGet x 0).2.1.toNat).length + 6 ≤ x.length := by rw [List.length_drop]; omega
      have htake : (x.take (rGet x 0).2.1.toNat).length ≤ x.length := by rw [List.length_take]; omega
      have HXT := Lib.hid (t2 w HX.out)
      have HXD := Lib.hid (d2 w HX.out)
      have HOD := Lib.hid (okB_drop HO.out (rGet x 0).2.1.toNat)
      clear t2 d2 hst HS HX HO
      rw [h0]
      generalize (rGet x 0).2.1 = en at *
      generalize x.take en.toNat = y at *
      generalize x.drop en.toNat = z at *
      have HLN := Lib.hid (show z.length + 6 ≤ x.length from hdrop)
      have hzl : z.length ≤ 1000000 := by omega
      have hdz : done.length + 1 + z.length ≤ 1000000 := by omega
      have hyl : y.length ≤ 1000000 := by omega
      have hen : 0 ≤ en := by omega
      have hen2 : en ≤ (x.length : Int) := by omega
      clear h0 h1 h2 h3 hdrop htake
      go_wp2_with (fail)
      refine (cloneB_calls A c y wr (Kd.C_below HXT.out HB.out) t3 (by omega)).mono ?_
      rintro e w3 ⟨vy, rfl, hr3, hb3⟩
      obtain ⟨Ay, cy, hvy, -, -⟩ := Kd.R_reads hr3
      subst hvy
      have HR3 := Lib.hid (Kd.R_mono (Kd.R_bound hr3) (fun k hk => hk.2.1))
      have HB3 := Lib.hid (HB.out.trans (hb3.mono HB.out.size))
      have HV3 := Lib.hid (Kd.R_below HV.out hb3)
      have hsz := hb3.size
      have HVL := Lib.hid (fun k hk => (show k < wr.heap.size from ((Kd.R_bound HV.out).1 k hk).2.2.1))
      clear hr3 hb3 HV
      have HR4 := Lib.hid (lit_rowM (t := 29) (Kd.R_lower HR3.out HB.out.size))
      have HB4 := Lib.hid (below_alloc HB3.out (.cells #[.slice Ay y.length cy] 29))
      go_wp2_with (at_builtin; refine Kd.R_append_rows kBB (Rr := fun x cs => kBB.M (w3.alloc (.cells #[.slice Ay y.length cy] 29)) w.heap.size (fun k => wr.heap.size ≤ k) x cs) (w0 := w) w.heap.size rfl _ _ 38 29 (.slice none 0 0) 24 rfl Try.underlying38 infoBB rfl Nat.one_pos (by decide) u4 done [y] (some ⟨w3.heap.size, 0, none⟩) 1 1 (fun _ => True) (fun k => wr.heap.size ≤ k) rfl rfl (Kd.R_alloc HV3.out _) HR4.out (fun _ _ h => h) (fun k hk => ⟨trivial, fun e => by have := HVL.out k e.symm; omega⟩) (fun _ _ => trivial) HB4.out HB4.out.size (by omega) ?_; intro v5 w5 hr5 hb5 hG5 _)
      have HR5 := Lib.hid hr5
      have HB5 := Lib.hid hb5
      clear hr5 hb5 hG5 HR4 HB4 HR3 HB3 HV3 HVL hsz
      go_wp2_with (fail)
      refine (recGet_calls A' (c - en.toNat) z 0 w5 (Kd.C_below HXD.out HB5.out) d3 HOD.out (by omega)).mono ?_
      rintro e w6 ⟨A6, c6, rfl, hc6, hC6, hb6, -⟩
      have HR6 := Lib.hid (Kd.R_below HR5.out hb6)
      have HB6 := Lib.hid (HB5.out.trans (hb6.mono HB5.out.size))
      clear hb6 hC6 HR5 HB5
      go_wp2_with (fail)
      go_roundw
      case rel => exact ⟨z, A', c - en.toNat, done ++ [y], rfl, d3, HXD, HOD, hzl, HR6, rfl, rfl, HS2, by rw [List.length_append, List.length_singleton]; exact hdz, HB6⟩
      case measure => show z.length < x.length; have := HLN.out; omega
    · have hend := wSplit_end h0
      have HZ := Lib.hid (show res = (done, x) from by have q := HS.out; rw [hend, List.append_nil] at q; exact q)
      have h0b : ((rGet x 0).2.2 == 0) = false := by simpa using h0
      clear hend HS h0
      go_wp2_with (fail)
      refine (cloneB_calls A c x wr (Kd.C_below HX.out HB.out) hc (by omega)).mono ?_
      rintro e w3 ⟨vy, rfl, hr3, hb3⟩
      obtain ⟨A3, c3, rfl, hc3, hC3⟩ := Kd.R_reads hr3
      obtain ⟨A4, c4, hv4, hc4, hC4⟩ := Kd.R_reads (Kd.R_below HV.out hb3)
      have HE := Lib.hid (show SplitEnd res w (.returned (.tuple #[.slice A4 done.length c4, .slice A3 x.length c3])) w3 from by
        rw [HZ.out]
        exact ⟨A4, c4, A3, c3, rfl, hc4, hc3, hC4, hC3, HB.out.trans (hb3.mono HB.out.size)⟩)
      subst hv4
      clear hr3 hC3 hC4 hb3 hc3 hc4
      go_wp2_with (fail)
      exact bodyPost_ret (results_tmp2 (fn := Try.f19) (t := 2) (u := 3) rfl _ _ _) rfl HE.out
end Go.Proofs.Ytiopafdndlodoaa.H

/-! Layer 19: what is asked, put. -/
namespace Go.Proofs.Ytiopafdndlodoaa.H
open Go.RowKit Moor Go.Proofs.YtiopafdndlodoaaW.PrintWords Go.Proofs.YtiopafdndlodoaaW.PrintLast Go.Proofs.YtiopafdndlodoaaW.PrintMore
set_option linter.unusedVariables false
set_option linter.unusedSimpArgs false

theorem nums_offs (r : Rq) (hk : kindW r.kind) : numsW r = (offsW r.kind).map (numQ r) ++ (if r.kind = 8 then [if r.pair = true then 1 else 0] else []) := by
  cases r with | mk k s a b n q i hh p =>
  unfold kindW at hk
  unfold numsW offsW
  simp only at *
  by_cases k0 : k = 0
  · subst k0; rfl
  · rw [if_neg k0, if_neg k0]
    by_cases k1 : k = 1 ∨ k = 2
    · rw [if_pos k1, if_pos k1, if_neg (by omega)]; rfl
    · rw [if_neg k1, if_neg k1]
      by_cases k2 : k = 3 ∨ k = 5 ∨ k = 7
      · rw [if_pos k2, if_pos k2, if_neg (by omega)]; rfl
      · rw [if_neg k2, if_neg k2]
        by_cases k3 : k = 4 ∨ k = 6
        · rw [if_pos k3, if_pos k3, if_neg (by omega)]; rfl
        · rw [if_neg k3, if_neg k3]
          by_cases k4 : k = 9
          · subst k4; rfl
          · have k8 : k = 8 := by omega
            subst k8
            cases p <;> rfl
theorem infoI : (Try.prog.info? 3).map (fun i => (i.zero, i.size, i.bytes)) = some (some (.int .i64 0), 1, 8) := by kernel_rfl
theorem rq_ne (x y : Rq) : (!(x.kind == y.kind) || (!(x.sub == y.sub) || (!(x.addr == y.addr) || (!(x.blk == y.blk) || (!(x.n == y.n) || (!(x.q == y.q) || (!(x.i == y.i) || (!(x.h == y.h) || !(x.pair == y.pair))))))))) = !decide (x = y) := by
  by_cases h : x = y
  · subst h; simp
  · rw [decide_eq_false h]
    cases x; cases y
    simp only [Rq.mk.injEq] at h
    simp only [Bool.not_false]
    apply Classical.byContradiction
    intro g
    apply h
    simpa using g
theorem below_onW {w1 w2 w3 : World} (h : Below w2.heap.size w2 w3) (k : Below w1.heap.size w1 w2) : Below w1.heap.size w1 w3 := k.trans (h.mono k.size)
theorem ownQ {w : World} {base : Nat} {ok : Nat → Prop} {v : Value} {l : List Int} (h : Kd.R (Kd.int .i64) 3 w base ok v l) (hl : 0 < l.length) : ∃ g c, v = .slice (some ⟨g, 0, none⟩) l.length c ∧ base ≤ g ∧ g < w.heap.size ∧ ok g := by
  have hbd := Kd.R_bound h
  obtain ⟨A, c, rfl, _, hC⟩ := Kd.R_reads h
  obtain ⟨_, inner, hown, _⟩ := h
  rcases hown.2 with ⟨hv, h0⟩ | ⟨g', cap', cur, hv, hb2, hh, _⟩
  · injection hv with h1 h2 h3; omega
  · cases hv
    have q := hbd.1 g' rfl
    exact ⟨g', c, rfl, q.2.1, q.2.2.1, q.1⟩
theorem Q_grown {w w' : World} {B0 : Nat} {cs : Array Value} {row : Option Nat} (h : QC w B0 cs) (hg : w.grownBy w' row) (hne : some B0 ≠ row) : QC w' B0 cs := (hg.block B0 (blk_lt h) hne).trans h
abbrev APPI (l : List Int) : Prop := True
set_option maxRecDepth 100000 in
set_option maxHeartbeats 16000000 in
/-- Behind the test: what may be put. -/
theorem wPut_yes (r : Rq) (hk : kindW r.kind) (hp : plainW r = r) (w : World) :
    Calls Try.prog 11 #[.agg (cellsQ r)] w (PutEndR (putW r.kind (numsW r)) w) := by
  have HNO := Lib.hid (nums_offs r hk)
  have HK := Lib.hid hk
  have HPL := Lib.hid hp
  have HOR := Lib.hid (fun j h => offs_get (k := r.kind) j h)
  have HL3 := Lib.hid (offsW_len r.kind)
  have HO8 := Lib.hid (show r.kind = 8 → offsW r.kind = [5, 6, 7] from fun h => by rw [h]; rfl)
  clear hk hp
  go_enter Try.func11, Try.ntmps11
  go_wp2_with (fail)
  have q1 := QC.new w (cellsQ r)
  have hb := below_alloc (Below.refl w.heap.size w) (.cells (cellsQ r) 25)
  have hz : (w.alloc (.cells (cellsQ r) 25)).heap.size = w.heap.size + 1 := World.size_alloc _ _
  generalize w.alloc (.cells (cellsQ r) 25) = w1 at *
  have HQ1 := Lib.hid q1
  have HB1 := Lib.hid hb
  have HZ1 := Lib.hid hz
  clear q1 hb hz
  have HSS := Lib.hid (show ∀ W, Below w1.heap.size w1 W → W.cell? ⟨w.heap.size, 0, none⟩ = some (.int .i64 r.kind) ∧ W.cell? ⟨w.heap.size, 1, none⟩ = some (.int .i64 r.sub) ∧ W.cell? ⟨w.heap.size, 2, none⟩ = some (.int .i64 r.addr) ∧ W.cell? ⟨w.heap.size, 3, none⟩ = some (.int .i64 r.blk) ∧ W.cell? ⟨w.heap.size, 4, none⟩ = some (.int .i64 r.n) ∧ W.cell? ⟨w.heap.size, 5, none⟩ = some (.int .i64 r.q) ∧ W.cell? ⟨w.heap.size, 6, none⟩ = some (.int .i64 r.i) ∧ W.cell? ⟨w.heap.size, 7, none⟩ = some (.int .i64 r.h) ∧ W.cell? ⟨w.heap.size, 8, none⟩ = some (.bool r.pair) from fun W h => (HQ1.out.below h).nine)
  have D0 := Lib.hid (Below.refl w1.heap.size w1).drew
  have hcon : ∀ W, Calls Try.prog 23 #[.agg (cellsQ r)] W fun e w' => e = .returned (.agg (cellsQ r)) ∧ Below W.heap.size W w' := fun W => by
    have q := plain_calls r HK.out W
    rw [HPL.out] at q
    exact q
  have HCON := Lib.hid hcon
  clear hcon
  go_region_held3 (fun W => W.cell? ⟨w.heap.size, 0, none⟩ = some (.int .i64 r.kind) ∧ W.cell? ⟨w.heap.size, 1, none⟩ = some (.int .i64 r.sub) ∧ W.cell? ⟨w.heap.size, 2, none⟩ = some (.int .i64 r.addr) ∧ W.cell? ⟨w.heap.size, 3, none⟩ = some (.int .i64 r.blk) ∧ W.cell? ⟨w.heap.size, 4, none⟩ = some (.int .i64 r.n) ∧ W.cell? ⟨w.heap.size, 5, none⟩ = some (.int .i64 r.q) ∧ W.cell? ⟨w.heap.size, 6, none⟩ = some (.int .i64 r.i) ∧ W.cell? ⟨w.heap.size, 7, none⟩ = some (.int .i64 r.h) ∧ W.cell? ⟨w.heap.size, 8, none⟩ = some (.bool r.pair))
    (first | (with_reducible exact HSS.out _ D0.out) | (with_reducible exact HSS.out _ D1.out) | (with_reducible exact HSS.out _ D2.out))
    (first
    | (go_at_call 23; refine (HCON.out _).mono ?_; rintro e v2 ⟨rfl, hq2⟩; have D2 := Lib.hid (below_onW hq2 D1.out))
    | (go_at_call 22; refine (kind_calls r.kind true (decide_eq_true HK.out) _).mono ?_; rintro e v1 ⟨rfl, hq1⟩; have D1 := Lib.hid (below_onW hq1 D0.out)))
  have HQ2 := Lib.hid (HQ1.out.below D2.out)
  have HB2 := Lib.hid (HB1.out.trans (D2.out.mono HB1.out.size))
  have HZ2 := Lib.hid (show w.heap.size + 1 ≤ v2.heap.size from by have := D2.out.size; have := HZ1.out; omega)
  clear HSS D0 D1 D2 HCON HQ1 HB1 HZ1
  go_wp2_with (fail)
  refine (fields_calls w.heap.size r HK.out (cellsQ r) rfl v2 HQ2.out).mono ?_
  rintro e w3 ⟨A3, c3, rfl, hc3, hC3, hn3, hb3⟩
  have HC3 := Lib.hid hC3
  have HN3 := Lib.hid (show ∀ ad, A3 = some ad → w.heap.size + 1 ≤ ad.block ∧ ad.block < w3.heap.size from fun ad e => ⟨by have := hn3 ad e; have := HZ2.out; omega, by
    obtain ⟨ad', e', y⟩ := cell_P hC3 0 (by have := HL3.out.1; omega)
    rw [e] at e'
    cases e'
    have := World.block_lt_of_cell? _ _ y
    rw [add_zeroR] at this
    exact this⟩)
  have HQ3 := Lib.hid (HQ2.out.below hb3)
  have HB3 := Lib.hid (HB2.out.trans (hb3.mono HB2.out.size))
  have HZ3 := Lib.hid (show w.heap.size + 1 ≤ w3.heap.size from by have := hb3.size; have := HZ2.out; omega)
  clear hC3 hn3 hb3 HQ2 HB2 HZ2
  generalize hofs : offsW r.kind = l at *
  clear hofs
  have HRN := Lib.hid (Kd.R_nil (Kd.int .i64) 3 w3 (w.heap.size + 1) (fun k => ∀ ad, A3 = some ad → k ≠ ad.block))
  go_wp2_with (fail)
  go_loopw [19, 4] (fun i v wr => ∃ k : Nat, k ≤ l.length ∧ i = .int .i64 (k : Int) ∧ Hid (Kd.R (Kd.int .i64) 3 wr (w.heap.size + 1) (fun k => ∀ ad, A3 = some ad → k ≠ ad.block) v ((l.take k).map (numQ r))) ∧ Hid (QC wr w.heap.size (cellsQ r)) ∧ Hid (Kd.C (kP w.heap.size) wr A3 l.length l) ∧ Hid (Below w.heap.size w wr) ∧ Hid (w3.heap.size ≤ wr.heap.size)) (fun i _ _ => l.length - (intOf i).toNat)
  case atStart => exact ⟨0, Nat.zero_le _, rfl, HRN, HQ3, HC3, HB3, Lib.hid (Nat.le_refl _)⟩
  case round =>
    obtain ⟨k, hkl, rfl, HV, HQ, HC, HB, HZ⟩ := hrel
    by_cases hlt : k < l.length
    · obtain ⟨ad, rfl, y1⟩ := cell_P HC.out k hlt
      have ho := HOR.out k hlt
      have y2 := (HQ.out.c l[k]).trans (numQ_cell r _ ho)
      have hlti : (k : Int) < (l.length : Int) := by omega
      have HTS := Lib.hid (take_snocN l k hlt)
      have hk3 : k < 3 := by have := HL3.out.2; omega
      generalize hoo : l[k] = oo at *
      clear hoo ho
      generalize hnn : numQ r oo = nn at *
      have HNN := Lib.hid hnn
      clear hnn
      have HVL := Lib.hid (show ((l.take k).map (numQ r)).length < 3 by rw [List.length_map, List.length_take]; omega)
      have HLI := Lib.hid (lit_i64 wr 3 nn)
      have HBA := Lib.hid (below_alloc (Below.refl wr.heap.size wr) (.cells #[.int .i64 nn] 3))
      generalize hLL : (l.take k).map (numQ r) = LL at *
      have HLL := Lib.hid hLL
      clear hLL
      have HSZ := Lib.hid (show w.heap.size + 1 ≤ wr.heap.size from by have := HZ.out; have := HZ3.out; omega)
      go_wp2_with (at_builtin; refine Kd.R_append_rows (Kd.int .i64) (Rr := fun x cs => cs = [.int .i64 x]) (w0 := wr) (w.heap.size + 1) rfl _ _ 52 3 (.int .i64 0) 8 rfl Try.underlying52 infoI rfl (by decide) (by decide) u4 LL [nn] (some ⟨wr.heap.size, 0, none⟩) 1 1 (fun k => ∀ ad', some ad = some ad' → k ≠ ad'.block) (fun _ => False) rfl rfl (Kd.R_alloc HV.out _) HLI.out (fun _ _ h => h) (fun _ h => h.elim) (fun k hk ad' e => by have := (HN3.out ad' e).2; have := HZ.out; have := HBA.out.size; omega) (HBA.out.mono HSZ.out) (Nat.le_trans HSZ.out HBA.out.size) (by have := HVL.out; omega) ?_; intro v5 w5 hr5 hb5 hG5 _)
      have HR5 := Lib.hid (show Kd.R (Kd.int .i64) 3 w5 (w.heap.size + 1) (fun k => ∀ ad', some ad = some ad' → k ≠ ad'.block) v5 ((l.take (k + 1)).map (numQ r)) from by
        rw [HTS.out, List.map_append, HLL.out, List.map_cons, List.map_nil, HNN.out]
        exact hr5)
      have HQ5 := Lib.hid (Q_grown (HQ.out.alloc (.cells #[.int .i64 nn] 3)) hG5 (fun e => by have := ((Kd.R_bound HV.out).1 _ e.symm).2.1; omega))
      have HC5 := Lib.hid (P_other (Kd.C_alloc HC.out (.cells #[.int .i64 nn] 3)) hG5 (fun ad' e e2 => HV.out.1 _ e2.symm ad' e rfl))
      have HB5 := Lib.hid (HB.out.trans (hb5.mono (Nat.le_succ _)))
      have HZ5 := Lib.hid (Nat.le_trans HZ.out hb5.size)
      clear hr5 hb5 hG5 HLI HBA HV HQ HC HB HZ HSZ HVL HLL HNN y1 y2
      go_wp2_with (fail)
      go_roundw
      case rel => exact ⟨k + 1, by omega, by go_num, HR5, HQ5, HC5, HB5, HZ5⟩
      case measure => simp [intOf]; omega
    · have hke : k = l.length := by omega
      have hlti : ¬ (k : Int) < (l.length : Int) := by omega
      have HV2 := Lib.hid (show Kd.R (Kd.int .i64) 3 wr (w.heap.size + 1) (fun k => ∀ ad, A3 = some ad → k ≠ ad.block) u4 (l.map (numQ r)) from by have q := HV.out; rw [hke, List.take_length] at q; exact q)
      have x0 := HQ.out.nine.1
      have HSZ := Lib.hid (show w.heap.size + 1 ≤ wr.heap.size from by have := HZ.out; have := HZ3.out; omega)
      clear HV hke HC
      by_cases k8 : r.kind = 8
      · have k8b : (r.kind == 8) = true := by simpa using k8
        have hl := HO8.out k8
        subst hl
        have HNW := Lib.hid (show numsW r = [r.q, r.i, r.h] ++ [if r.pair = true then 1 else 0] from by rw [HNO.out, if_pos k8]; rfl)
        have HV3 := Lib.hid (show Kd.R (Kd.int .i64) 3 wr (w.heap.size + 1) (fun k => ∀ ad, A3 = some ad → k ≠ ad.block) u4 [r.q, r.i, r.h] from HV2.out)
        clear HNO HO8 HV2 k8 HOR HL3
        have x8 := HQ.out.nine.2.2.2.2.2.2.2.2
        have HLI := Lib.hid (lit_i64 wr 3 0)
        have HBA := Lib.hid (below_alloc (Below.refl wr.heap.size wr) (.cells #[.int .i64 0] 3))
        cases hpr : r.pair with
        | false =>
          have HPR := Lib.hid hpr
          have HNV := Lib.hid (show numsW r = [r.q, r.i, r.h, 0] from by rw [HNW.out, hpr]; rfl)
          clear hpr HNW
          go_wp2_with (at_builtin; refine Kd.R_append_rows (Kd.int .i64) (Rr := fun x cs => cs = [.int .i64 x]) (w0 := wr) (w.heap.size + 1) rfl _ _ 52 3 (.int .i64 0) 8 rfl Try.underlying52 infoI rfl (by decide) (by decide) u4 [r.q, r.i, r.h] [0] (some ⟨wr.heap.size, 0, none⟩) 1 1 (fun k => ∀ ad, A3 = some ad → k ≠ ad.block) (fun _ => False) rfl rfl (Kd.R_alloc HV3.out _) HLI.out (fun _ _ h => h) (fun _ h => h.elim) (fun k hk ad' e => by have := (HN3.out ad' e).2; have := HZ.out; have := HBA.out.size; omega) (HBA.out.mono HSZ.out) (Nat.le_trans HSZ.out HBA.out.size) (show (3 + 1) * 8 ≤ 140737488355328 by decide) ?_; intro v5 w5 hr5 hb5 hG5 _; have HQ5 := Lib.hid (Q_grown (HQ.out.alloc (.cells #[.int .i64 0] 3)) hG5 (fun e => by have := ((Kd.R_bound HV3.out).1 _ e.symm).2.1; omega)); have x08 : w5.cell? ⟨w.heap.size, 0, none⟩ = some (.int .i64 r.kind) ∧ w5.cell? ⟨w.heap.size, 8, none⟩ = some (.bool false) := (by rw [← HPR.out]; exact ⟨HQ5.out.nine.1, HQ5.out.nine.2.2.2.2.2.2.2.2⟩); obtain ⟨z0, z8⟩ := x08; obtain ⟨g, cap, rfl, hg1, hg2, -⟩ := ownQ hr5 (show 0 < 4 by decide); have HB5 := Lib.hid (HB.out.trans (hb5.mono (Nat.le_succ _))); have HR5 := Lib.hid (show Kd.R (Kd.int .i64) 3 w5 (w.heap.size + 1) (fun k => ∀ ad, A3 = some ad → k ≠ ad.block) (.slice (some ⟨g, 0, none⟩) 4 cap) [r.q, r.i, r.h, 0] from hr5); clear hb5 hG5 hr5 x0 x8)
          obtain ⟨A5, c5, e5, hc5, hC5⟩ := Kd.R_reads HR5.out
          cases e5
          refine (wputR_calls r.kind (some ⟨g, 0, none⟩) cap [r.q, r.i, r.h, 0] w5 hC5 hc5).mono ?_
          rintro e w6 hE
          have HE := Lib.hid (show PutEndR (putW r.kind (numsW r)) w e w6 from by rw [HNV.out]; exact hE.lower HB5.out)
          obtain ⟨v6, rfl, -⟩ := hE
          go_wp2_with (fail)
          exact bodyPost_ret (results_tmp2 (fn := Try.f11) (t := 2) (u := 3) rfl _ _ _) rfl HE.out
        | true =>
          have HPR := Lib.hid hpr
          have HNV := Lib.hid (show numsW r = [r.q, r.i, r.h, 1] from by rw [HNW.out, hpr]; rfl)
          clear hpr HNW
          go_wp2_with (at_builtin; refine Kd.R_append_rows (Kd.int .i64) (Rr := fun x cs => cs = [.int .i64 x]) (w0 := wr) (w.heap.size + 1) rfl _ _ 52 3 (.int .i64 0) 8 rfl Try.underlying52 infoI rfl (by decide) (by decide) u4 [r.q, r.i, r.h] [0] (some ⟨wr.heap.size, 0, none⟩) 1 1 (fun k => ∀ ad, A3 = some ad → k ≠ ad.block) (fun _ => False) rfl rfl (Kd.R_alloc HV3.out _) HLI.out (fun _ _ h => h) (fun _ h => h.elim) (fun k hk ad' e => by have := (HN3.out ad' e).2; have := HZ.out; have := HBA.out.size; omega) (HBA.out.mono HSZ.out) (Nat.le_trans HSZ.out HBA.out.size) (show (3 + 1) * 8 ≤ 140737488355328 by decide) ?_; intro v5 w5 hr5 hb5 hG5 _; have HQ5 := Lib.hid (Q_grown (HQ.out.alloc (.cells #[.int .i64 0] 3)) hG5 (fun e => by have := ((Kd.R_bound HV3.out).1 _ e.symm).2.1; omega)); have x08 : w5.cell? ⟨w.heap.size, 0, none⟩ = some (.int .i64 r.kind) ∧ w5.cell? ⟨w.heap.size, 8, none⟩ = some (.bool true) := (by rw [← HPR.out]; exact ⟨HQ5.out.nine.1, HQ5.out.nine.2.2.2.2.2.2.2.2⟩); obtain ⟨z0, z8⟩ := x08; obtain ⟨g, cap, rfl, hg1, hg2, -⟩ := ownQ hr5 (show 0 < 4 by decide); have HB5 := Lib.hid (HB.out.trans (hb5.mono (Nat.le_succ _))); have HR5 := Lib.hid (show Kd.R (Kd.int .i64) 3 w5 (w.heap.size + 1) (fun k => ∀ ad, A3 = some ad → k ≠ ad.block) (.slice (some ⟨g, 0, none⟩) 4 cap) [r.q, r.i, r.h, 0] from hr5); clear hb5 hG5 hr5 x0 x8; obtain ⟨hce, hfz⟩ := Kd.R_celln (0 : Int) HR5.out 3 (by decide) (by decide); have hce : w5.cell? ⟨g, 3, none⟩ = some (.int .i64 0) := hce; have hfz : w5.frozen? ⟨g, 3, none⟩ = false := hfz; have hx0 : (w5.setCell ⟨g, 3, none⟩ (.int .i64 1)).cell? ⟨w.heap.size, 0, none⟩ = some (.int .i64 r.kind) := (by rw [cell_far (by show w.heap.size ≠ g; omega)]; exact z0))
          have HR6 := Lib.hid (show Kd.R (Kd.int .i64) 3 (w5.setCell ⟨g, 3, none⟩ (.int .i64 1)) (w.heap.size + 1) (fun k => ∀ ad, A3 = some ad → k ≠ ad.block) (.slice (some ⟨g, 0, none⟩) 4 cap) [r.q, r.i, r.h, 1] from (Kd.R_putg HR5.out 3 1).1)
          have HB6 := Lib.hid (show Below w.heap.size w (w5.setCell ⟨g, 3, none⟩ (.int .i64 1)) from HB5.out.setCell (by show w.heap.size ≤ g; omega) _)
          obtain ⟨A5, c5, e5, hc5, hC5⟩ := Kd.R_reads HR6.out
          cases e5
          refine (wputR_calls r.kind (some ⟨g, 0, none⟩) cap [r.q, r.i, r.h, 1] _ hC5 hc5).mono ?_
          rintro e w6 hE
          have HE := Lib.hid (show PutEndR (putW r.kind (numsW r)) w e w6 from by rw [HNV.out]; exact hE.lower HB6.out)
          obtain ⟨v6, rfl, -⟩ := hE
          go_wp2_with (fail)
          exact bodyPost_ret (results_tmp2 (fn := Try.f11) (t := 2) (u := 3) rfl _ _ _) rfl HE.out
      · have k8b : (r.kind == 8) = false := by simpa using k8
        have HNV := Lib.hid (show numsW r = l.map (numQ r) from by rw [HNO.out, if_neg k8, List.append_nil])
        clear k8 HNO HO8
        obtain ⟨A4, c4, hv4, hc4, hC4⟩ := Kd.R_reads HV2.out
        subst hv4
        rw [← HNV.out] at hc4 hC4 ⊢
        have HC4 := Lib.hid hC4
        clear hC4 HV2 HOR HL3
        go_wp2_with (fail)
        refine (wputR_calls r.kind A4 c4 (numsW r) wr HC4.out hc4).mono ?_
        rintro e w6 hE
        have HE := Lib.hid (hE.lower HB.out)
        obtain ⟨v6, rfl, -⟩ := hE
        clear hc4
        go_wp2_with (fail)
        exact bodyPost_ret (results_tmp2 (fn := Try.f11) (t := 2) (u := 3) rfl _ _ _) rfl HE.out
set_option maxRecDepth 100000 in
set_option maxHeartbeats 32000000 in
theorem wPut_other (r : Rq) (hk : kindW r.kind) (hp : plainW r ≠ r) (w : World) :
    Calls Try.prog 11 #[.agg (cellsQ r)] w (PutEndR ([], false) w) := by
  have HK := Lib.hid hk
  have hkk := plainW_kind r
  have HPC := Lib.hid (fun W => plain_calls r hk W)
  have hne : ∀ p : Rq, p = plainW r → p ≠ r := fun p h => by rw [h]; exact hp
  have HNE := Lib.hid (hne _ rfl)
  generalize plainW r = p at *
  clear hk hp hne
  by_cases e_sub : p.sub = r.sub
  · skip
    by_cases e_addr : p.addr = r.addr
    · skip
      by_cases e_blk : p.blk = r.blk
      · skip
        by_cases e_n : p.n = r.n
        · skip
          by_cases e_q : p.q = r.q
          · skip
            by_cases e_i : p.i = r.i
            · skip
              by_cases e_h : p.h = r.h
              · skip
                by_cases e_pair : p.pair = r.pair
                · skip
                  exact absurd (show p = r by cases p; cases r; simp only [Rq.mk.injEq] at *; exact ⟨hkk, e_sub, e_addr, e_blk, e_n, e_q, e_i, e_h, e_pair⟩) HNE.out
                · skip
                  have b_pair : (p.pair == r.pair) = false := by simpa using e_pair
                  go_enter Try.func11, Try.ntmps11
                  go_wp2_with (fail)
                  have q1 := QC.new w (cellsQ r)
                  have hb := below_alloc (Below.refl w.heap.size w) (.cells (cellsQ r) 25)
                  generalize w.alloc (.cells (cellsQ r) 25) = w1 at *
                  have HQ1 := Lib.hid q1
                  have HB1 := Lib.hid hb
                  clear q1 hb
                  have HSS := Lib.hid (show ∀ W, Below w1.heap.size w1 W → W.cell? ⟨w.heap.size, 0, none⟩ = some (.int .i64 r.kind) ∧ W.cell? ⟨w.heap.size, 1, none⟩ = some (.int .i64 r.sub) ∧ W.cell? ⟨w.heap.size, 2, none⟩ = some (.int .i64 r.addr) ∧ W.cell? ⟨w.heap.size, 3, none⟩ = some (.int .i64 r.blk) ∧ W.cell? ⟨w.heap.size, 4, none⟩ = some (.int .i64 r.n) ∧ W.cell? ⟨w.heap.size, 5, none⟩ = some (.int .i64 r.q) ∧ W.cell? ⟨w.heap.size, 6, none⟩ = some (.int .i64 r.i) ∧ W.cell? ⟨w.heap.size, 7, none⟩ = some (.int .i64 r.h) ∧ W.cell? ⟨w.heap.size, 8, none⟩ = some (.bool r.pair) from fun W h => (HQ1.out.below h).nine)
                  have D0 := Lib.hid (Below.refl w1.heap.size w1).drew
                  go_region_held3 (fun W => W.cell? ⟨w.heap.size, 0, none⟩ = some (.int .i64 r.kind) ∧ W.cell? ⟨w.heap.size, 1, none⟩ = some (.int .i64 r.sub) ∧ W.cell? ⟨w.heap.size, 2, none⟩ = some (.int .i64 r.addr) ∧ W.cell? ⟨w.heap.size, 3, none⟩ = some (.int .i64 r.blk) ∧ W.cell? ⟨w.heap.size, 4, none⟩ = some (.int .i64 r.n) ∧ W.cell? ⟨w.heap.size, 5, none⟩ = some (.int .i64 r.q) ∧ W.cell? ⟨w.heap.size, 6, none⟩ = some (.int .i64 r.i) ∧ W.cell? ⟨w.heap.size, 7, none⟩ = some (.int .i64 r.h) ∧ W.cell? ⟨w.heap.size, 8, none⟩ = some (.bool r.pair))
                    (first | (with_reducible exact HSS.out _ D0.out) | (with_reducible exact HSS.out _ D1.out) | (with_reducible exact HSS.out _ D2.out))
                    (first
                    | (go_at_call 23; refine (HPC.out _).mono ?_; rintro e v2 ⟨rfl, hq2⟩; have D2 := Lib.hid (below_onW hq2 D1.out))
                    | (go_at_call 22; refine (kind_calls r.kind true (decide_eq_true HK.out) _).mono ?_; rintro e v1 ⟨rfl, hq1⟩; have D1 := Lib.hid (below_onW hq1 D0.out)))
                  all_goals
                    have HB2 := Lib.hid (HB1.out.trans (D2.out.mono HB1.out.size))
                    go_wp2_with (fail)
                    exact bodyPost_ret (results_tmp2 (fn := Try.f11) (t := 2) (u := 3) rfl _ _ _) rfl (PutEndR.no HB2.out)
              · skip
                have b_h : (p.h == r.h) = false := by simpa using e_h
                go_enter Try.func11, Try.ntmps11
                go_wp2_with (fail)
                have q1 := QC.new w (cellsQ r)
                have hb := below_alloc (Below.refl w.heap.size w) (.cells (cellsQ r) 25)
                generalize w.alloc (.cells (cellsQ r) 25) = w1 at *
                have HQ1 := Lib.hid q1
                have HB1 := Lib.hid hb
                clear q1 hb
                have HSS := Lib.hid (show ∀ W, Below w1.heap.size w1 W → W.cell? ⟨w.heap.size, 0, none⟩ = some (.int .i64 r.kind) ∧ W.cell? ⟨w.heap.size, 1, none⟩ = some (.int .i64 r.sub) ∧ W.cell? ⟨w.heap.size, 2, none⟩ = some (.int .i64 r.addr) ∧ W.cell? ⟨w.heap.size, 3, none⟩ = some (.int .i64 r.blk) ∧ W.cell? ⟨w.heap.size, 4, none⟩ = some (.int .i64 r.n) ∧ W.cell? ⟨w.heap.size, 5, none⟩ = some (.int .i64 r.q) ∧ W.cell? ⟨w.heap.size, 6, none⟩ = some (.int .i64 r.i) ∧ W.cell? ⟨w.heap.size, 7, none⟩ = some (.int .i64 r.h) ∧ W.cell? ⟨w.heap.size, 8, none⟩ = some (.bool r.pair) from fun W h => (HQ1.out.below h).nine)
                have D0 := Lib.hid (Below.refl w1.heap.size w1).drew
                go_region_held3 (fun W => W.cell? ⟨w.heap.size, 0, none⟩ = some (.int .i64 r.kind) ∧ W.cell? ⟨w.heap.size, 1, none⟩ = some (.int .i64 r.sub) ∧ W.cell? ⟨w.heap.size, 2, none⟩ = some (.int .i64 r.addr) ∧ W.cell? ⟨w.heap.size, 3, none⟩ = some (.int .i64 r.blk) ∧ W.cell? ⟨w.heap.size, 4, none⟩ = some (.int .i64 r.n) ∧ W.cell? ⟨w.heap.size, 5, none⟩ = some (.int .i64 r.q) ∧ W.cell? ⟨w.heap.size, 6, none⟩ = some (.int .i64 r.i) ∧ W.cell? ⟨w.heap.size, 7, none⟩ = some (.int .i64 r.h) ∧ W.cell? ⟨w.heap.size, 8, none⟩ = some (.bool r.pair))
                  (first | (with_reducible exact HSS.out _ D0.out) | (with_reducible exact HSS.out _ D1.out) | (with_reducible exact HSS.out _ D2.out))
                  (first
                  | (go_at_call 23; refine (HPC.out _).mono ?_; rintro e v2 ⟨rfl, hq2⟩; have D2 := Lib.hid (below_onW hq2 D1.out))
                  | (go_at_call 22; refine (kind_calls r.kind true (decide_eq_true HK.out) _).mono ?_; rintro e v1 ⟨rfl, hq1⟩; have D1 := Lib.hid (below_onW hq1 D0.out)))
                all_goals
                  have HB2 := Lib.hid (HB1.out.trans (D2.out.mono HB1.out.size))
                  go_wp2_with (fail)
                  exact bodyPost_ret (results_tmp2 (fn := Try.f11) (t := 2) (u := 3) rfl _ _ _) rfl (PutEndR.no HB2.out)
            · skip
              have b_i : (p.i == r.i) = false := by simpa using e_i
              go_enter Try.func11, Try.ntmps11
              go_wp2_with (fail)
              have q1 := QC.new w (cellsQ r)
              have hb := below_alloc (Below.refl w.heap.size w) (.cells (cellsQ r) 25)
              generalize w.alloc (.cells (cellsQ r) 25) = w1 at *
              have HQ1 := Lib.hid q1
              have HB1 := Lib.hid hb
              clear q1 hb
              have HSS := Lib.hid (show ∀ W, Below w1.heap.size w1 W → W.cell? ⟨w.heap.size, 0, none⟩ = some (.int .i64 r.kind) ∧ W.cell? ⟨w.heap.size, 1, none⟩ = some (.int .i64 r.sub) ∧ W.cell? ⟨w.heap.size, 2, none⟩ = some (.int .i64 r.addr) ∧ W.cell? ⟨w.heap.size, 3, none⟩ = some (.int .i64 r.blk) ∧ W.cell? ⟨w.heap.size, 4, none⟩ = some (.int .i64 r.n) ∧ W.cell? ⟨w.heap.size, 5, none⟩ = some (.int .i64 r.q) ∧ W.cell? ⟨w.heap.size, 6, none⟩ = some (.int .i64 r.i) ∧ W.cell? ⟨w.heap.size, 7, none⟩ = some (.int .i64 r.h) ∧ W.cell? ⟨w.heap.size, 8, none⟩ = some (.bool r.pair) from fun W h => (HQ1.out.below h).nine)
              have D0 := Lib.hid (Below.refl w1.heap.size w1).drew
              go_region_held3 (fun W => W.cell? ⟨w.heap.size, 0, none⟩ = some (.int .i64 r.kind) ∧ W.cell? ⟨w.heap.size, 1, none⟩ = some (.int .i64 r.sub) ∧ W.cell? ⟨w.heap.size, 2, none⟩ = some (.int .i64 r.addr) ∧ W.cell? ⟨w.heap.size, 3, none⟩ = some (.int .i64 r.blk) ∧ W.cell? ⟨w.heap.size, 4, none⟩ = some (.int .i64 r.n) ∧ W.cell? ⟨w.heap.size, 5, none⟩ = some (.int .i64 r.q) ∧ W.cell? ⟨w.heap.size, 6, none⟩ = some (.int .i64 r.i) ∧ W.cell? ⟨w.heap.size, 7, none⟩ = some (.int .i64 r.h) ∧ W.cell? ⟨w.heap.size, 8, none⟩ = some (.bool r.pair))
                (first | (with_reducible exact HSS.out _ D0.out) | (with_reducible exact HSS.out _ D1.out) | (with_reducible exact HSS.out _ D2.out))
                (first
                | (go_at_call 23; refine (HPC.out _).mono ?_; rintro e v2 ⟨rfl, hq2⟩; have D2 := Lib.hid (below_onW hq2 D1.out))
                | (go_at_call 22; refine (kind_calls r.kind true (decide_eq_true HK.out) _).mono ?_; rintro e v1 ⟨rfl, hq1⟩; have D1 := Lib.hid (below_onW hq1 D0.out)))
              all_goals
                have HB2 := Lib.hid (HB1.out.trans (D2.out.mono HB1.out.size))
                go_wp2_with (fail)
                exact bodyPost_ret (results_tmp2 (fn := Try.f11) (t := 2) (u := 3) rfl _ _ _) rfl (PutEndR.no HB2.out)
          · skip
            have b_q : (p.q == r.q) = false := by simpa using e_q
            go_enter Try.func11, Try.ntmps11
            go_wp2_with (fail)
            have q1 := QC.new w (cellsQ r)
            have hb := below_alloc (Below.refl w.heap.size w) (.cells (cellsQ r) 25)
            generalize w.alloc (.cells (cellsQ r) 25) = w1 at *
            have HQ1 := Lib.hid q1
            have HB1 := Lib.hid hb
            clear q1 hb
            have HSS := Lib.hid (show ∀ W, Below w1.heap.size w1 W → W.cell? ⟨w.heap.size, 0, none⟩ = some (.int .i64 r.kind) ∧ W.cell? ⟨w.heap.size, 1, none⟩ = some (.int .i64 r.sub) ∧ W.cell? ⟨w.heap.size, 2, none⟩ = some (.int .i64 r.addr) ∧ W.cell? ⟨w.heap.size, 3, none⟩ = some (.int .i64 r.blk) ∧ W.cell? ⟨w.heap.size, 4, none⟩ = some (.int .i64 r.n) ∧ W.cell? ⟨w.heap.size, 5, none⟩ = some (.int .i64 r.q) ∧ W.cell? ⟨w.heap.size, 6, none⟩ = some (.int .i64 r.i) ∧ W.cell? ⟨w.heap.size, 7, none⟩ = some (.int .i64 r.h) ∧ W.cell? ⟨w.heap.size, 8, none⟩ = some (.bool r.pair) from fun W h => (HQ1.out.below h).nine)
            have D0 := Lib.hid (Below.refl w1.heap.size w1).drew
            go_region_held3 (fun W => W.cell? ⟨w.heap.size, 0, none⟩ = some (.int .i64 r.kind) ∧ W.cell? ⟨w.heap.size, 1, none⟩ = some (.int .i64 r.sub) ∧ W.cell? ⟨w.heap.size, 2, none⟩ = some (.int .i64 r.addr) ∧ W.cell? ⟨w.heap.size, 3, none⟩ = some (.int .i64 r.blk) ∧ W.cell? ⟨w.heap.size, 4, none⟩ = some (.int .i64 r.n) ∧ W.cell? ⟨w.heap.size, 5, none⟩ = some (.int .i64 r.q) ∧ W.cell? ⟨w.heap.size, 6, none⟩ = some (.int .i64 r.i) ∧ W.cell? ⟨w.heap.size, 7, none⟩ = some (.int .i64 r.h) ∧ W.cell? ⟨w.heap.size, 8, none⟩ = some (.bool r.pair))
              (first | (with_reducible exact HSS.out _ D0.out) | (with_reducible exact HSS.out _ D1.out) | (with_reducible exact HSS.out _ D2.out))
              (first
              | (go_at_call 23; refine (HPC.out _).mono ?_; rintro e v2 ⟨rfl, hq2⟩; have D2 := Lib.hid (below_onW hq2 D1.out))
              | (go_at_call 22; refine (kind_calls r.kind true (decide_eq_true HK.out) _).mono ?_; rintro e v1 ⟨rfl, hq1⟩; have D1 := Lib.hid (below_onW hq1 D0.out)))
            all_goals
              have HB2 := Lib.hid (HB1.out.trans (D2.out.mono HB1.out.size))
              go_wp2_with (fail)
              exact bodyPost_ret (results_tmp2 (fn := Try.f11) (t := 2) (u := 3) rfl _ _ _) rfl (PutEndR.no HB2.out)
        · skip
          have b_n : (p.n == r.n) = false := by simpa using e_n
          go_enter Try.func11, Try.ntmps11
          go_wp2_with (fail)
          have q1 := QC.new w (cellsQ r)
          have hb := below_alloc (Below.refl w.heap.size w) (.cells (cellsQ r) 25)
          generalize w.alloc (.cells (cellsQ r) 25) = w1 at *
          have HQ1 := Lib.hid q1
          have HB1 := Lib.hid hb
          clear q1 hb
          have HSS := Lib.hid (show ∀ W, Below w1.heap.size w1 W → W.cell? ⟨w.heap.size, 0, none⟩ = some (.int .i64 r.kind) ∧ W.cell? ⟨w.heap.size, 1, none⟩ = some (.int .i64 r.sub) ∧ W.cell? ⟨w.heap.size, 2, none⟩ = some (.int .i64 r.addr) ∧ W.cell? ⟨w.heap.size, 3, none⟩ = some (.int .i64 r.blk) ∧ W.cell? ⟨w.heap.size, 4, none⟩ = some (.int .i64 r.n) ∧ W.cell? ⟨w.heap.size, 5, none⟩ = some (.int .i64 r.q) ∧ W.cell? ⟨w.heap.size, 6, none⟩ = some (.int .i64 r.i) ∧ W.cell? ⟨w.heap.size, 7, none⟩ = some (.int .i64 r.h) ∧ W.cell? ⟨w.heap.size, 8, none⟩ = some (.bool r.pair) from fun W h => (HQ1.out.below h).nine)
          have D0 := Lib.hid (Below.refl w1.heap.size w1).drew
          go_region_held3 (fun W => W.cell? ⟨w.heap.size, 0, none⟩ = some (.int .i64 r.kind) ∧ W.cell? ⟨w.heap.size, 1, none⟩ = some (.int .i64 r.sub) ∧ W.cell? ⟨w.heap.size, 2, none⟩ = some (.int .i64 r.addr) ∧ W.cell? ⟨w.heap.size, 3, none⟩ = some (.int .i64 r.blk) ∧ W.cell? ⟨w.heap.size, 4, none⟩ = some (.int .i64 r.n) ∧ W.cell? ⟨w.heap.size, 5, none⟩ = some (.int .i64 r.q) ∧ W.cell? ⟨w.heap.size, 6, none⟩ = some (.int .i64 r.i) ∧ W.cell? ⟨w.heap.size, 7, none⟩ = some (.int .i64 r.h) ∧ W.cell? ⟨w.heap.size, 8, none⟩ = some (.bool r.pair))
            (first | (with_reducible exact HSS.out _ D0.out) | (with_reducible exact HSS.out _ D1.out) | (with_reducible exact HSS.out _ D2.out))
            (first
            | (go_at_call 23; refine (HPC.out _).mono ?_; rintro e v2 ⟨rfl, hq2⟩; have D2 := Lib.hid (below_onW hq2 D1.out))
            | (go_at_call 22; refine (kind_calls r.kind true (decide_eq_true HK.out) _).mono ?_; rintro e v1 ⟨rfl, hq1⟩; have D1 := Lib.hid (below_onW hq1 D0.out)))
          all_goals
            have HB2 := Lib.hid (HB1.out.trans (D2.out.mono HB1.out.size))
            go_wp2_with (fail)
            exact bodyPost_ret (results_tmp2 (fn := Try.f11) (t := 2) (u := 3) rfl _ _ _) rfl (PutEndR.no HB2.out)
      · skip
        have b_blk : (p.blk == r.blk) = false := by simpa using e_blk
        go_enter Try.func11, Try.ntmps11
        go_wp2_with (fail)
        have q1 := QC.new w (cellsQ r)
        have hb := below_alloc (Below.refl w.heap.size w) (.cells (cellsQ r) 25)
        generalize w.alloc (.cells (cellsQ r) 25) = w1 at *
        have HQ1 := Lib.hid q1
        have HB1 := Lib.hid hb
        clear q1 hb
        have HSS := Lib.hid (show ∀ W, Below w1.heap.size w1 W → W.cell? ⟨w.heap.size, 0, none⟩ = some (.int .i64 r.kind) ∧ W.cell? ⟨w.heap.size, 1, none⟩ = some (.int .i64 r.sub) ∧ W.cell? ⟨w.heap.size, 2, none⟩ = some (.int .i64 r.addr) ∧ W.cell? ⟨w.heap.size, 3, none⟩ = some (.int .i64 r.blk) ∧ W.cell? ⟨w.heap.size, 4, none⟩ = some (.int .i64 r.n) ∧ W.cell? ⟨w.heap.size, 5, none⟩ = some (.int .i64 r.q) ∧ W.cell? ⟨w.heap.size, 6, none⟩ = some (.int .i64 r.i) ∧ W.cell? ⟨w.heap.size, 7, none⟩ = some (.int .i64 r.h) ∧ W.cell? ⟨w.heap.size, 8, none⟩ = some (.bool r.pair) from fun W h => (HQ1.out.below h).nine)
        have D0 := Lib.hid (Below.refl w1.heap.size w1).drew
        go_region_held3 (fun W => W.cell? ⟨w.heap.size, 0, none⟩ = some (.int .i64 r.kind) ∧ W.cell? ⟨w.heap.size, 1, none⟩ = some (.int .i64 r.sub) ∧ W.cell? ⟨w.heap.size, 2, none⟩ = some (.int .i64 r.addr) ∧ W.cell? ⟨w.heap.size, 3, none⟩ = some (.int .i64 r.blk) ∧ W.cell? ⟨w.heap.size, 4, none⟩ = some (.int .i64 r.n) ∧ W.cell? ⟨w.heap.size, 5, none⟩ = some (.int .i64 r.q) ∧ W.cell? ⟨w.heap.size, 6, none⟩ = some (.int .i64 r.i) ∧ W.cell? ⟨w.heap.size, 7, none⟩ = some (.int .i64 r.h) ∧ W.cell? ⟨w.heap.size, 8, none⟩ = some (.bool r.pair))
          (first | (with_reducible exact HSS.out _ D0.out) | (with_reducible exact HSS.out _ D1.out) | (with_reducible exact HSS.out _ D2.out))
          (first
          | (go_at_call 23; refine (HPC.out _).mono ?_; rintro e v2 ⟨rfl, hq2⟩; have D2 := Lib.hid (below_onW hq2 D1.out))
          | (go_at_call 22; refine (kind_calls r.kind true (decide_eq_true HK.out) _).mono ?_; rintro e v1 ⟨rfl, hq1⟩; have D1 := Lib.hid (below_onW hq1 D0.out)))
        all_goals
          have HB2 := Lib.hid (HB1.out.trans (D2.out.mono HB1.out.size))
          go_wp2_with (fail)
          exact bodyPost_ret (results_tmp2 (fn := Try.f11) (t := 2) (u := 3) rfl _ _ _) rfl (PutEndR.no HB2.out)
    · skip
      have b_addr : (p.addr == r.addr) = false := by simpa using e_addr
      go_enter Try.func11, Try.ntmps11
      go_wp2_with (fail)
      have q1 := QC.new w (cellsQ r)
      have hb := below_alloc (Below.refl w.heap.size w) (.cells (cellsQ r) 25)
      generalize w.alloc (.cells (cellsQ r) 25) = w1 at *
      have HQ1 := Lib.hid q1
      have HB1 := Lib.hid hb
      clear q1 hb
      have HSS := Lib.hid (show ∀ W, Below w1.heap.size w1 W → W.cell? ⟨w.heap.size, 0, none⟩ = some (.int .i64 r.kind) ∧ W.cell? ⟨w.heap.size, 1, none⟩ = some (.int .i64 r.sub) ∧ W.cell? ⟨w.heap.size, 2, none⟩ = some (.int .i64 r.addr) ∧ W.cell? ⟨w.heap.size, 3, none⟩ = some (.int .i64 r.blk) ∧ W.cell? ⟨w.heap.size, 4, none⟩ = some (.int .i64 r.n) ∧ W.cell? ⟨w.heap.size, 5, none⟩ = some (.int .i64 r.q) ∧ W.cell? ⟨w.heap.size, 6, none⟩ = some (.int .i64 r.i) ∧ W.cell? ⟨w.heap.size, 7, none⟩ = some (.int .i64 r.h) ∧ W.cell? ⟨w.heap.size, 8, none⟩ = some (.bool r.pair) from fun W h => (HQ1.out.below h).nine)
      have D0 := Lib.hid (Below.refl w1.heap.size w1).drew
      go_region_held3 (fun W => W.cell? ⟨w.heap.size, 0, none⟩ = some (.int .i64 r.kind) ∧ W.cell? ⟨w.heap.size, 1, none⟩ = some (.int .i64 r.sub) ∧ W.cell? ⟨w.heap.size, 2, none⟩ = some (.int .i64 r.addr) ∧ W.cell? ⟨w.heap.size, 3, none⟩ = some (.int .i64 r.blk) ∧ W.cell? ⟨w.heap.size, 4, none⟩ = some (.int .i64 r.n) ∧ W.cell? ⟨w.heap.size, 5, none⟩ = some (.int .i64 r.q) ∧ W.cell? ⟨w.heap.size, 6, none⟩ = some (.int .i64 r.i) ∧ W.cell? ⟨w.heap.size, 7, none⟩ = some (.int .i64 r.h) ∧ W.cell? ⟨w.heap.size, 8, none⟩ = some (.bool r.pair))
        (first | (with_reducible exact HSS.out _ D0.out) | (with_reducible exact HSS.out _ D1.out) | (with_reducible exact HSS.out _ D2.out))
        (first
        | (go_at_call 23; refine (HPC.out _).mono ?_; rintro e v2 ⟨rfl, hq2⟩; have D2 := Lib.hid (below_onW hq2 D1.out))
        | (go_at_call 22; refine (kind_calls r.kind true (decide_eq_true HK.out) _).mono ?_; rintro e v1 ⟨rfl, hq1⟩; have D1 := Lib.hid (below_onW hq1 D0.out)))
      all_goals
        have HB2 := Lib.hid (HB1.out.trans (D2.out.mono HB1.out.size))
        go_wp2_with (fail)
        exact bodyPost_ret (results_tmp2 (fn := Try.f11) (t := 2) (u := 3) rfl _ _ _) rfl (PutEndR.no HB2.out)
  · skip
    have b_sub : (p.sub == r.sub) = false := by simpa using e_sub
    go_enter Try.func11, Try.ntmps11
    go_wp2_with (fail)
    have q1 := QC.new w (cellsQ r)
    have hb := below_alloc (Below.refl w.heap.size w) (.cells (cellsQ r) 25)
    generalize w.alloc (.cells (cellsQ r) 25) = w1 at *
    have HQ1 := Lib.hid q1
    have HB1 := Lib.hid hb
    clear q1 hb
    have HSS := Lib.hid (show ∀ W, Below w1.heap.size w1 W → W.cell? ⟨w.heap.size, 0, none⟩ = some (.int .i64 r.kind) ∧ W.cell? ⟨w.heap.size, 1, none⟩ = some (.int .i64 r.sub) ∧ W.cell? ⟨w.heap.size, 2, none⟩ = some (.int .i64 r.addr) ∧ W.cell? ⟨w.heap.size, 3, none⟩ = some (.int .i64 r.blk) ∧ W.cell? ⟨w.heap.size, 4, none⟩ = some (.int .i64 r.n) ∧ W.cell? ⟨w.heap.size, 5, none⟩ = some (.int .i64 r.q) ∧ W.cell? ⟨w.heap.size, 6, none⟩ = some (.int .i64 r.i) ∧ W.cell? ⟨w.heap.size, 7, none⟩ = some (.int .i64 r.h) ∧ W.cell? ⟨w.heap.size, 8, none⟩ = some (.bool r.pair) from fun W h => (HQ1.out.below h).nine)
    have D0 := Lib.hid (Below.refl w1.heap.size w1).drew
    go_region_held3 (fun W => W.cell? ⟨w.heap.size, 0, none⟩ = some (.int .i64 r.kind) ∧ W.cell? ⟨w.heap.size, 1, none⟩ = some (.int .i64 r.sub) ∧ W.cell? ⟨w.heap.size, 2, none⟩ = some (.int .i64 r.addr) ∧ W.cell? ⟨w.heap.size, 3, none⟩ = some (.int .i64 r.blk) ∧ W.cell? ⟨w.heap.size, 4, none⟩ = some (.int .i64 r.n) ∧ W.cell? ⟨w.heap.size, 5, none⟩ = some (.int .i64 r.q) ∧ W.cell? ⟨w.heap.size, 6, none⟩ = some (.int .i64 r.i) ∧ W.cell? ⟨w.heap.size, 7, none⟩ = some (.int .i64 r.h) ∧ W.cell? ⟨w.heap.size, 8, none⟩ = some (.bool r.pair))
      (first | (with_reducible exact HSS.out _ D0.out) | (with_reducible exact HSS.out _ D1.out) | (with_reducible exact HSS.out _ D2.out))
      (first
      | (go_at_call 23; refine (HPC.out _).mono ?_; rintro e v2 ⟨rfl, hq2⟩; have D2 := Lib.hid (below_onW hq2 D1.out))
      | (go_at_call 22; refine (kind_calls r.kind true (decide_eq_true HK.out) _).mono ?_; rintro e v1 ⟨rfl, hq1⟩; have D1 := Lib.hid (below_onW hq1 D0.out)))
    all_goals
      have HB2 := Lib.hid (HB1.out.trans (D2.out.mono HB1.out.size))
      go_wp2_with (fail)
      exact bodyPost_ret (results_tmp2 (fn := Try.f11) (t := 2) (u := 3) rfl _ _ _) rfl (PutEndR.no HB2.out)
set_option maxRecDepth 100000 in
set_option maxHeartbeats 8000000 in
theorem wPut_kind (r : Rq) (hk : ¬ kindW r.kind) (w : World) :
    Calls Try.prog 11 #[.agg (cellsQ r)] w (PutEndR ([], false) w) := by
  have HK := Lib.hid (show B.wire_kind.f r.kind = some false from by rw [kind_tells, decide_eq_false hk])
  clear hk
  go_enter Try.func11, Try.ntmps11
  go_wp2_with (fail)
  have q1 := QC.new w (cellsQ r)
  have hb := below_alloc (Below.refl w.heap.size w) (.cells (cellsQ r) 25)
  generalize w.alloc (.cells (cellsQ r) 25) = w1 at *
  have HB1 := Lib.hid hb
  have x0 := q1.nine.1
  clear q1 hb
  go_wp2_with (fail)
  go_quiet ((go_at_call 22; exact Calls.quiet_of ((B.wire_kind.calls r.kind false _ HK.out).mono fun _ _ h => ⟨h.1, h.2.out⟩)))
  all_goals
    go_wp2_with (fail)
    exact bodyPost_ret (results_tmp2 (fn := Try.f11) (t := 2) (u := 3) rfl _ _ _) rfl (PutEndR.no (pw_below_drewN HB1.out _))
/-- Put. -/
theorem wPutR_calls (r : Rq) (w : World) : Calls Try.prog 11 #[.agg (cellsQ r)] w (PutEndR (wPut r) w) := by
  unfold wPut
  by_cases hk : kindW r.kind
  · by_cases hp : plainW r = r
    · rw [if_pos ⟨hk, hp⟩]; exact wPut_yes r hk hp w
    · rw [if_neg (fun h => hp h.2)]; exact wPut_other r hk hp w
  · rw [if_neg (fun h => hk h.1)]; exact wPut_kind r hk w
theorem wPut_calls (r : Rq) (w : World) : Calls Try.prog 11 #[.agg (cellsQ r)] w (PutEnd (wPut r) w) := (wPutR_calls r w).mono fun _ _ h => h.to
end Go.Proofs.Ytiopafdndlodoaa.H

/-! Layer 19: what bytes ask. -/
namespace Go.Proofs.Ytiopafdndlodoaa.H
open Go.RowKit Moor Go.Proofs.YtiopafdndlodoaaW.PrintWords Go.Proofs.YtiopafdndlodoaaW.PrintLast Go.Proofs.YtiopafdndlodoaaW.PrintMore
set_option linter.unusedVariables false
set_option linter.unusedSimpArgs false

theorem fill_any (r : Rq) (p' : Bool) (hk : kindW r.kind) : fillQ (numQ r) (cellsQ ⟨r.kind, 0, 0, 0, 0, 0, 0, 0, p'⟩) (offsW r.kind) = cellsQ { plainW r with pair := p' } := by
  cases r with | mk k s a b n q i hh p =>
  unfold kindW at hk
  unfold offsW plainW
  simp only at *
  by_cases k0 : k = 0
  · subst k0; rfl
  · rw [if_neg k0, if_neg k0]
    by_cases k1 : k = 1 ∨ k = 2
    · rw [if_pos k1, if_pos k1]; rfl
    · rw [if_neg k1, if_neg k1]
      by_cases k2 : k = 3 ∨ k = 5 ∨ k = 7
      · rw [if_pos k2, if_pos k2]; rfl
      · rw [if_neg k2, if_neg k2]
        by_cases k3 : k = 4 ∨ k = 6
        · rw [if_pos k3, if_pos k3]; rfl
        · rw [if_neg k3, if_neg k3]
          by_cases k4 : k = 9
          · subst k4; rfl
          · rw [if_neg k4, if_neg k4]; rfl
theorem fill_made (r : Rq) (hk : kindW r.kind) (hp : plainW r = r) : fillQ (numQ r) (cellsQ ⟨r.kind, 0, 0, 0, 0, 0, 0, 0, r.pair⟩) (offsW r.kind) = cellsQ r := by
  rw [fill_any r r.pair hk, hp]
theorem made_len {k : Int} {l : List Int} (hk : kindW k) (k8 : k ≠ 8) (h : l.length = (offsW k).length) : ∃ r, madeW k l = some r := by
  unfold kindW at hk
  unfold offsW at h
  unfold madeW
  by_cases k0 : k = 0
  · rw [if_pos k0] at h ⊢
    match l, h with
    | [a], _ => exact ⟨_, rfl⟩
  · rw [if_neg k0] at h ⊢
    by_cases k1 : k = 1 ∨ k = 2
    · rw [if_pos k1] at h ⊢
      match l, h with
      | [a, b, c], _ => exact ⟨_, rfl⟩
    · rw [if_neg k1] at h ⊢
      by_cases k2 : k = 3 ∨ k = 5 ∨ k = 7
      · rw [if_pos k2] at h ⊢
        match l, h with
        | [a], _ => exact ⟨_, rfl⟩
      · rw [if_neg k2] at h ⊢
        by_cases k3 : k = 4 ∨ k = 6
        · rw [if_pos k3] at h ⊢
          match l, h with
          | [a, b], _ => exact ⟨_, rfl⟩
        · rw [if_neg k3] at h ⊢
          by_cases k4 : k = 9
          · rw [if_pos k4] at h ⊢
            match l, h with
            | [a, b, c], _ => exact ⟨_, rfl⟩
          · omega
theorem made_eight (l : List Int) : madeW 8 l = match l with
    | [q, i, h, p] => if p > 1 then none else some ⟨8, 0, 0, 0, 0, q, i, h, p == 1⟩
    | _ => none := rfl
theorem made_nums8 {k : Int} {l : List Int} {r : Rq} (hk : kindW k) (k8 : k ≠ 8) (hl : ∀ x ∈ l, mayN x) (h : madeW k l = some r) : l = (offsW k).map (numQ r) ∧ r.pair = false ∧ r.kind = k ∧ plainW r = r := by
  have h1 := madeW_kind h
  obtain ⟨h2, h3⟩ := madeW_plain hk hl h
  have h4 := nums_offs r (by rw [h1]; exact hk)
  have h5 := plainW_pair r (by rw [h1]; exact hk)
  rw [h1, if_neg k8, List.append_nil] at h4
  rw [h2, h1, if_neg k8] at h5
  exact ⟨by rw [← h3, h4], h5, h1, h2⟩
theorem results_QE {fn : Func} {p t : Tmp} (h : fn.results = #[.cell p 25, .tmp t]) (tmps : Array Value) (w : World) (g : Nat) (cs : Array Value) (hs : cs.size = 9) (hp : tmps.getD p undef = .pointer (some ⟨g, 0, none⟩)) (hb : QC w g cs) :
    (results fn tmps).run Try.prog w = .ok (.tuple #[.agg cs, tmps.getD t undef]) w := by
  have hl := run_loadVar_mid (P := Try.prog) w g 0 25 cs.toList _ (fun j v hj => by
    rw [Nat.zero_add, hb.c j]
    simpa using hj) Try.underlying25 rfl (by simpa [hs] using infoQ)
  have hp' : tmps[p]?.getD undef = .pointer (some ⟨g, 0, none⟩) := by simpa using hp
  simp [results, h, hp', asAddr, hl]
/-- What is asked, and why not. -/
def ReadWEnd (r : Rq × Int) (w : World) (e : Ending) (w' : World) : Prop := e = .returned (.tuple #[.agg (cellsQ r.1), .int .i64 r.2]) ∧ Below w.heap.size w w'
theorem getW_may (b : List Int) (ho : okB b) : ∀ x ∈ (getW b).2.1, mayN x := by
  rcases getW_cases b ho with ⟨-, -, h, -⟩ | ⟨-, -, h⟩
  · exact h
  · rw [h]; intro x hx; cases hx
theorem add_posW (ad : Addr) (j : Nat) (h : 0 < j) : ad.add j = ⟨ad.block, ad.off + j, none⟩ := by
  have q := add_field ad 0 j h
  rw [Nat.zero_add, add_zeroR] at q
  exact q
theorem set8_Q (k : Int) (b b' : Bool) : (cellsQ ⟨k, 0, 0, 0, 0, 0, 0, 0, b⟩).setIfInBounds 8 (.bool b') = cellsQ ⟨k, 0, 0, 0, 0, 0, 0, 0, b'⟩ := rfl
theorem takeI (A : Option Addr) (c : Nat) (l : List Int) (K : Nat) (hK : K ≤ l.length) (hc : l.length ≤ c) : (∀ W : World, (Instr.slice 52 (.slice A l.length c) none (some (.int .i64 (K : Int))) none).run Try.prog W = .ok (.slice A K c) W) ∧ ∀ w : World, Kd.C (Kd.int .i64) w A l.length l → Kd.C (Kd.int .i64) w A (l.take K).length (l.take K) := by
  obtain ⟨i0, hi, hz0, hz1, hz2⟩ := info_parts infoI
  exact ⟨fun W => cut_to 52 3 .i64 Try.underlying52 hi A l.length c (K : Int) (by omega) (by omega) hc W, fun w h => Kd.C_take h hK⟩
theorem I_other {w w' : World} {A : Option Addr} {l : List Int} {row : Option Nat} (h : Kd.C (Kd.int .i64) w A l.length l) (hg : w.grownBy w' row) (hne : ∀ ad, A = some ad → some ad.block ≠ row) : Kd.C (Kd.int .i64) w' A l.length l := by
  refine ⟨h.1, h.2.1, fun hn => ?_⟩
  obtain ⟨ad, e, hc⟩ := h.2.2 hn
  refine ⟨ad, e, fun j q hj => ?_⟩
  obtain ⟨c, hs, hK, hcell⟩ := hc j q hj
  exact ⟨c, hs, hK, fun i u hu => hg.cell (hcell i u hu) (by rw [add_blockR]; exact hne ad e)⟩
set_option maxRecDepth 100000 in
set_option maxHeartbeats 32000000 in
theorem wread_calls (A : Option Addr) (c : Nat) (b : List Int) (w : World) (hR : Kd.C (Kd.int .u8) w A b.length b) (hc : b.length ≤ c) (ho : okB b) (hl : b.length ≤ 140737488355328) :
    Calls Try.prog 13 #[.slice A b.length c] w (ReadWEnd (wRead b) w) := by
  have HR := Lib.hid hR
  have HP := Lib.hid (show wRead b = if (getW b).2.2 ≠ 0 then (r0, (getW b).2.2) else if kindW (getW b).1 then (match madeW (getW b).1 (getW b).2.1 with
    | some r => (r, 0)
    | none => (r0, 2)) else (r0, 2) from rfl)
  have HMY := Lib.hid (getW_may b ho)
  clear hR
  generalize wRead b = res at *
  go_enter Try.func13, Try.ntmps13
  go_wp2_with (fail)
  have hA := QC.new w zQ
  have hb := below_alloc (Below.refl w.heap.size w) (.cells zQ 25)
  refine (wget_calls A c b _ (Kd.C_alloc HR.out _) hc ho hl).mono ?_
  rintro e w1 ⟨A1, c1, rfl, hc1, hC1, hn1, hb1⟩
  have HA := Lib.hid (hA.below hb1)
  have HN1 := Lib.hid (show ∀ ad, A1 = some ad → w.heap.size < ad.block from fun ad e => by have := hn1 ad e; rw [World.size_alloc] at this; omega)
  clear hn1
  have HB1 := Lib.hid (hb.trans (hb1.mono hb.size))
  have HC1 := Lib.hid hC1
  clear hA hb hb1 hC1
  generalize getW b = g at *
  obtain ⟨k, l, er⟩ := g
  dsimp only at *
  by_cases h0 : er = 0
  · skip
    subst h0
    have HZ := Lib.hid (HP.out.trans (if_neg (by simp)))
    clear HP
    go_wp2_with (fail)
    by_cases hk : kindW k
    · skip
      refine (kind_calls k true (decide_eq_true hk) _).mono ?_
      rintro e w2 ⟨rfl, hb2⟩
      have HY := Lib.hid (HZ.out.trans (if_pos hk))
      have HA2 := Lib.hid (HA.out.below hb2)
      have HB2 := Lib.hid (HB1.out.trans (hb2.mono HB1.out.size))
      have HC2 := Lib.hid (Kd.C_below HC1.out hb2)
      have HK := Lib.hid hk
      clear HZ hk hb2 HA HB1 HC1
      go_wp2_with (fail)
      have q1 := QC.new w2 (cellsQ ⟨k, 0, 0, 0, 0, 0, 0, 0, false⟩)
      have hba := below_alloc (Below.refl w2.heap.size w2) (.cells (cellsQ ⟨k, 0, 0, 0, 0, 0, 0, 0, false⟩) 25)
      have hsz : (w2.alloc (.cells (cellsQ ⟨k, 0, 0, 0, 0, 0, 0, 0, false⟩) 25)).heap.size = w2.heap.size + 1 := World.size_alloc _ _
      refine (fields_calls w2.heap.size ⟨k, 0, 0, 0, 0, 0, 0, 0, false⟩ HK.out (cellsQ ⟨k, 0, 0, 0, 0, 0, 0, 0, false⟩) rfl _ q1).mono ?_
      rintro e w3 ⟨A3, c3, rfl, hc3, hC3, hn3, hb3⟩
      dsimp only at hc3 hC3 ⊢
      have HQ3 := Lib.hid (q1.below hb3)
      have HA3 := Lib.hid ((HA2.out.below hba).below hb3)
      have HB3 := Lib.hid ((HB2.out.trans (hba.mono HB2.out.size)).trans (hb3.mono (Nat.le_trans HB2.out.size hba.size)))
      have HC3 := Lib.hid hC3
      have HL3 := Lib.hid (Kd.C_below (Kd.C_below HC2.out hba) hb3)
      have HN3 := Lib.hid (show ∀ ad, A3 = some ad → w2.heap.size < ad.block from fun ad e => by have := hn3 ad e; rw [hsz] at this; omega)
      have HLB := Lib.hid (show 0 < l.length → ∀ ad, A1 = some ad → ad.block < w2.heap.size from fun h ad e => by
        obtain ⟨ad', e', y⟩ := cell_I HC2.out 0 h
        rw [e] at e'
        cases e'
        have := World.block_lt_of_cell? _ _ y
        rw [add_zeroR] at this
        exact this)
      have HBX := Lib.hid (show w.heap.size < w2.heap.size from HA2.out.lt)
      clear q1 hba hsz hC3 hn3 hb3 HA2 HB2 HC2
      have HO3 := Lib.hid (offsW_len k)
      have HOR := Lib.hid (fun j h => offs_get (k := k) j h)
      obtain ⟨zc0, zc1, zc2, zc3, zc4, zc5, zc6, zc7, zc8⟩ := HA3.out.nine
      have zf0 := HA3.out.f 0
      have zf1 := HA3.out.f 1
      have zf2 := HA3.out.f 2
      have zf3 := HA3.out.f 3
      have zf4 := HA3.out.f 4
      have zf5 := HA3.out.f 5
      have zf6 := HA3.out.f 6
      have zf7 := HA3.out.f 7
      have zf8 := HA3.out.f 8
      by_cases k8 : k = 8
      · skip
        subst k8
        obtain ⟨of, hof⟩ : ∃ of, offsW 8 = of := ⟨_, rfl⟩
        have hof3 : of = [5, 6, 7] := by rw [← hof]; rfl
        rw [hof] at hc3 HC3 HO3 HOR ⊢
        have hofl : of.length = 3 := by rw [hof3]; rfl
        by_cases h4 : l.length = 4
        · skip
          match l, h4 with
          | [q, i, h, p], _ =>
            obtain ⟨ad, hA1, y3⟩ := cell_I HL3.out 3 (show 3 < 4 by decide)
            subst hA1
            have hne1 : ¬ w.heap.size = w2.heap.size := by have := HBX.out; omega
            have hne2 : ¬ w2.heap.size = w.heap.size := by have := HBX.out; omega
            have y3 : w3.cell? (ad.add 3) = some (.int .i64 p) := y3
            rw [add_posW ad 3 (by decide)] at y3
            obtain ⟨v8, y8⟩ := HQ3.out.some 8 (by decide)
            have f8 := HQ3.out.f 8
            have HOF := Lib.hid hof3
            have HOE := Lib.hid hof
            clear hof hof3
            have HOL := Lib.hid hofl
            rw [hofl] at hc3 ⊢
            clear hofl
            by_cases hp : p > 1
            · skip
              have HX := Lib.hid (show res = (r0, 2) from by rw [HY.out, made_eight]; simp only; rw [if_pos hp])
              have HA4 := Lib.hid (HA3.out.other (B1 := w2.heap.size) (by have := HBX.out; omega) 8 (.bool (p == 1)))
              have HB4 := Lib.hid (HB3.out.setCell (p := ⟨w2.heap.size, 8, none⟩) (by show w.heap.size ≤ w2.heap.size; have := HBX.out; omega) (.bool (p == 1)))
              go_wp2_with (fail)
              refine bodyPost_ret (results_QE (p := 2) (t := 3) rfl _ _ w.heap.size zQ rfl rfl (HA4.out.set9 rfl (.int .i64 0) (.int .i64 0) (.int .i64 0) (.int .i64 0) (.int .i64 0) (.int .i64 0) (.int .i64 0) (.int .i64 0) (.bool false))) rfl ?_
              rw [HX.out]
              exact ⟨rfl, S9_below HB4.out (Nat.le_refl _) _ _ _ _ _ _ _ _ _⟩
            · skip
              have HX := Lib.hid (show res = (⟨8, 0, 0, 0, 0, q, i, h, p == 1⟩, 0) from by rw [HY.out, made_eight]; simp only; rw [if_neg hp])
              have HA4 := Lib.hid (HA3.out.other (B1 := w2.heap.size) (by have := HBX.out; omega) 8 (.bool (p == 1)))
              have HB4 := Lib.hid (HB3.out.setCell (p := ⟨w2.heap.size, 8, none⟩) (by show w.heap.size ≤ w2.heap.size; have := HBX.out; omega) (.bool (p == 1)))
              have hq4 := HQ3.out.set 8 (.bool (p == 1))
              rw [set8_Q] at hq4
              have HQ4 := Lib.hid hq4
              clear hq4
              have g8 := Lib.grownBy_setCell w3 w2.heap.size 8 (.bool (p == 1))
              have HC4 := Lib.hid (P_other HC3.out g8 (fun ad e e2 => by have := HN3.out ad e; have := Option.some.inj e2; omega))
              obtain ⟨t1, t2⟩ := takeI (some ad) c1 [q, i, h, p] 3 (show 3 ≤ 4 by decide) hc1
              have t1 : ∀ W : World, (Instr.slice 52 (.slice (some ad) 4 c1) none (some (.int .i64 3)) none).run Try.prog W = .ok (.slice (some ad) 3 c1) W := t1
              have HLB2 := Lib.hid (show ∀ ad', some ad = some ad' → ad'.block < w2.heap.size from HLB.out (show 0 < 4 by decide))
              have HL4 := Lib.hid (show Kd.C (Kd.int .i64) (w3.setCell ⟨w2.heap.size, 8, none⟩ (.bool (p == 1))) (some ad) (of.map (numQ ⟨8, 0, 0, 0, 0, q, i, h, p == 1⟩)).length (of.map (numQ ⟨8, 0, 0, 0, 0, q, i, h, p == 1⟩)) from by
  rw [HOF.out]
  exact t2 _ (I_other HL3.out g8 (fun ad e e2 => by have := HLB2.out ad e; have := Option.some.inj e2; omega)))
              have HFM := Lib.hid (show fillQ (numQ ⟨8, 0, 0, 0, 0, q, i, h, p == 1⟩) (cellsQ ⟨8, 0, 0, 0, 0, 0, 0, 0, p == 1⟩) of = cellsQ ⟨8, 0, 0, 0, 0, q, i, h, p == 1⟩ from by rw [HOF.out]; rfl)
              clear g8 t2 HLB HQ3 HC3 HL3
              have HLB := HLB2
              go_wp2_with (fail)
              skip
              clear zc0 zf0 zc1 zf1 zc2 zf2 zc3 zf3 zc4 zf4 zc5 zf5 zc6 zf6 zc7 zf7 zc8 zf8
              go_loopw [67] (fun ii wr => ∃ j : Nat, j ≤ 3 ∧ ii = .int .i64 (j : Int) ∧ Hid (QC wr w.heap.size zQ) ∧ Hid (QC wr w2.heap.size (fillQ (numQ (⟨8, 0, 0, 0, 0, q, i, h, p == 1⟩ : Rq)) (cellsQ ⟨8, 0, 0, 0, 0, 0, 0, 0, p == 1⟩) (of.take j))) ∧ Hid (Kd.C (kP w2.heap.size) wr A3 of.length of) ∧ Hid (Kd.C (Kd.int .i64) wr (some ad) (of.map (numQ (⟨8, 0, 0, 0, 0, q, i, h, p == 1⟩ : Rq))).length (of.map (numQ (⟨8, 0, 0, 0, 0, q, i, h, p == 1⟩ : Rq)))) ∧ Hid (Below w.heap.size w wr)) (fun ii _ => 3 - (intOf ii).toNat)
              case atStart => exact ⟨0, Nat.zero_le _, rfl, HA4, HQ4, HC4, HL4, HB4⟩
              case round =>
                obtain ⟨j, hj, rfl, P1, P2, E1, E2, HB⟩ := hrel
                by_cases hlt : j < 3
                · skip
                  have hlo : j < of.length := by have := HOL.out; omega
                  obtain ⟨ad1, rfl, y1⟩ := cell_P E1.out j hlo
                  obtain ⟨ad2, ea2, y2⟩ := cell_I E2.out j (by rw [List.length_map]; exact hlo)
                  cases ea2
                  rw [List.getElem_map] at y2
                  have ho := HOR.out j hlo
                  have y4 := P2.out.f of[j]
                  obtain ⟨v5, y5⟩ := P2.out.some of[j] (by rw [fillQ_size]; show _ < 9; omega)
                  have hlti : (j : Int) < (3 : Int) := by omega
                  have hl9 : 3 ≤ 3 := by have := HO3.out.2; have := HOL.out; omega
                  have HTS := Lib.hid (take_snocN of j hlo)
                  generalize hoo : of[j] = oo at *
                  clear hoo ho hlo
                  go_wp2_with (fail)
                  go_roundw
                  case rel =>
                    have g := Lib.grownBy_setCell wr w2.heap.size oo (.int .i64 (numQ (⟨8, 0, 0, 0, 0, q, i, h, p == 1⟩ : Rq) oo))
                    refine ⟨j + 1, by omega, by go_num, Lib.hid (P1.out.other (by have := HBX.out; omega) _ _), Lib.hid ?_, Lib.hid (P_other E1.out g (fun ad e e2 => by have := HN3.out ad e; have := Option.some.inj e2; omega)), Lib.hid (I_other E2.out g (fun ad e e2 => by have := HLB.out ad e; have := Option.some.inj e2; omega)), Lib.hid (HB.out.setCell (by show w.heap.size ≤ w2.heap.size; have := HBX.out; omega) _)⟩
                    rw [HTS.out, fillQ_snoc]
                    exact P2.out.set _ _
                  case measure => simp [intOf]; omega
                · skip
                  have hlti : ¬ (j : Int) < (3 : Int) := by omega
                  have hje : j = of.length := by have := HOL.out; omega
                  have P4 : Hid (QC wr w2.heap.size (cellsQ (⟨8, 0, 0, 0, 0, q, i, h, p == 1⟩ : Rq))) := Lib.hid (by
                    rw [← HFM.out]
                    have q := P2.out
                    rw [hje, List.take_length] at q
                    exact q)
                  obtain ⟨x0, x1, x2, x3, x4, x5, x6, x7, x8⟩ := P4.out.nine
                  obtain ⟨yc0, yc1, yc2, yc3, yc4, yc5, yc6, yc7, yc8⟩ := P1.out.nine
                  have yf0 := P1.out.f 0
                  have yf1 := P1.out.f 1
                  have yf2 := P1.out.f 2
                  have yf3 := P1.out.f 3
                  have yf4 := P1.out.f 4
                  have yf5 := P1.out.f 5
                  have yf6 := P1.out.f 6
                  have yf7 := P1.out.f 7
                  have yf8 := P1.out.f 8
                  clear P2 hje
                  go_wp2_with (fail)
                  refine bodyPost_ret (results_QE (p := 2) (t := 3) rfl _ _ w.heap.size (cellsQ (⟨8, 0, 0, 0, 0, q, i, h, p == 1⟩ : Rq)) rfl rfl (P1.out.set9 rfl (.int .i64 (⟨8, 0, 0, 0, 0, q, i, h, p == 1⟩ : Rq).kind) (.int .i64 (⟨8, 0, 0, 0, 0, q, i, h, p == 1⟩ : Rq).sub) (.int .i64 (⟨8, 0, 0, 0, 0, q, i, h, p == 1⟩ : Rq).addr) (.int .i64 (⟨8, 0, 0, 0, 0, q, i, h, p == 1⟩ : Rq).blk) (.int .i64 (⟨8, 0, 0, 0, 0, q, i, h, p == 1⟩ : Rq).n) (.int .i64 (⟨8, 0, 0, 0, 0, q, i, h, p == 1⟩ : Rq).q) (.int .i64 (⟨8, 0, 0, 0, 0, q, i, h, p == 1⟩ : Rq).i) (.int .i64 (⟨8, 0, 0, 0, 0, q, i, h, p == 1⟩ : Rq).h) (.bool (⟨8, 0, 0, 0, 0, q, i, h, p == 1⟩ : Rq).pair))) rfl ?_
                  rw [HX.out]
                  exact ⟨rfl, S9_below HB.out (Nat.le_refl _) _ _ _ _ _ _ _ _ _⟩
        · skip
          have HX := Lib.hid (show res = (r0, 2) from by
            rw [HY.out, made_eight]
            match l, h4 with
            | [], _ => rfl
            | [_], _ => rfl
            | [_, _], _ => rfl
            | [_, _, _], _ => rfl
            | [_, _, _, _], h => exact absurd rfl h
            | _ :: _ :: _ :: _ :: _ :: _, _ => rfl)
          have h4b : ((l.length : Int) == 4) = false := by simpa using (show ¬ (l.length : Int) = 4 by omega)
          rw [hofl]
          clear hof hof3 hofl h4
          go_wp2_with (fail)
          refine bodyPost_ret (results_QE (p := 2) (t := 3) rfl _ _ w.heap.size zQ rfl rfl (HA3.out.set9 rfl (.int .i64 0) (.int .i64 0) (.int .i64 0) (.int .i64 0) (.int .i64 0) (.int .i64 0) (.int .i64 0) (.int .i64 0) (.bool false))) rfl ?_
          rw [HX.out]
          exact ⟨rfl, S9_below HB3.out (Nat.le_refl _) _ _ _ _ _ _ _ _ _⟩
      · skip
        have k8b : (k == 8) = false := by simpa using k8
        cases hm : madeW k l with
        | none =>
            have HX := Lib.hid (show res = (r0, 2) from by rw [HY.out, hm])
            have hne : l.length ≠ (offsW k).length := fun h => by
              obtain ⟨r, hr⟩ := made_len HK.out k8 h
              rw [hm] at hr
              cases hr
            clear HOR HC3 HO3 hc3
            generalize (offsW k).length = ol at *
            have hneb : ((l.length : Int) != (ol : Int)) = true := by simpa using (show ¬ (l.length : Int) = (ol : Int) by omega)
            clear hm hne k8
            go_wp2_with (fail)
            refine bodyPost_ret (results_QE (p := 2) (t := 3) rfl _ _ w.heap.size zQ rfl rfl (HA3.out.set9 rfl (.int .i64 0) (.int .i64 0) (.int .i64 0) (.int .i64 0) (.int .i64 0) (.int .i64 0) (.int .i64 0) (.int .i64 0) (.bool false))) rfl ?_
            rw [HX.out]
            exact ⟨rfl, S9_below HB3.out (Nat.le_refl _) _ _ _ _ _ _ _ _ _⟩
        | some r =>
            have HX := Lib.hid (show res = (r, 0) from by rw [HY.out, hm])
            obtain ⟨m1, m2, m3, m4⟩ := made_nums8 HK.out k8 HMY.out hm
            have HFM := Lib.hid (show fillQ (numQ r) (cellsQ ⟨k, 0, 0, 0, 0, 0, 0, 0, false⟩) (offsW k) = cellsQ r from by
              have q := fill_made r (by rw [m3]; exact HK.out) m4
              rw [m2, m3] at q
              exact q)
            have hll : l.length = (offsW k).length := by rw [m1, List.length_map]
            have HLB2 := Lib.hid (HLB.out (by have := HO3.out.1; omega))
            have HLM := Lib.hid (show Kd.C (Kd.int .i64) w3 A1 ((offsW k).map (numQ r)).length ((offsW k).map (numQ r)) from by have q := HL3.out; rw [m1] at q; exact q)
            clear hm m1 m2 m3 m4 k8 HLB HL3
            have HLB := HLB2
            have HL4 := HLM
            have HA4 := HA3
            have HB4 := HB3
            have HQ4 := HQ3
            have HC4 := HC3
            generalize offsW k = of at *
            rw [hll]
            clear hll HMY HY
            have HOL := Lib.hid (show of.length = of.length from rfl)
            go_wp2_with (fail)
            clear zc0 zf0 zc1 zf1 zc2 zf2 zc3 zf3 zc4 zf4 zc5 zf5 zc6 zf6 zc7 zf7 zc8 zf8
            go_loopw [67] (fun ii wr => ∃ j : Nat, j ≤ of.length ∧ ii = .int .i64 (j : Int) ∧ Hid (QC wr w.heap.size zQ) ∧ Hid (QC wr w2.heap.size (fillQ (numQ r) (cellsQ ⟨k, 0, 0, 0, 0, 0, 0, 0, false⟩) (of.take j))) ∧ Hid (Kd.C (kP w2.heap.size) wr A3 of.length of) ∧ Hid (Kd.C (Kd.int .i64) wr A1 (of.map (numQ r)).length (of.map (numQ r))) ∧ Hid (Below w.heap.size w wr)) (fun ii _ => of.length - (intOf ii).toNat)
            case atStart => exact ⟨0, Nat.zero_le _, rfl, HA4, HQ4, HC4, HL4, HB4⟩
            case round =>
              obtain ⟨j, hj, rfl, P1, P2, E1, E2, HB⟩ := hrel
              by_cases hlt : j < of.length
              · skip
                have hlo : j < of.length := by have := HOL.out; omega
                obtain ⟨ad1, rfl, y1⟩ := cell_P E1.out j hlo
                obtain ⟨ad2, ea2, y2⟩ := cell_I E2.out j (by rw [List.length_map]; exact hlo)
                cases ea2
                rw [List.getElem_map] at y2
                have ho := HOR.out j hlo
                have y4 := P2.out.f of[j]
                obtain ⟨v5, y5⟩ := P2.out.some of[j] (by rw [fillQ_size]; show _ < 9; omega)
                have hlti : (j : Int) < (of.length : Int) := by omega
                have hl9 : of.length ≤ 3 := by have := HO3.out.2; have := HOL.out; omega
                have HTS := Lib.hid (take_snocN of j hlo)
                generalize hoo : of[j] = oo at *
                clear hoo ho hlo
                go_wp2_with (fail)
                go_roundw
                case rel =>
                  have g := Lib.grownBy_setCell wr w2.heap.size oo (.int .i64 (numQ r oo))
                  refine ⟨j + 1, by omega, by go_num, Lib.hid (P1.out.other (by have := HBX.out; omega) _ _), Lib.hid ?_, Lib.hid (P_other E1.out g (fun ad e e2 => by have := HN3.out ad e; have := Option.some.inj e2; omega)), Lib.hid (I_other E2.out g (fun ad e e2 => by have := HLB.out ad e; have := Option.some.inj e2; omega)), Lib.hid (HB.out.setCell (by show w.heap.size ≤ w2.heap.size; have := HBX.out; omega) _)⟩
                  rw [HTS.out, fillQ_snoc]
                  exact P2.out.set _ _
                case measure => simp [intOf]; omega
              · skip
                have hlti : ¬ (j : Int) < (of.length : Int) := by omega
                have hje : j = of.length := by have := HOL.out; omega
                have P4 : Hid (QC wr w2.heap.size (cellsQ r)) := Lib.hid (by
                  rw [← HFM.out]
                  have q := P2.out
                  rw [hje, List.take_length] at q
                  exact q)
                obtain ⟨x0, x1, x2, x3, x4, x5, x6, x7, x8⟩ := P4.out.nine
                obtain ⟨yc0, yc1, yc2, yc3, yc4, yc5, yc6, yc7, yc8⟩ := P1.out.nine
                have yf0 := P1.out.f 0
                have yf1 := P1.out.f 1
                have yf2 := P1.out.f 2
                have yf3 := P1.out.f 3
                have yf4 := P1.out.f 4
                have yf5 := P1.out.f 5
                have yf6 := P1.out.f 6
                have yf7 := P1.out.f 7
                have yf8 := P1.out.f 8
                clear P2 hje
                go_wp2_with (fail)
                refine bodyPost_ret (results_QE (p := 2) (t := 3) rfl _ _ w.heap.size (cellsQ r) rfl rfl (P1.out.set9 rfl (.int .i64 r.kind) (.int .i64 r.sub) (.int .i64 r.addr) (.int .i64 r.blk) (.int .i64 r.n) (.int .i64 r.q) (.int .i64 r.i) (.int .i64 r.h) (.bool r.pair))) rfl ?_
                rw [HX.out]
                exact ⟨rfl, S9_below HB.out (Nat.le_refl _) _ _ _ _ _ _ _ _ _⟩
    · skip
      refine (kind_calls k false (decide_eq_false hk) _).mono ?_
      rintro e w2 ⟨rfl, hb2⟩
      have HY := Lib.hid (HZ.out.trans (if_neg hk))
      have HA2 := Lib.hid (HA.out.below hb2)
      have HB2 := Lib.hid (HB1.out.trans (hb2.mono HB1.out.size))
      clear HZ hk hb2
      obtain ⟨zc0, zc1, zc2, zc3, zc4, zc5, zc6, zc7, zc8⟩ := HA2.out.nine
      have zf0 := HA2.out.f 0
      have zf1 := HA2.out.f 1
      have zf2 := HA2.out.f 2
      have zf3 := HA2.out.f 3
      have zf4 := HA2.out.f 4
      have zf5 := HA2.out.f 5
      have zf6 := HA2.out.f 6
      have zf7 := HA2.out.f 7
      have zf8 := HA2.out.f 8
      go_wp2_with (fail)
      refine bodyPost_ret (results_QE (p := 2) (t := 3) rfl _ _ w.heap.size zQ rfl rfl (HA2.out.set9 rfl (.int .i64 0) (.int .i64 0) (.int .i64 0) (.int .i64 0) (.int .i64 0) (.int .i64 0) (.int .i64 0) (.int .i64 0) (.bool false))) rfl ?_
      rw [HY.out]
      exact ⟨rfl, S9_below HB2.out (Nat.le_refl _) _ _ _ _ _ _ _ _ _⟩
  · skip
    have HZ := Lib.hid (HP.out.trans (if_pos h0))
    have heb : (er != 0) = true := by simpa using h0
    clear HP h0
    obtain ⟨zc0, zc1, zc2, zc3, zc4, zc5, zc6, zc7, zc8⟩ := HA.out.nine
    have zf0 := HA.out.f 0
    have zf1 := HA.out.f 1
    have zf2 := HA.out.f 2
    have zf3 := HA.out.f 3
    have zf4 := HA.out.f 4
    have zf5 := HA.out.f 5
    have zf6 := HA.out.f 6
    have zf7 := HA.out.f 7
    have zf8 := HA.out.f 8
    go_wp2_with (fail)
    refine bodyPost_ret (results_QE (p := 2) (t := 3) rfl _ _ w.heap.size zQ rfl rfl (HA.out.set9 rfl (.int .i64 0) (.int .i64 0) (.int .i64 0) (.int .i64 0) (.int .i64 0) (.int .i64 0) (.int .i64 0) (.int .i64 0) (.bool false))) rfl ?_
    rw [HZ.out]
    exact ⟨rfl, S9_below HB1.out (Nat.le_refl _) _ _ _ _ _ _ _ _ _⟩
end Go.Proofs.Ytiopafdndlodoaa.H

/-! Layer 19: what came in, opened; awake. -/
namespace Go.Proofs.Ytiopafdndlodoaa.H
open Go.RowKit Moor Go.Proofs.YtiopafdndlodoaaW.PrintWords Go.Proofs.YtiopafdndlodoaaW.PrintLast Go.Proofs.YtiopafdndlodoaaW.PrintMore Go.ChangeShapes Go.WideShapes
set_option linter.unusedVariables false
set_option linter.unusedSimpArgs false

theorem cellsOf_intW : Try.prog.cellsOf 3 = 1 := by kernel_rfl
theorem cellsOf_boolW : Try.prog.cellsOf 4 = 1 := by kernel_rfl
theorem cellsOf_pol : Try.prog.cellsOf 23 = 4 := by kernel_rfl
theorem cellsOf_rq : Try.prog.cellsOf 25 = 9 := by kernel_rfl
section
variable {H : Type} {enc : TypeId × Value → H} {W : World} {base : Nat} {spare : Nat → Bool} {held : Bool}
theorem open_pol {fuel : Nat} {cs : List Value} {x : DataW H × List MemPlace} (h : DataW.trod enc Try.prog W base spare held fuel 23 cs = some x) : ∃ (q i h : Int) (p : Bool), cs = [.int .i64 q, .int .i64 i, .int .i64 h, .bool p] := by
  obtain ⟨xs, n, _, _, hlen, hxl, hf⟩ := DataW.trod_struct Try.underlying23 h
  rw [cellsOf_pol] at hlen
  match cs, hlen with
  | [v0, v1, v2, v3], _ =>
    have hg : ∀ (i : Nat) (hi : i < xs.length), xs[i]? = some xs[i] := fun i hi => List.getElem?_eq_getElem hi
    have hxl' : xs.length = 4 := hxl
    have h0 : DataW.trod enc Try.prog W base spare held n 3 (List.take (Try.prog.cellsOf 3) ([v0, v1, v2, v3].drop 0)) = xs[0]? := hf 0 _ rfl
    have h1 : DataW.trod enc Try.prog W base spare held n 3 (List.take (Try.prog.cellsOf 3) ([v0, v1, v2, v3].drop 1)) = xs[1]? := hf 1 _ rfl
    have h2 : DataW.trod enc Try.prog W base spare held n 3 (List.take (Try.prog.cellsOf 3) ([v0, v1, v2, v3].drop 2)) = xs[2]? := hf 2 _ rfl
    have h3 : DataW.trod enc Try.prog W base spare held n 4 (List.take (Try.prog.cellsOf 4) ([v0, v1, v2, v3].drop 3)) = xs[3]? := hf 3 _ rfl
    rw [hg 0 (by omega)] at h0
    rw [hg 1 (by omega)] at h1
    rw [hg 2 (by omega)] at h2
    rw [hg 3 (by omega)] at h3
    rw [cellsOf_intW] at h0 h1 h2
    rw [cellsOf_boolW] at h3
    obtain ⟨n0, e0, _, _⟩ := DataW.trod_int Try.underlying3 h0
    obtain ⟨n1, e1, _, _⟩ := DataW.trod_int Try.underlying3 h1
    obtain ⟨n2, e2, _, _⟩ := DataW.trod_int Try.underlying3 h2
    obtain ⟨n3, e3, _⟩ := DataW.trod_bool Try.underlying4 h3
    simp at e0 e1 e2 e3
    exact ⟨n0, n1, n2, n3, by rw [e0, e1, e2, e3]⟩
theorem open_rq {fuel : Nat} {cs : List Value} {x : DataW H × List MemPlace} (h : DataW.trod enc Try.prog W base spare held fuel 25 cs = some x) : ∃ e : Rq, cs = (cellsQ e).toList := by
  obtain ⟨xs, n, _, _, hlen, hxl, hf⟩ := DataW.trod_struct Try.underlying25 h
  rw [cellsOf_rq] at hlen
  match cs, hlen with
  | [v0, v1, v2, v3, v4, v5, v6, v7, v8], _ =>
    have hg : ∀ (i : Nat) (hi : i < xs.length), xs[i]? = some xs[i] := fun i hi => List.getElem?_eq_getElem hi
    have hxl' : xs.length = 6 := hxl
    have h0 : DataW.trod enc Try.prog W base spare held n 3 (List.take (Try.prog.cellsOf 3) ([v0, v1, v2, v3, v4, v5, v6, v7, v8].drop 0)) = xs[0]? := hf 0 _ rfl
    have h1 : DataW.trod enc Try.prog W base spare held n 3 (List.take (Try.prog.cellsOf 3) ([v0, v1, v2, v3, v4, v5, v6, v7, v8].drop 1)) = xs[1]? := hf 1 _ rfl
    have h2 : DataW.trod enc Try.prog W base spare held n 3 (List.take (Try.prog.cellsOf 3) ([v0, v1, v2, v3, v4, v5, v6, v7, v8].drop 2)) = xs[2]? := hf 2 _ rfl
    have h3 : DataW.trod enc Try.prog W base spare held n 3 (List.take (Try.prog.cellsOf 3) ([v0, v1, v2, v3, v4, v5, v6, v7, v8].drop 3)) = xs[3]? := hf 3 _ rfl
    have h4 : DataW.trod enc Try.prog W base spare held n 3 (List.take (Try.prog.cellsOf 3) ([v0, v1, v2, v3, v4, v5, v6, v7, v8].drop 4)) = xs[4]? := hf 4 _ rfl
    have h5 : DataW.trod enc Try.prog W base spare held n 23 (List.take (Try.prog.cellsOf 23) ([v0, v1, v2, v3, v4, v5, v6, v7, v8].drop 5)) = xs[5]? := hf 5 _ rfl
    rw [hg 0 (by omega)] at h0
    rw [hg 1 (by omega)] at h1
    rw [hg 2 (by omega)] at h2
    rw [hg 3 (by omega)] at h3
    rw [hg 4 (by omega)] at h4
    rw [hg 5 (by omega)] at h5
    rw [cellsOf_intW] at h0 h1 h2 h3 h4
    rw [cellsOf_pol] at h5
    obtain ⟨n0, e0, _, _⟩ := DataW.trod_int Try.underlying3 h0
    obtain ⟨n1, e1, _, _⟩ := DataW.trod_int Try.underlying3 h1
    obtain ⟨n2, e2, _, _⟩ := DataW.trod_int Try.underlying3 h2
    obtain ⟨n3, e3, _, _⟩ := DataW.trod_int Try.underlying3 h3
    obtain ⟨n4, e4, _, _⟩ := DataW.trod_int Try.underlying3 h4
    obtain ⟨q, i, hh, p, e5⟩ := open_pol h5
    simp at e0 e1 e2 e3 e4 e5
    obtain ⟨rfl, rfl, rfl, rfl⟩ := e5
    exact ⟨⟨n0, n1, n2, n3, n4, q, i, hh, p⟩, by rw [e0, e1, e2, e3, e4]⟩
theorem open_rqA {cs : Array Value} {d : DataW H} {p : List MemPlace} (h : DataW.Trod enc Try.prog W 0 (fun _ => true) true 25 (.agg cs) d p) : ∃ e : Rq, cs = cellsQ e := by
  obtain ⟨fuel, hf⟩ := h
  obtain ⟨e, g⟩ := open_rq hf
  have : cs.toList = (cellsQ e).toList := by simpa [Value.cells] using g
  exact ⟨e, by rw [← Array.toArray_toList (xs := cs), this]⟩
theorem open_bytesA {a : Option Addr} {len cap : Nat} {d : DataW H} {p : List MemPlace} (h : DataW.Trod enc Try.prog W 0 (fun _ => true) true 29 (.slice a len cap) d p) :
    ∃ l : List Int, len = l.length ∧ Kd.C (Kd.int .u8) W a l.length l ∧ l.length ≤ cap ∧ okB l := by
  obtain ⟨fuel, h⟩ := h
  rcases open_ints Try.underlying29 Try.underlying5 (by kernel_rfl) h with ⟨hcs, _⟩ | ⟨a, len, cap, zs, hcs, _, hl, hm, hz, _, hcell, hw⟩
  · simp [Value.cells] at hcs
    obtain ⟨rfl, rfl, rfl⟩ := hcs
    exact ⟨[], rfl, Kd.C_nil _ _, Nat.le_refl _, fun x hx => by cases hx⟩
  · simp [Value.cells] at hcs
    obtain ⟨rfl, rfl, rfl⟩ := hcs
    have hz' : zs.length = cap := by simpa using hz
    have hlt : (zs.take len).length = len := by rw [List.length_take]; omega
    refine ⟨zs.take len, hlt.symm, ⟨rfl, by rw [hlt]; unfold maxLen at hm; omega, fun _ => ⟨_, rfl, fun j p hj => ⟨[.int .u8 p], rfl, rfl, fun i u hu => ?_⟩⟩⟩, by omega, fun y hy => bounds_u8 (hw y (List.mem_of_mem_take hy))⟩
    have hj2 := (List.getElem?_eq_some_iff.1 hj).1
    rw [hlt] at hj2
    have hp : zs[j]? = some p := by
      rw [List.getElem?_take] at hj
      rw [if_pos hj2] at hj
      exact hj
    cases i with
    | zero =>
      have hu' : Value.int .u8 p = u := by simpa using hu
      subst hu'
      have hs : (Kd.int .u8).sz = 1 := rfl
      rw [hs, Nat.mul_one, Nat.add_zero, hcell j (by omega), List.getD_eq_getElem?_getD, hp]
      rfl
    | succ i => simp at hu
theorem cellsOf_errno : Try.prog.cellsOf 26 = 1 := by kernel_rfl
theorem cellsOf_ans : Try.prog.cellsOf 28 = 3 := by kernel_rfl
theorem open_ansA {cs : Array Value} {d : DataW H} {p : List MemPlace} (h : DataW.Trod enc Try.prog W 0 (fun _ => true) true 28 (.agg cs) d p) : ∃ a : Aw, cs = cellsA a := by
  obtain ⟨fuel, hf⟩ := h
  obtain ⟨xs, n, _, _, hlen, hxl, hf⟩ := DataW.trod_struct Try.underlying28 hf
  rw [cellsOf_ans] at hlen
  have hlen : cs.size = 3 := by simpa [Value.cells] using hlen
  obtain ⟨l⟩ := cs
  match l, hlen with
  | [v0, v1, v2], _ =>
    have hg : ∀ (i : Nat) (hi : i < xs.length), xs[i]? = some xs[i] := fun i hi => List.getElem?_eq_getElem hi
    have hxl' : xs.length = 3 := hxl
    have h0 : DataW.trod enc Try.prog W 0 (fun _ => true) true n 26 (List.take (Try.prog.cellsOf 26) ([v0, v1, v2].drop 0)) = xs[0]? := hf 0 _ rfl
    have h1 : DataW.trod enc Try.prog W 0 (fun _ => true) true n 3 (List.take (Try.prog.cellsOf 3) ([v0, v1, v2].drop 1)) = xs[1]? := hf 1 _ rfl
    have h2 : DataW.trod enc Try.prog W 0 (fun _ => true) true n 3 (List.take (Try.prog.cellsOf 3) ([v0, v1, v2].drop 2)) = xs[2]? := hf 2 _ rfl
    rw [hg 0 (by omega)] at h0
    rw [hg 1 (by omega)] at h1
    rw [hg 2 (by omega)] at h2
    rw [cellsOf_errno] at h0
    rw [cellsOf_intW] at h1 h2
    obtain ⟨n0, e0, _, _⟩ := DataW.trod_int Try.underlying26 h0
    obtain ⟨n1, e1, _, _⟩ := DataW.trod_int Try.underlying3 h1
    obtain ⟨n2, e2, _, _⟩ := DataW.trod_int Try.underlying3 h2
    simp at e0 e1 e2
    exact ⟨⟨n0, n1, n2⟩, by rw [e0, e1, e2]⟩
/-- Rows of what is asked. -/
def RowQ (W : World) (A : Option Addr) (l : List Rq) : Prop := l.length ≤ 9223372036854775807 ∧ (0 < l.length → ∃ ad, A = some ad ∧ ∀ (j : Nat) (r : Rq), l[j]? = some r → ∀ i u, (cellsQ r)[i]? = some u → W.cell? (ad.add (j * 9 + i)) = some u)
theorem open_rqs {a : Option Addr} {len cap : Nat} {d : DataW H} {p : List MemPlace} (h : DataW.Trod enc Try.prog W 0 (fun _ => true) true 43 (.slice a len cap) d p) :
    ∃ l : List Rq, len = l.length ∧ RowQ W a l ∧ l.length ≤ cap := by
  obtain ⟨fuel, hf⟩ := h
  rcases Go.Deep.open_slice Try.underlying43 hf with ⟨hcs, _⟩ | ⟨ad, l, c, m, n, D, Q, hcs, _, hl, hm, hmm, _, hi⟩
  · simp [Value.cells] at hcs
    obtain ⟨rfl, rfl, rfl⟩ := hcs
    exact ⟨[], rfl, ⟨by simp, fun h => absurd h (by simp)⟩, Nat.le_refl _⟩
  · simp [Value.cells] at hcs
    obtain ⟨rfl, rfl, rfl⟩ := hcs
    have hmc : m = cap := by simpa using hmm
    subst hmc
    rw [cellsOf_rq] at hi
    have hp : ∀ i, i < len → ∃ q : Rq, ∀ j u, (cellsQ q)[j]? = some u → W.cell? (ad.add (i * 9 + j)) = some u := fun i hil => by
      obtain ⟨cs', hc, ht⟩ := hi i (by omega)
      obtain ⟨q, rfl⟩ := open_rq ht
      obtain ⟨_, _, hcell⟩ := World.cells?_some hc
      refine ⟨q, fun j u hu => ?_⟩
      have hj : j < 9 := by have := (Array.getElem?_eq_some_iff.1 hu).1; simpa using this
      have := hcell j hj
      rw [Go.Deep.add_add] at this
      rw [this]
      simpa using hu
    haveI : Inhabited Rq := ⟨r0⟩
    obtain ⟨f, hff⟩ := Go.Deep.choose_lt hp
    refine ⟨(List.range len).map f, by simp, ⟨by simp; unfold maxLen at hm; omega, fun _ => ⟨ad, rfl, fun j p hj i u hu => ?_⟩⟩, by simpa using hl⟩
    have hjl : j < len := by have := (List.getElem?_eq_some_iff.1 hj).1; simpa using this
    obtain rfl : f j = p := by simpa [hjl] using hj
    exact hff j hjl i u hu
end
/-! ### awake -/
abbrev rq3 : Rq := ⟨0, 3, 0, 0, 0, 0, 0, 0, false⟩
abbrev an6 : Aw := ⟨6, 0, 0⟩
set_option maxRecDepth 100000 in
theorem wPut_rq3 : ∃ t, wPut rq3 = (0 :: 1 :: 3 :: t, true) ∧ t.length = 4 := by
  have h1 : wPut rq3 = rPut ⟨0, [3]⟩ := rfl
  refine ⟨fourB (cSumV (0 :: (put 1 ++ [3]))), ?_, fourB_length _⟩
  rw [h1, rPut_pos (by decide), recBytes_eq]
  rfl
set_option maxRecDepth 100000 in
theorem wTell_an6 : (wTell an6).2 = true := by
  have h1 : wTell an6 = rPut ⟨6, [0, 0]⟩ := rfl
  rw [h1, rPut_pos (by decide)]
theorem wSplit_seven {b : List Int} (h : (wPut rq3).1 = b) : wSplit (b ++ [7]) = ([b], [7]) := by
  have h1 : wPut rq3 = rPut ⟨0, [3]⟩ := rfl
  rw [h1, rPut_pos (by decide)] at h
  simp only at h
  have ht : (rGet [7] 0).2.2 ≠ 0 := by
    have q := rGet_torn (r := ⟨7, []⟩) (by decide) [] (j := 1) (by rw [recBytes_length]; omega)
    rw [recBytes_eq] at q
    have q' : rGet [7] 0 = (⟨0, []⟩, 0, 4) := q
    rw [q']
    decide
  have hj : b ++ [7] = joinR [⟨0, [3]⟩] ++ [7] := by rw [← h]; simp [joinR]
  unfold wSplit
  rw [hj, splitF_recs [⟨0, [3]⟩] _ [7] (fun r hr => by rw [List.mem_singleton.1 hr]; decide) ht (by rw [List.length_append]; simp), ← h]
  rfl
end Go.Proofs.Ytiopafdndlodoaa.H

/-! awake answers true. -/
namespace Go.Proofs.Ytiopafdndlodoaa.H
open Go.RowKit Moor Go.Proofs.YtiopafdndlodoaaW.PrintWords Go.Proofs.YtiopafdndlodoaaW.PrintLast Go.Proofs.YtiopafdndlodoaaW.PrintMore
set_option linter.unusedVariables false
set_option linter.unusedSimpArgs false

theorem getE {l : List Int} {k : Nat} {v : Int} (h : l[k]? = some v) {hk : k < l.length} : l[k]'hk = v := Option.some.inj ((List.getElem?_eq_getElem hk).symm.trans h)
theorem awake_b : ∃ b, wPut rq3 = (b, true) ∧ b.length = 7 ∧ okB b ∧ b[0]? = some 0 ∧ b[1]? = some 1 ∧ b[2]? = some 3 := by
  obtain ⟨t, ht, htl⟩ := wPut_rq3
  refine ⟨_, ht, by simp [htl], ?_, rfl, rfl, rfl⟩
  have q := (wPut_long rq3).1
  rw [ht] at q
  exact q
theorem RowQ_below {W W' : World} {A : Option Addr} {l : List Rq} (h : RowQ W A l) (hb : Below W.heap.size W W') : RowQ W' A l := by
  refine ⟨h.1, fun hn => ?_⟩
  obtain ⟨ad, e, hc⟩ := h.2 hn
  exact ⟨ad, e, fun j r hj i u hu => pw_cell_below hb (hc j r hj i u hu)⟩
set_option maxRecDepth 100000 in
set_option maxHeartbeats 16000000 in
theorem awake_true (w : World) : Calls Try.prog 10 #[] w fun e w' => e = .returned (.bool true) ∧ Below w.heap.size w w' := by
  go_enter Try.func10, Try.ntmps10
  go_wp2_with (fail)
  obtain ⟨b, hP, hbl, hbo, g0, g1, g2⟩ := awake_b
  have HP := Lib.hid hP
  have HRD := Lib.hid (show wRead b = (rq3, 0) from by have q := wRead_put (r := rq3) (by rw [hP]); rw [hP] at q; exact q)
  have HSP := Lib.hid (wSplit_seven (b := b) (by rw [hP]))
  obtain ⟨T, hT⟩ : ∃ T, wTell an6 = (T, true) := ⟨(wTell an6).1, by rw [← wTell_an6]⟩
  have hTo := wTell_long an6
  rw [hT] at hTo
  have HHR := Lib.hid (show wHear T = (an6, 0) from by have q := wHear_tell (a := an6) wTell_an6; rw [hT] at q; exact q)
  have HT := Lib.hid hT
  have HBL := Lib.hid hbl
  have HG := Lib.hid (show b[0]? = some 0 ∧ b[1]? = some 1 ∧ b[2]? = some 3 from ⟨g0, g1, g2⟩)
  have HBO := Lib.hid hbo
  have HTO := Lib.hid hTo
  clear hP hT hbl hbo g0 g1 g2 hTo
  have hB1 : Below w.heap.size w w := Below.refl _ _
  have q := wPut_calls rq3 w
  rw [HP.out] at q
  refine q.mono ?_
  clear q
  rintro e w2 ⟨A2, c2, rfl, hc2, hC2, hb2⟩
  dsimp only at hc2 hC2 ⊢
  have hB2 : Below w.heap.size w w2 := hb2
  have HC2 := Lib.hid hC2
  clear hC2 hb2 hB1
  go_wp2_with (fail)
  have q := wread_calls A2 c2 b w2 HC2.out hc2 HBO.out (by have := HBL.out; omega)
  rw [HRD.out] at q
  refine q.mono ?_
  clear q
  rintro e w3 ⟨rfl, hb3⟩
  (try dsimp only)
  replace HC2 := Lib.hid (Kd.C_below HC2.out hb3)
  have hB3 : Below w.heap.size w w3 := hB2.trans (hb3.mono hB2.size)
  clear hb3
  go_wp2_with (fail)
  have hbxq := QC.new w3 (cellsQ rq3)
  have hb4 : Below w3.heap.size w3 (w3.alloc (.cells #[.int .i64 rq3.kind, .int .i64 rq3.sub, .int .i64 rq3.addr, .int .i64 rq3.blk, .int .i64 rq3.n, .int .i64 rq3.q, .int .i64 rq3.i, .int .i64 rq3.h, .bool rq3.pair] 25)) := below_alloc (Below.refl _ _) _
  generalize hwz : w3.alloc (.cells #[.int .i64 rq3.kind, .int .i64 rq3.sub, .int .i64 rq3.addr, .int .i64 rq3.blk, .int .i64 rq3.n, .int .i64 rq3.q, .int .i64 rq3.i, .int .i64 rq3.h, .bool rq3.pair] 25) = w4 at *
  clear hwz
  replace HC2 := Lib.hid (Kd.C_below HC2.out hb4)
  have hB4 : Below w.heap.size w w4 := hB3.trans (hb4.mono hB3.size)
  clear hb4
  obtain ⟨xq_0, xq_1, xq_2, xq_3, xq_4, xq_5, xq_6, xq_7, xq_8⟩ := hbxq.nine
  have q := wtell_calls an6 w4
  rw [HT.out] at q
  refine q.mono ?_
  clear q
  rintro e w5 ⟨A5, c5, rfl, hc5, hC5, hb5⟩
  dsimp only at hc5 hC5 ⊢
  replace HC2 := Lib.hid (Kd.C_below HC2.out hb5)
  replace hbxq := hbxq.below hb5
  clear xq_0 xq_1 xq_2 xq_3 xq_4 xq_5 xq_6 xq_7 xq_8
  obtain ⟨xq_0, xq_1, xq_2, xq_3, xq_4, xq_5, xq_6, xq_7, xq_8⟩ := hbxq.nine
  have hB5 : Below w.heap.size w w5 := hB4.trans (hb5.mono hB4.size)
  clear hb5
  have HC5 := Lib.hid hC5
  clear hC5
  go_wp2_with (fail)
  have q := whear_calls A5 c5 T w5 HC5.out hc5 HTO.out.1 (by have := HTO.out.2.2; omega)
  rw [HHR.out] at q
  refine q.mono ?_
  clear q
  rintro e w6 ⟨rfl, hb6⟩
  (try dsimp only)
  replace HC2 := Lib.hid (Kd.C_below HC2.out hb6)
  replace hbxq := hbxq.below hb6
  clear xq_0 xq_1 xq_2 xq_3 xq_4 xq_5 xq_6 xq_7 xq_8
  obtain ⟨xq_0, xq_1, xq_2, xq_3, xq_4, xq_5, xq_6, xq_7, xq_8⟩ := hbxq.nine
  replace HC5 := Lib.hid (Kd.C_below HC5.out hb6)
  have hB6 : Below w.heap.size w w6 := hB5.trans (hb6.mono hB5.size)
  clear hb6
  have HBL7 := Lib.hid (show (b ++ [7]).length ≤ 1000000 from by have := HBL.out; rw [List.length_append]; simp; omega)
  have HBO7 := Lib.hid (show okB (b ++ [7]) from okB_append HBO.out (by decide))
  go_wp2_with (at_builtin; first | (have zz := hr1'; refine Kd.R_append_rows (Kd.int .u8) (Rr := fun x cs => cs = [.int .u8 x]) (w0 := (w6.alloc (.cells #[.int .i64 an6.e, .int .i64 an6.a, .int .i64 an6.b] 28))) (w6.alloc (.cells #[.int .i64 an6.e, .int .i64 an6.a, .int .i64 an6.b] 28)).heap.size rfl _ _ 29 5 (.int .u8 0) 1 rfl Try.underlying29 infoU8 rfl (by decide) (by decide) v1 b [7] (some ⟨u1.heap.size, 0, none⟩) [(7 : Int)].length 1 (fun _ => True) (fun _ => False) rfl rfl (Kd.R_alloc hr1' _) (lit_one u1 5 7) (fun _ _ h => h) (fun _ h => h.elim) (fun _ _ => trivial) (below_alloc hb1' _) (Nat.le_trans hb1'.size (below_alloc (Below.refl u1.heap.size u1) _).size) (by have := HBL.out; simp; omega) ?_; intro v2 u2 hr2' hb2' hG _; obtain ⟨A9, c9, rfl, hc9, hC9⟩ := Kd.R_reads hr2'; generalize hX : b ++ [7] = X at *; have HX := Lib.hid hX; clear hX) | (refine Kd.R_append_rows (Kd.int .u8) (Rr := fun x cs => cs = [.int .u8 x]) (w0 := (w6.alloc (.cells #[.int .i64 an6.e, .int .i64 an6.a, .int .i64 an6.b] 28))) (w6.alloc (.cells #[.int .i64 an6.e, .int .i64 an6.a, .int .i64 an6.b] 28)).heap.size rfl _ _ 29 5 (.int .u8 0) 1 rfl Try.underlying29 infoU8 rfl (by decide) (by decide) (.slice none 0 0) ([] : List Int) b A2 b.length c2 (fun _ => True) (fun _ => False) rfl rfl (Kd.R_nil _ _ _ _ _) (Kd.C_alloc HC2.out _) (fun _ _ h => h) (fun _ h => h.elim) (fun _ _ => trivial) (Below.refl _ _) (Nat.le_refl _) (by have := HBL.out; simp; omega) ?_; intro v1 u1 hr1' hb1' hG _; replace hr1' : Kd.R (Kd.int .u8) 5 u1 (w6.alloc (.cells #[.int .i64 an6.e, .int .i64 an6.a, .int .i64 an6.b] 28)).heap.size (fun _ => True) v1 b := (by simpa using hr1')))
  have hbxa := AC.new w6 an6
  have hb7 : Below w6.heap.size w6 (w6.alloc (.cells #[.int .i64 an6.e, .int .i64 an6.a, .int .i64 an6.b] 28)) := below_alloc (Below.refl _ _) _
  generalize hwz : (w6.alloc (.cells #[.int .i64 an6.e, .int .i64 an6.a, .int .i64 an6.b] 28)) = w7 at *
  clear hwz
  replace HC2 := Lib.hid (Kd.C_below HC2.out hb7)
  replace hbxq := hbxq.below hb7
  clear xq_0 xq_1 xq_2 xq_3 xq_4 xq_5 xq_6 xq_7 xq_8
  obtain ⟨xq_0, xq_1, xq_2, xq_3, xq_4, xq_5, xq_6, xq_7, xq_8⟩ := hbxq.nine
  replace HC5 := Lib.hid (Kd.C_below HC5.out hb7)
  have hB7 : Below w.heap.size w w7 := hB6.trans (hb7.mono hB6.size)
  clear hb7
  obtain ⟨xa_0, xa_1, xa_2⟩ := hbxa.three
  have hb8 := hb2'
  generalize u2 = w8 at *
  replace HC2 := Lib.hid (Kd.C_below HC2.out hb8)
  replace hbxq := hbxq.below hb8
  clear xq_0 xq_1 xq_2 xq_3 xq_4 xq_5 xq_6 xq_7 xq_8
  obtain ⟨xq_0, xq_1, xq_2, xq_3, xq_4, xq_5, xq_6, xq_7, xq_8⟩ := hbxq.nine
  replace HC5 := Lib.hid (Kd.C_below HC5.out hb8)
  replace hbxa := hbxa.below hb8
  clear xa_0 xa_1 xa_2
  obtain ⟨xa_0, xa_1, xa_2⟩ := hbxa.three
  have hB8 : Below w.heap.size w w8 := hB7.trans (hb8.mono hB7.size)
  clear hb8
  have HC8 := Lib.hid hC9
  clear hC9
  have q := wsplit_calls A9 c9 X w8 HC8.out hc9 HBO7.out HBL7.out
  rw [HSP.out] at q
  refine q.mono ?_
  clear q
  rintro e w9 ⟨A9, c9, A9', c9', rfl, hc9, hc9', hC9, hC9', hb9⟩
  dsimp only at hc9 hc9' hC9 hC9' ⊢
  replace HC2 := Lib.hid (Kd.C_below HC2.out hb9)
  replace hbxq := hbxq.below hb9
  clear xq_0 xq_1 xq_2 xq_3 xq_4 xq_5 xq_6 xq_7 xq_8
  obtain ⟨xq_0, xq_1, xq_2, xq_3, xq_4, xq_5, xq_6, xq_7, xq_8⟩ := hbxq.nine
  replace HC5 := Lib.hid (Kd.C_below HC5.out hb9)
  replace hbxa := hbxa.below hb9
  clear xa_0 xa_1 xa_2
  obtain ⟨xa_0, xa_1, xa_2⟩ := hbxa.three
  replace HC8 := Lib.hid (Kd.C_below HC8.out hb9)
  have hB9 : Below w.heap.size w w9 := hB8.trans (hb9.mono hB8.size)
  clear hb9
  have HC9 := Lib.hid hC9
  have HC9' := Lib.hid hC9'
  clear hC9 hC9'
  obtain ⟨ad, hA2, y0⟩ := cell_ofB HC2.out 0 (by have := HBL.out; omega)
  obtain ⟨ad', e', y1⟩ := cell_ofB HC2.out 1 (by have := HBL.out; omega)
  rw [hA2] at e'
  cases e'
  obtain ⟨ad', e', y2⟩ := cell_ofB HC2.out 2 (by have := HBL.out; omega)
  rw [hA2] at e'
  cases e'
  subst hA2
  rw [getE HG.out.1, add_zeroR] at y0
  rw [getE HG.out.2.1, add_posW ad 1 (by decide)] at y1
  rw [getE HG.out.2.2, add_posW ad 2 (by decide)] at y2
  have hb7 : ((b.length : Int) == 7) = true := by rw [HBL.out]; rfl
  have i0 : (0 : Int) < (b.length : Int) := by have := HBL.out; omega
  have i1 : (1 : Int) < (b.length : Int) := by have := HBL.out; omega
  have i2 : (2 : Int) < (b.length : Int) := by have := HBL.out; omega
  have j0 : 0 < b.length := by have := HBL.out; omega
  have j1 : 1 < b.length := by have := HBL.out; omega
  have j2 : 2 < b.length := by have := HBL.out; omega
  go_wp2_with (fail)
  go_ret
  exact ⟨by simp, hB9⟩

end Go.Proofs.Ytiopafdndlodoaa.H
