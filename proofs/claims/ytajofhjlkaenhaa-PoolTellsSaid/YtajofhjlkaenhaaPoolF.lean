import Derived.Test.YtajofhjlkaenhaaPoolE
import Derived.Lib.SliceRun
import Derived.Deep.RegionLaw
import Derived.Deep.RegionWith
/-! Layer 11: copies of pools; one taken out, walked. -/
namespace Go.Proofs.Ytajofhjlkaenhaa.H
open Go.RowKit Go.Proofs.YtajofhjlkaenhaaW.PrintWords Go.Proofs.YtajofhjlkaenhaaW.PrintLast Go.Proofs.YtajofhjlkaenhaaW.PrintMore
set_option linter.unusedVariables false
set_option linter.unusedSimpArgs false

theorem kP_KM {w w' : World} {base : Nat} {ok : Nat → Prop} {x : Pl} {cs : List Value} (h : kP.K w x cs) : kP.M w' base ok x cs := by
  rw [B.k27_open h]
  exact B.k27_mkM _ _ _ _

theorem own_empty (w : World) : (w.alloc (.cells #[] 27)).ownsRow w.heap.size 27 3 (.slice (some ⟨w.heap.size, 0, none⟩) 0 0) 0 [] := by
  simpa using World.ownsRow_made (size := 3) w #[] 0 (Nat.le_refl _) (Nat.zero_le _) (by simp)

set_option maxHeartbeats 2000000 in
theorem cloneP_calls (A : Option Addr) (c : Nat) (l : List Pl) (w : World) (hR : Kd.C kP w A l.length l) (hc : l.length ≤ c) (hl : l.length * 24 ≤ 140737488355328) :
    Calls Try.prog 40 #[.slice A l.length c] w fun e w' => ∃ v : Value, e = .returned v ∧ Kd.R kP 27 w' w.heap.size (fun _ => True) v l ∧ Below w.heap.size w w' := by
  have q22 : ∀ (w : World) (a : Option Addr) (n c n' c' : Nat), (binOp .eql 22 (.slice a n c) (.slice none n' c')).run Try.prog w = .ok (.bool a.isNone) w := fun w a n c n' c' => Lib.run_eql_slice_nil w _ _ a n c n' c' Try.underlying22
  cases A with
  | none =>
    have h0 : l = [] := by
      rcases Nat.eq_zero_or_pos l.length with h | h
      · exact List.length_eq_zero_iff.1 h
      · obtain ⟨ad, e, _⟩ := hR.2.2 h
        cases e
    subst h0
    go_enter Try.func40, Try.ntmps40
    go_wp2_with (fail)
    go_ret
    exact ⟨_, rfl, Kd.R_nil _ _ _ _ _, Below.refl _ _⟩
  | some ad =>
    have HR := Lib.hid hR
    clear hR
    have hR0 : Kd.R kP 27 (w.alloc (.cells #[] 27)) w.heap.size (fun _ => True) (.slice (some ⟨w.heap.size, 0, none⟩) 0 0) [] :=
      ⟨fun _ _ => trivial, [], own_empty w, Reps.none _ _⟩
    have H0 := Lib.hid hR0
    clear hR0
    go_enter Try.func40, Try.ntmps40
    go_wp2_with (at_builtin; refine Kd.R_append_rows kP (Rr := fun x cs => kP.K (w.alloc (.cells #[] 27)) x cs) (w0 := w) w.heap.size rfl _ _ 22 27 (.agg #[(.int .i64 0), (.int .i64 0), (.int .i64 0)]) 24 rfl Try.underlying22 infoP rfl (by decide) (by decide) (.slice (some ⟨w.heap.size, 0, none⟩) 0 0) [] l (some ad) l.length c (fun _ => True) (fun _ => False) rfl rfl H0.out (Kd.C_below HR.out (below_alloc (Below.refl _ _) _)) (fun _ _ h => kP_KM h) (fun _ h => h.elim) (fun _ _ => trivial) (below_alloc (Below.refl _ _) _) (by simp) (by simp; omega) ?_; intro v1 w1 hR1 hB1 hG1 _)
    go_ret
    exact ⟨_, rfl, by simpa using hR1, hB1⟩

theorem eraseIdx_len {α : Type} (l : List α) (k : Nat) (h : k < l.length) : (l.eraseIdx k).length = l.length - 1 := List.length_eraseIdx_of_lt h

theorem run_clear_pool (w : World) (ty : TypeId) (b o c : Nat) (hc : ∀ j, j < 3 → (w.cell? ⟨b, o + j, none⟩).isSome = true) (hf : ∀ j, j < 3 → w.frozen? ⟨b, o + j, none⟩ = false) :
    (Builtin.clear_ #[22] ty #[.slice (some ⟨b, o, none⟩) 1 c]).run Try.prog w = .ok (.tuple #[]) (w.setCells b o [.int .i64 0, .int .i64 0, .int .i64 0]) := by
  have hzc : (Builtin.zeroCells #[.int .i64 0, .int .i64 0, .int .i64 0] 1).toList = [Value.int .i64 0, .int .i64 0, .int .i64 0] := by simp [Builtin.zeroCells, Array.ofFn, List.range, List.range.loop]
  have hst := run_storeCells_cells (P := Try.prog) b o [.int .i64 0, .int .i64 0, .int .i64 0] 0 w (by simpa using hc) (by simpa using hf) (by intro v hv; simp at hv; rw [hv]; rfl)
  simp only [Nat.add_zero] at hst
  simp [Builtin.clear_, run_underlying Try.underlying22, Try.zeroValue27, Value.cells, hzc, hst]
theorem grown_setCell (w : World) (p : Addr) (v : Value) : w.grownBy (w.setCell p v) (some p.block) :=
  ⟨rfl, rfl, rfl, (KeepsWalks.setCell w _ v).size, fun k _ hk => Below.heap_setCell _ _ _ k (fun e => hk (by rw [e]))⟩
theorem grown_setCells3 (w : World) (b o : Nat) (x y z : Value) : w.grownBy (w.setCells b o [x, y, z]) (some b) :=
  World.grownBy.trans (grown_setCell w ⟨b, o, none⟩ x) (World.grownBy.trans (grown_setCell _ ⟨b, o + 1, none⟩ y) (grown_setCell _ ⟨b, o + 1 + 1, none⟩ z))
/-- Pools that are read stay so, whatever is stored behind them. -/
theorem C_behind {w : World} {g m o : Nat} {xs : List Pl} {vs : List Value} (h : Kd.C kP w (some ⟨g, 0, none⟩) m xs) (ho : m * 3 ≤ o) : Kd.C kP (w.setCells g o vs) (some ⟨g, 0, none⟩) m xs := by
  refine ⟨h.1, h.2.1, fun hn => ?_⟩
  obtain ⟨ad, e, hcell⟩ := h.2.2 hn
  cases e
  refine ⟨_, rfl, fun j p hj => ?_⟩
  obtain ⟨c, hs, hK, hc⟩ := hcell j p hj
  have hjl : j < m := by have := (List.getElem?_eq_some_iff.1 hj).1; have := h.1; omega
  have h3 : c.length = 3 := hs
  refine ⟨c, hs, by rw [B.k27_open hK]; exact B.k27_mk _ _, fun i u hu => ?_⟩
  have := hc i u hu
  have hi : i < 3 := by have := (List.getElem?_eq_some_iff.1 hu).1; omega
  have hz : kP.sz = 3 := rfl
  rw [hz] at this ⊢
  rw [add_plain] at this ⊢
  rw [World.cell?_setCells_out g vs o w ⟨g, j * 3 + i, none⟩ (fun _ _ => by show j * 3 + i < o ∨ o + vs.length ≤ j * 3 + i; omega)]
  exact this

/-- The cells of a row of one's own, up to its capacity. -/
theorem own_cells {w : World} {base g n cap : Nat} {ok : Nat → Prop} {xs : List Pl} (h : Kd.R kP 27 w base ok (.slice (some ⟨g, 0, none⟩) n cap) xs) (q : Nat) (hq : q < cap * 3) : (w.cell? ⟨g, q, none⟩).isSome = true ∧ w.frozen? ⟨g, q, none⟩ = false := by
  obtain ⟨_, inner, hown, _⟩ := h
  rcases hown.2 with ⟨hv, _⟩ | ⟨g', cap', cur, hv, hb, hh, _, hcm, hcs, htake⟩
  · cases hv
  · cases hv
    have hsz : cur.size = cap * 3 := hcs
    refine ⟨?_, by simp [World.frozen?, hh]⟩
    rw [cell_of_row w g q cur _ (0, 0) hh]
    rw [Array.getElem?_eq_getElem (by omega)]
    rfl

set_option maxRecDepth 100000 in
set_option maxHeartbeats 4000000 in
theorem delete_calls (g cap base : Nat) (l : List Pl) (k : Nat) (w : World) (hR : Kd.R kP 27 w base (fun _ => True) (.slice (some ⟨g, 0, none⟩) l.length cap) l) (hk : k < l.length) (hl : l.length ≤ 1000) (hb : base ≤ w.heap.size) :
    Calls Try.prog 42 #[.slice (some ⟨g, 0, none⟩) l.length cap, .int .i64 (k : Int), .int .i64 ((k : Int) + 1)] w fun e w' => e = .returned (.slice (some ⟨g, 0, none⟩) (l.eraseIdx k).length cap) ∧ (l.eraseIdx k).length ≤ cap ∧ Kd.C kP w' (some ⟨g, 0, none⟩) (l.eraseIdx k).length (l.eraseIdx k) ∧ w.grownBy w' (some g) := by
  obtain ⟨_, hcap, _⟩ := Kd.R_reads' hR
  have hki : (k : Int) < (l.length : Int) := by omega
  have hki1 : (k : Int) + 1 ≤ (l.length : Int) := by omega
  have hcapi : (l.length : Int) ≤ (cap : Int) := by omega
  have HR := Lib.hid hR
  clear hR
  have hel : Try.prog.elem 22 = 27 := by simp [Program.elem, Try.underlying22]
  have hu : Try.prog.underlying 22 = some (.slice (Try.prog.elem 22)) := by rw [hel]; exact Try.underlying22
  obtain ⟨i0, hi, hz0, hz1, hz2⟩ := info_parts infoP
  obtain ⟨AA, hAA⟩ : ∃ AA : Option Addr, AA = if cap = k + 1 then some ⟨g, 0, none⟩ else (some (⟨g, 0, none⟩ : Addr)).map (·.add ((k + 1) * 3)) := ⟨_, rfl⟩
  have hs1 : ∀ W : World, (Instr.slice 22 (.slice (some ⟨g, 0, none⟩) l.length cap) none (some (.int .i64 (k : Int))) none).run Try.prog W = .ok (.slice (some ⟨g, 0, none⟩) k cap) W := fun W => by
    rw [run_slice_h W 22 (some ⟨g, 0, none⟩) l.length cap hu .i64 (k : Int) (by omega) (by omega), hel]
    simp [sizeOf, typeInfo, hi, hz1, sliced, Result.andThen, Addr.add]
  have hs2 : ∀ W : World, (Instr.slice 22 (.slice (some ⟨g, 0, none⟩) l.length cap) (some (.int .i64 ((k : Int) + 1))) none none).run Try.prog W = .ok (.slice AA (l.length - (k + 1)) (cap - (k + 1))) W := fun W => by
    rw [run_slice_l W 22 (some ⟨g, 0, none⟩) l.length cap hu .i64 ((k : Int) + 1) (by omega) (by omega), hel, hAA]
    have e1 : ((k : Int) + 1).toNat = k + 1 := by omega
    simp [sizeOf, typeInfo, hi, hz1, sliced, Result.andThen, e1]
  have HAA := Lib.hid hAA
  have hle := eraseIdx_len l k hk
  have HLE := Lib.hid hle
  have HU := Lib.hid hu
  have HEL := Lib.hid hel
  have HI := Lib.hid hi
  have HZ1 := Lib.hid hz1
  clear hAA hle hu hel hi hz0 hz1 hz2
  go_enter Try.func42, Try.ntmps42
  go_wp2_with (fail)
  go_region_law ((refine Kd.R_delete_step kP (w0 := w) base (by rfl) _ _ 22 27 (by rfl) Try.underlying22 (by kernel_rfl) (g := g) (n := l.length) (c := cap) (k := k) (m := l.length - (k + 1)) (c2 := cap - (k + 1)) (A := AA) (xs := l) (ok := fun _ => True) (by rfl) (by rfl) HAA.out rfl (Kd.R_drew HR.out) hk (by exact below_drew ((Below.refl _ w).mono hb)) hb ?_; intro w1 hR1 hB1 hG1))
  all_goals
    obtain ⟨hq0, hcap2, hC1⟩ := Kd.R_reads' hR1
    clear hq0
    have hlen := HLE.out
    have hpos : 0 < l.length := by omega
    have hs3 : ∀ W : World, (Instr.slice 22 (.slice (some ⟨g, 0, none⟩) (l.length - 1) cap) (some (.int .i64 ((l.length - 1 : Nat) : Int))) (some (.int .i64 (l.length : Int))) none).run Try.prog W = .ok (.slice (some ⟨g, (l.length - 1) * 3, none⟩) 1 (cap - (l.length - 1))) W := fun W => by
      rw [run_slice_lh W 22 (some ⟨g, 0, none⟩) (l.length - 1) cap HU.out .i64 .i64 ((l.length - 1 : Nat) : Int) (l.length : Int) (by omega) (by omega) (by omega), HEL.out]
      have e1 : l.length - (l.length - 1) = 1 := by omega
      have e2 : ¬ cap = l.length - 1 := by omega
      simp [sizeOf, typeInfo, HI.out, HZ1.out, sliced, Result.andThen, e1, e2, add_plain]
    have hcl : ∀ ty, (Builtin.clear_ #[22] ty #[.slice (some ⟨g, (l.length - 1) * 3, none⟩) 1 (cap - (l.length - 1))]).run Try.prog w1 = .ok (.tuple #[]) (w1.setCells g ((l.length - 1) * 3) [.int .i64 0, .int .i64 0, .int .i64 0]) := fun ty =>
      run_clear_pool w1 ty g ((l.length - 1) * 3) _ (fun j hj => (own_cells hR1 _ (by omega)).1) (fun j hj => (own_cells hR1 _ (by omega)).2)
    have hCe := C_behind (vs := [.int .i64 0, .int .i64 0, .int .i64 0]) hC1 (o := (l.length - 1) * 3) (by omega)
    have hG : w.grownBy (w1.setCells g ((l.length - 1) * 3) [.int .i64 0, .int .i64 0, .int .i64 0]) (some g) := by
      refine World.grownBy.trans (World.grownBy.trans (grown_of_below (below_drew (Below.refl _ w)) _) hG1) ?_
      exact grown_setCells3 _ _ _ _ _ _
    have HCE := Lib.hid hCe
    have HGG := Lib.hid hG
    have HLEN := Lib.hid hlen
    clear hCe hG hC1 hR1 hB1 hG1 hlen
    go_wp2_with (fail)
    go_ret
    exact ⟨by rw [HLEN.out]; rfl, by rw [HLEN.out]; omega, HCE.out, HGG.out⟩
end Go.Proofs.Ytajofhjlkaenhaa.H
