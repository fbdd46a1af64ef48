import Derived.Test.YtiopafdndlodoaaBx
import Derived.Lib.Hide
import Derived.Lib.AppendZeros
import Derived.Lib.SliceRun
import Derived.Outline
import Derived.OwnWalk
import Derived.Maps.AppendAt
/-! The library's functions on slices of bytes: Clone, Grow (of none), Concat. -/
namespace Go.Proofs.Ytiopafdndlodoaa.H
open Go.RowKit Go.Proofs.YtiopafdndlodoaaW.PrintWords Go.Proofs.YtiopafdndlodoaaW.PrintLast Go.Proofs.YtiopafdndlodoaaW.PrintMore
set_option linter.unusedVariables false
set_option linter.unusedSimpArgs false

set_option maxRecDepth 100000 in
theorem infoU8 : (Try.prog.info? 5).map (fun i => (i.zero, i.size, i.bytes)) = some (some (.int .u8 0), 1, 1) := by kernel_rfl

set_option maxRecDepth 100000 in
set_option maxHeartbeats 2000000 in
theorem cloneB_calls (A : Option Addr) (c : Nat) (l : List Int) (w : World) (hR : Kd.C (Kd.int .u8) w A l.length l) (hc : l.length ≤ c) (hl : l.length ≤ 140737488355328) :
    Calls Try.prog 35 #[.slice A l.length c] w fun e w' => ∃ v : Value, e = .returned v ∧ Kd.R (Kd.int .u8) 5 w' w.heap.size (fun _ => True) v l ∧ Below w.heap.size w w' := by
  have q22 : ∀ (w : World) (a : Option Addr) (n c n' c' : Nat), (binOp .eql 29 (.slice a n c) (.slice none n' c')).run Try.prog w = .ok (.bool a.isNone) w := fun w a n c n' c' => Lib.run_eql_slice_nil w _ _ a n c n' c' Try.underlying29
  cases A with
  | none =>
    have h0 : l = [] := by
      rcases Nat.eq_zero_or_pos l.length with h | h
      · exact List.length_eq_zero_iff.1 h
      · obtain ⟨ad, e, _⟩ := hR.2.2 h
        cases e
    subst h0
    go_enter Try.func35, Try.ntmps35
    go_wp2_with (fail)
    go_ret
    exact ⟨_, rfl, Kd.R_nil _ _ _ _ _, Below.refl _ _⟩
  | some ad =>
    have HR := Lib.hid hR
    clear hR
    go_enter Try.func35, Try.ntmps35
    go_wp2_with (at_builtin; refine Kd.R_append_rows (Kd.int .u8) (Rr := fun x cs => cs = [.int .u8 x]) (w0 := w) w.heap.size rfl _ _ 29 5 (.int .u8 0) 1 rfl Try.underlying29 infoU8 rfl (by decide) (by decide) (.slice (some ⟨w.heap.size, 0, none⟩) 0 0) [] l (some ad) l.length c (fun _ => True) (fun _ => False) rfl rfl (Kd.R_of_own (h1 := fun _ => rfl) (World.ownsRow_made w #[] 0 (Nat.le_refl _) (Nat.zero_le _) (by simp)) (fun _ _ => trivial)) (Kd.C_below HR.out (below_alloc (Below.refl _ _) _)) (fun _ _ h => h) (fun _ h => h.elim) (fun _ _ => trivial) (below_alloc (Below.refl _ _) _) (by simp) (by simp; omega) ?_; intro v1 w1 hR1 hB1 hG1 _)
    go_ret
    exact ⟨_, rfl, by simpa using hR1, hB1⟩

set_option maxRecDepth 100000 in
set_option maxHeartbeats 2000000 in
theorem growB_calls (n : Nat) (w : World) (hl : n ≤ 140737488355328) :
    Calls Try.prog 61 #[.slice none 0 0, .int .i64 (n : Int)] w fun e w' => ∃ v : Value, e = .returned v ∧ Kd.R (Kd.int .u8) 5 w' w.heap.size (fun _ => True) v [] ∧ Below w.heap.size w w' := by
  obtain ⟨i0, hi, hz0, hz1, hz2⟩ := info_parts infoU8
  by_cases h0 : n = 0
  · subst h0
    go_enter Try.func61, Try.ntmps61
    go_wp2_with (fail)
    go_ret
    exact ⟨_, rfl, Kd.R_nil _ _ _ _ _, Below.refl _ _⟩
  · have hp : (0 : Int) < (n : Int) := by omega
    have HZ := Lib.run_append_nil_zeros (P := Try.prog) w 29 3 29 5 i0 (.int .u8 0) .u8 .i64 Try.underlying29 Try.underlying3 hi hz0 n (by omega) (by rw [hz1]; decide) (by omega) (by rw [hz2]; omega)
    have HH := Lib.hid HZ
    clear HZ
    go_enter Try.func61, Try.ntmps61
    go_wp2_with (at_builtin; refine Lib.wpList_append_run _ rfl _ _ _ _ rfl _ _ rfl rfl _ _ HH.out ?_)
    have hge := grownCap_ge w n 0 5
    have hle := grownCap_le_maxLen w n 0 5 (by unfold maxLen; omega)
    generalize grownCap w n 0 5 = cap at *
    go_ret
    refine ⟨_, rfl, Kd.R_drewN (Kd.R_of_own (h1 := fun _ => rfl) (World.ownsRow_made w _ cap (Nat.le_refl _) hle (by simp only [Array.size_append, size_zeroCells]; simp; omega)) (fun _ _ => trivial)) 1, below_drew (below_alloc (Below.refl _ _) _)⟩

set_option maxRecDepth 100000 in
theorem take_flat_succ {α : Type} (rows : List (List α)) (k : Nat) (h : k < rows.length) : (rows.take (k + 1)).flatten = (rows.take k).flatten ++ rows[k] := by
  rw [List.take_succ_eq_append_getElem h, List.flatten_append]
  simp
set_option maxRecDepth 100000 in
theorem take_flat_le {α : Type} (rows : List (List α)) (k : Nat) : (rows.take k).flatten.length ≤ rows.flatten.length := by
  have : rows.flatten = (rows.take k).flatten ++ (rows.drop k).flatten := by rw [← List.flatten_append, List.take_append_drop]
  rw [this, List.length_append]
  omega

set_option maxRecDepth 100000 in
/-- An element of a slice of slices, that is read. -/
theorem row_at {w : World} {A : Option Addr} {rows : List (List Int)} (h : Kd.C (Kd.slice 5 (Kd.int .u8)) w A rows.length rows) (k : Nat) (hk : k < rows.length) :
    ∃ ad A' c', A = some ad ∧ w.cell? (ad.add k) = some (.slice A' rows[k].length c') ∧ rows[k].length ≤ c' ∧ Kd.C (Kd.int .u8) w A' rows[k].length rows[k] := by
  obtain ⟨ad, e, hc⟩ := h.2.2 (by omega)
  obtain ⟨c, hs, ⟨A', c', rfl, hl, hr⟩, hcell⟩ := hc k _ (List.getElem?_eq_getElem hk)
  refine ⟨ad, A', c', e, ?_, hl, hr⟩
  have := hcell 0 _ rfl
  have e1 : (Kd.slice 5 (Kd.int .u8)).sz = 1 := rfl
  rw [e1] at this
  simpa using this

set_option maxRecDepth 100000 in
set_option maxHeartbeats 4000000 in
theorem concatB_calls (A : Option Addr) (c : Nat) (rows : List (List Int)) (w : World) (hR : Kd.C (Kd.slice 5 (Kd.int .u8)) w A rows.length rows) (hc : rows.length ≤ c) (hl : rows.flatten.length ≤ 140737488355328) :
    Calls Try.prog 51 #[.slice A rows.length c] w fun e w' => ∃ v : Value, e = .returned v ∧ Kd.R (Kd.int .u8) 5 w' w.heap.size (fun _ => True) v rows.flatten ∧ Below w.heap.size w w' := by
  have hrl : rows.length ≤ 9223372036854775807 := Kd.C_max hR
  go_enter Try.func51, Try.ntmps51
  go_wp2_with (fail)
  go_loop [3, 11] (fun s i => ∃ k : Nat, k ≤ rows.length ∧ i = .int .i64 (k : Int) ∧ s = .int .i64 ((rows.take k).flatten.length : Int)) (fun _ i => rows.length - (intOf i).toNat)
  case atStart => exact ⟨0, Nat.zero_le _, rfl, rfl⟩
  case round =>
    obtain ⟨k, hk, rfl, rfl⟩ := hrel
    have hle := take_flat_le rows k
    by_cases hlt : k < rows.length
    · have hlti : (k : Int) < (rows.length : Int) := by omega
      obtain ⟨ad, A', c', rfl, hcell, hl', hr'⟩ := row_at hR k hlt
      have hsu := take_flat_succ rows k hlt
      have hsl : (rows.take (k + 1)).flatten.length = (rows.take k).flatten.length + rows[k].length := by rw [hsu, List.length_append]
      have hle2 := take_flat_le rows (k + 1)
      have hb : (rows.take k).flatten.length + rows[k].length ≤ 140737488355328 := by omega
      generalize rows[k].length = m at *
      generalize (rows.take k).flatten.length = q at *
      have HS := Lib.hid hsl
      clear hsl hsu hle hle2
      go_wp2_with (fail)
      all_goals go_round
      case rel => exact ⟨k + 1, by omega, by go_num, by rw [HS.out]; go_num⟩
      case measure => simp [intOf]; omega
    · have hnl : ¬ ((k : Int) < (rows.length : Int)) := by omega
      obtain rfl : k = rows.length := by omega
      have hq0 : (rows.take rows.length).flatten.length = rows.flatten.length := by rw [List.take_length]
      rw [hq0]
      generalize hqq : rows.flatten.length = q at *
      have HQ := Lib.hid hqq
      clear hqq hq0 hle
      go_wp2_with (fail)
      refine (growB_calls q w hl).mono ?_
      rintro e w1 ⟨v1, rfl, hR1, hB1⟩
      go_wp2_with (fail)
      go_loopw [6, 27] (fun v i wr => ∃ k : Nat, k ≤ rows.length ∧ i = .int .i64 (k : Int) ∧ Kd.R (Kd.int .u8) 5 wr w.heap.size (fun _ => True) v (rows.take k).flatten ∧ Below w.heap.size w wr) (fun _ i _ => rows.length - (intOf i).toNat)
      case atStart => exact ⟨0, Nat.zero_le _, rfl, by simpa using hR1, hB1⟩
      case round =>
        obtain ⟨k, hk2, rfl, hRk, hBk⟩ := hrel
        have hle := take_flat_le rows k
        by_cases hlt2 : k < rows.length
        · have hlti2 : (k : Int) < (rows.length : Int) := by omega
          obtain ⟨ad, A', c', rfl, hcell, hl', hr'⟩ := row_at (Kd.C_below hR hBk) k hlt2
          have hsu := take_flat_succ rows k hlt2
          have hle2 := take_flat_le rows (k + 1)
          have hb : (rows.take k).flatten.length + rows[k].length ≤ 140737488355328 := by
            have := HQ.out
            have h2 := congrArg List.length hsu
            rw [List.length_append] at h2
            omega
          generalize rows[k] = x at *
          generalize (rows.take k).flatten = q2 at *
          have HS := Lib.hid hsu
          have HR' := Lib.hid hr'
          have HRk := Lib.hid hRk
          have HBk := Lib.hid hBk
          have hsz : w.heap.size ≤ wr.heap.size := hBk.size
          clear hsu hle hle2 hr' hRk hBk
          go_wp2_with (at_builtin; refine Kd.R_append_rows (Kd.int .u8) (Rr := fun x cs => cs = [.int .u8 x]) (w0 := w) w.heap.size rfl _ _ 29 5 (.int .u8 0) 1 rfl Try.underlying29 infoU8 rfl (by decide) (by decide) _ q2 x A' x.length c' (fun _ => True) (fun _ => False) rfl rfl HRk.out HR'.out (fun _ _ h => h) (fun _ h => h.elim) (fun _ _ => trivial) HBk.out hsz (by omega) ?_; intro v2 w2 hR2 hB2 hG2 _)
          go_roundw
          case rel => exact ⟨k + 1, by omega, by go_num, by rw [HS.out]; exact hR2, hB2⟩
          case measure => simp [intOf]; omega
        · have hnl2 : ¬ ((k : Int) < (rows.length : Int)) := by omega
          obtain rfl : k = rows.length := by omega
          rw [List.take_length] at hRk
          have HRk := Lib.hid hRk
          clear hRk hle
          go_wp2_with (fail)
          go_ret
          exact ⟨_, rfl, HRk.out, hBk⟩

/-! ### parts of a slice of bytes -/
set_option maxRecDepth 100000 in
theorem dropB (A : Option Addr) (c : Nat) (l : List Int) (j : Int) (h0 : 0 ≤ j) (hm : j ≤ l.length) (hc : l.length ≤ c) :
    ∃ A' : Option Addr, (∀ W : World, (Instr.slice 29 (.slice A l.length c) (some (.int .i64 j)) none none).run Try.prog W = .ok (.slice A' (l.drop j.toNat).length (c - j.toNat)) W) ∧
      (∀ w : World, Kd.C (Kd.int .u8) w A l.length l → Kd.C (Kd.int .u8) w A' (l.drop j.toNat).length (l.drop j.toNat)) ∧ (l.drop j.toNat).length ≤ c - j.toNat := by
  obtain ⟨i0, hi, hz0, hz1, hz2⟩ := info_parts infoU8
  obtain ⟨A', h1, h2, h3⟩ := print_drop_of (P := Try.prog) (Value.int .u8) (0 : Int) 29 5 .i64 Try.underlying29 hi hz1 A c l j h0 hm hc
  exact ⟨A', h1, fun w h => Kd.C_of_reads (h1 := fun _ => rfl) (h2 w (Kd.reads_of_C (h1 := fun _ => rfl) h)), h3⟩
set_option maxRecDepth 100000 in
theorem takeB (A : Option Addr) (c : Nat) (l : List Int) (j : Int) (h0 : 0 ≤ j) (hm : j ≤ l.length) (hc : l.length ≤ c) :
    (∀ W : World, (Instr.slice 29 (.slice A l.length c) none (some (.int .i64 j)) none).run Try.prog W = .ok (.slice A (l.take j.toNat).length c) W) ∧
      (∀ w : World, Kd.C (Kd.int .u8) w A l.length l → Kd.C (Kd.int .u8) w A (l.take j.toNat).length (l.take j.toNat)) ∧ (l.take j.toNat).length ≤ c := by
  obtain ⟨i0, hi, hz0, hz1, hz2⟩ := info_parts infoU8
  obtain ⟨h1, h2, h3⟩ := print_take_of (P := Try.prog) (Value.int .u8) (0 : Int) 29 5 .i64 Try.underlying29 hi hz1 A c l j h0 hm hc
  exact ⟨h1, fun w h => Kd.C_of_reads (h1 := fun _ => rfl) (h2 w (Kd.reads_of_C (h1 := fun _ => rfl) h)), h3⟩

set_option maxRecDepth 100000 in
/-- A literal of slices of bytes. -/
theorem lit_rows (W : World) (t : TypeId) (vals : List Value) (rows : List (List Int)) (hl : vals.length = rows.length) (hm : rows.length ≤ 9223372036854775807)
    (h : ∀ (j : Nat) (p : List Int), rows[j]? = some p → ∃ (A : Option Addr) (c : Nat), vals[j]? = some (Value.slice A p.length c) ∧ p.length ≤ c ∧ Kd.C (Kd.int .u8) W A p.length p) :
    Kd.C (Kd.slice 5 (Kd.int .u8)) (W.alloc (.cells vals.toArray t)) (some ⟨W.heap.size, 0, none⟩) rows.length rows := by
  refine ⟨rfl, hm, fun _ => ⟨_, rfl, fun j p hj => ?_⟩⟩
  obtain ⟨A, c, hv, hc, hC⟩ := h j p hj
  refine ⟨[Value.slice A p.length c], rfl, ⟨A, c, rfl, hc, Kd.C_alloc hC _⟩, fun i u hu => ?_⟩
  have hs : (Kd.slice 5 (Kd.int .u8)).sz = 1 := rfl
  cases i with
  | zero =>
    have hu' : Value.slice A p.length c = u := by simpa using hu
    subst hu'
    rw [hs, add_plain]
    rw [blk_cell (heap_alloc_new W _)]
    simpa using hv
  | succ i => simp at hu

end Go.Proofs.Ytiopafdndlodoaa.H
