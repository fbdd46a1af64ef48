import Derived.Test.YtajofhjlkaenhaaPoolA
/-! Layer 11: May, Gives, room, walked. -/
namespace Go.Proofs.Ytajofhjlkaenhaa.H
open Go.RowKit Go.Proofs.YtajofhjlkaenhaaW.PrintWords Go.Proofs.YtajofhjlkaenhaaW.PrintLast Go.Proofs.YtajofhjlkaenhaaW.PrintMore
set_option linter.unusedVariables false
set_option linter.unusedSimpArgs false

/-- .. as the program reckons it. -/
def meetW (p q : Pl) : Bool := decide (p.f0 < wrap64 (q.f0 + q.f1) ∧ q.f0 < wrap64 (p.f0 + p.f1))
def mayW : List Pl → List Pl → Int → Bool
  | _, [], _ => true
  | pre, p :: l, out => fitsP p out && !(pre.any (meetW p)) && mayW (pre ++ [p]) l out
def maysP (l : List Pl) (out : Int) : Bool := decide (0 ≤ out ∧ out ≤ 4 ∧ l.length ≤ 3) && mayW [] l out

theorem meet_tells (p q : Pl) : B.pool_meet.f p.f0 p.f1 p.f2 q.f0 q.f1 q.f2 = some (meetW p q) := by
  unfold B.pool_meet.f meetW
  by_cases h : p.f0 < wrap64 (q.f0 + q.f1)
  · rw [if_pos h]
    congr 1
    apply decide_eq_decide.2
    exact ⟨fun g => ⟨h, g⟩, fun g => g.2⟩
  · rw [if_neg h, decide_eq_false (fun g => h g.1)]
theorem meet_calls (p q : Pl) (w : World) : Calls Try.prog 28 #[pv p, pv q] w fun e w' => e = .returned (.bool (meetW p q)) ∧ Below w.heap.size w w' :=
  B.pool_meet.calls p.f0 p.f1 p.f2 q.f0 q.f1 q.f2 _ w (meet_tells p q)
theorem fits_tells (p : Pl) (out : Int) (ho : out ≤ 4) : B.pool_fits.f p.f0 p.f1 p.f2 out = some (fitsP p out) := by
  unfold B.pool_fits.f fitsP
  by_cases a : p.f0 ≥ 0
  · by_cases b : p.f1 ≥ 1
    · by_cases c : p.f0 < out
      · have hw : wrap64 (out - p.f0) = out - p.f0 := by unfold wrap64; omega
        rw [if_pos a, if_pos b, if_pos c, hw]
        by_cases d : p.f1 ≤ out - p.f0
        · by_cases e : p.f2 ≥ 0
          · rw [if_pos d, if_pos e]
            congr 1
            apply decide_eq_decide.2
            omega
          · rw [if_pos d, if_neg e, decide_eq_false (by omega)]
        · rw [if_neg d, decide_eq_false (by omega)]
      · rw [if_pos a, if_pos b, if_neg c, decide_eq_false (by omega)]
    · rw [if_pos a, if_neg b, decide_eq_false (by omega)]
  · rw [if_neg a, decide_eq_false (by omega)]
theorem fits_calls (p : Pl) (out : Int) (ho : out ≤ 4) (w : World) : Calls Try.prog 29 #[pv p, .int .i64 out] w fun e w' => e = .returned (.bool (fitsP p out)) ∧ Below w.heap.size w w' :=
  B.pool_fits.calls p.f0 p.f1 p.f2 out _ w (fits_tells p out ho)

/-- A box of a pool. -/
def BoxP (W : World) (B0 : Nat) (p : Pl) : Prop := W.heap[B0]? = some (.cells #[.int .i64 p.f0, .int .i64 p.f1, .int .i64 p.f2] 27 (0, 0))
theorem BoxP.new (W : World) (p : Pl) : BoxP (W.alloc (.cells #[.int .i64 p.f0, .int .i64 p.f1, .int .i64 p.f2] 27)) W.heap.size p := heap_alloc_new W _
theorem BoxP.alloc {W : World} {B0 : Nat} {p : Pl} (h : BoxP W B0 p) (o : Obj) : BoxP (W.alloc o) B0 p := by
  have hlt := blk_lt h
  show (W.heap.push o)[B0]? = _
  rw [Array.getElem?_push_lt hlt]
  rw [← Array.getElem?_eq_getElem hlt]
  exact h
theorem BoxP.c0 {W : World} {B0 : Nat} {p : Pl} (h : BoxP W B0 p) : W.cell? ⟨B0, 0, none⟩ = some (.int .i64 p.f0) := (blk_cell h 0).trans rfl
theorem BoxP.c1 {W : World} {B0 : Nat} {p : Pl} (h : BoxP W B0 p) : W.cell? ⟨B0, 1, none⟩ = some (.int .i64 p.f1) := (blk_cell h 1).trans rfl
theorem BoxP.c2 {W : World} {B0 : Nat} {p : Pl} (h : BoxP W B0 p) : W.cell? ⟨B0, 2, none⟩ = some (.int .i64 p.f2) := (blk_cell h 2).trans rfl
theorem BoxP.below {W W' : World} {B0 : Nat} {p : Pl} (h : BoxP W B0 p) (hb : Below W.heap.size W W') : BoxP W' B0 p := (hb.block B0 (blk_lt h)).trans h

set_option maxHeartbeats 1000000 in
theorem may1_calls (B0 : Nat) (p q : Pl) (w : World) (hb : BoxP w B0 p) :
    Calls Try.prog 27 #[pv q, .pointer (some ⟨B0, 0, none⟩)] w fun e w' => e = .returned (.bool (meetW p q)) ∧ Below w.heap.size w w' := by
  have k0 : ∀ o, (w.alloc o).cell? ⟨B0, 0, none⟩ = some (.int .i64 p.f0) := fun o => (hb.alloc o).c0
  have k1 : ∀ o, (w.alloc o).cell? ⟨B0, 1, none⟩ = some (.int .i64 p.f1) := fun o => (hb.alloc o).c1
  have k2 : ∀ o, (w.alloc o).cell? ⟨B0, 2, none⟩ = some (.int .i64 p.f2) := fun o => (hb.alloc o).c2
  clear hb
  go_enter Try.func27, Try.ntmps27
  go_wp2_with (fail)
  refine (meet_calls p q _).mono ?_
  rintro e w1 ⟨rfl, hb1⟩
  go_wp2_with (fail)
  go_ret
  exact ⟨rfl, (below_alloc (Below.refl _ w) _).trans (hb1.mono (by simp))⟩

theorem infoP : (Try.prog.info? 27).map (fun i => (i.zero, i.size, i.bytes)) = some (some (.agg #[(.int .i64 0), (.int .i64 0), (.int .i64 0)]), 3, 24) := by kernel_rfl
theorem eg_may1 : ∀ args w, (callFunc 27 args).run Try.prog w = .ok (.enter 27 args) w := fun args w => by simp [go_sem]

/-- A beginning of a slice of pools. -/
theorem takeP (A : Option Addr) (c : Nat) (l : List Pl) (j : Nat) (hm : j ≤ l.length) (hc : l.length ≤ c) :
    (∀ W : World, (Instr.slice 22 (.slice A l.length c) none (some (.int .i64 (j : Int))) none).run Try.prog W = .ok (.slice A (l.take j).length c) W) ∧
      (∀ w : World, Kd.C kP w A l.length l → Kd.C kP w A (l.take j).length (l.take j)) ∧ (l.take j).length ≤ c := by
  obtain ⟨i0, hi, hz0, hz1, hz2⟩ := info_parts infoP
  have hl : (l.take j).length = j := by simp; omega
  refine ⟨fun W => ?_, fun w h => ⟨rfl, by have := h.2.1; omega, fun hn => ?_⟩, by omega⟩
  · have hel : Try.prog.elem 22 = 27 := by simp [Program.elem, Try.underlying22]
    have hu : Try.prog.underlying 22 = some (.slice (Try.prog.elem 22)) := by rw [hel]; exact Try.underlying22
    have ha : (A.map fun x => x.add 0) = A := by cases A <;> simp [Addr.add]
    rw [run_slice_h W 22 A l.length c hu .i64 (j : Int) (by omega) (by omega), hel, hl]
    simp [sizeOf, typeInfo, hi, hz1, sliced, Result.andThen, ha]
  · obtain ⟨ad, e, hcell⟩ := h.2.2 (by omega)
    refine ⟨ad, e, fun i p hp => hcell i p ?_⟩
    have := List.getElem?_take (l := l) (i := j) (j := i)
    rw [this] at hp
    split at hp
    · exact hp
    · cases hp

theorem mayW_drop (l : List Pl) (out : Int) (k : Nat) (h : k < l.length) : mayW (l.take k) (l.drop k) out = (fitsP l[k] out && !((l.take k).any (meetW l[k])) && mayW (l.take (k + 1)) (l.drop (k + 1)) out) := by
  rw [List.drop_eq_getElem_cons h, List.take_succ_eq_append_getElem h]
  rfl

set_option maxRecDepth 100000 in
set_option maxHeartbeats 4000000 in
theorem may_calls (A : Option Addr) (c : Nat) (l : List Pl) (out : Int) (w : World) (hR : Kd.C kP w A l.length l) (hc : l.length ≤ c) :
    Calls Try.prog 11 #[.slice A l.length c, .int .i64 out] w fun e w' => e = .returned (.bool (maysP l out)) ∧ Below w.heap.size w w' := by
  have hll : l.length ≤ 9223372036854775807 := Kd.C_max hR
  by_cases g1 : out < 0
  · have hm : maysP l out = false := by unfold maysP; rw [decide_eq_false (by omega)]; rfl
    have HM := Lib.hid hm
    clear hm
    go_enter Try.func11, Try.ntmps11
    go_wp2_with (fail)
    go_ret
    exact ⟨by rw [HM.out]; rfl, Below.refl _ _⟩
  · by_cases g2 : 4 < out
    · have hm : maysP l out = false := by unfold maysP; rw [decide_eq_false (by omega)]; rfl
      have HM := Lib.hid hm
      clear hm
      go_enter Try.func11, Try.ntmps11
      go_wp2_with (fail)
      go_ret
      exact ⟨by rw [HM.out]; rfl, Below.refl _ _⟩
    · by_cases g3 : (3 : Int) < (l.length : Int)
      · have hm : maysP l out = false := by unfold maysP; rw [decide_eq_false (by omega)]; rfl
        have HM := Lib.hid hm
        clear hm
        go_enter Try.func11, Try.ntmps11
        go_wp2_with (fail)
        go_ret
        exact ⟨by rw [HM.out]; rfl, Below.refl _ _⟩
      · have hm : maysP l out = mayW [] l out := by unfold maysP; rw [decide_eq_true (by omega)]; rfl
        have HM := Lib.hid hm
        have ho : out ≤ 4 := by omega
        clear hm
        go_enter Try.func11, Try.ntmps11
        go_wp2_with (fail)
        go_loopw [21] (fun i wr => ∃ k : Nat, k ≤ l.length ∧ i = .int .i64 (k : Int) ∧ Hid (mayW [] l out = mayW (l.take k) (l.drop k) out) ∧ Below w.heap.size w wr) (fun i _ => l.length - (intOf i).toNat)
        case atStart => exact ⟨0, Nat.zero_le _, rfl, Lib.hid rfl, Below.refl _ _⟩
        case round =>
          obtain ⟨k, hk, rfl, hs, hB⟩ := hrel
          by_cases hlt : k < l.length
          · have hlti : (k : Int) < (l.length : Int) := by omega
            obtain ⟨ad, rfl, h0, h1, h2⟩ := at_pool (Kd.C_below hR hB) k hlt
            obtain ⟨t1, t2, t3⟩ := takeP (some ad) c l k hk hc
            have hnx := mayW_drop l out k hlt
            generalize hx : l[k] = x at *
            generalize hlk : l.take k = lk at *
            have HN := Lib.hid hnx
            have T2 := Lib.hid t2
            have HR := Lib.hid hR
            clear hnx hx t2 hR hlk
            cases hf : fitsP x out with
            | false =>
              have hr : maysP l out = false := by rw [HM.out, hs.out, HN.out, hf]; rfl
              have HV := Lib.hid hr
              clear hr hs HN HM
              go_wp2_with (fail)
              refine (fits_calls x out ho _).mono ?_
              rintro e w1 ⟨rfl, hb1⟩
              rw [hf]
              clear hf
              have hB1 : Below w.heap.size w w1 := (below_alloc hB _).trans (hb1.mono (by have := hB.size; simp; omega))
              go_wp2_with (fail)
              go_ret
              exact ⟨by rw [HV.out]; rfl, hB1⟩
            | true =>
              go_wp2_with (fail)
              refine (fits_calls x out ho _).mono ?_
              rintro e w1 ⟨rfl, hb1⟩
              rw [hf]
              rw [hf] at HN
              clear hf
              have hbx : BoxP w1 wr.heap.size x := (BoxP.new wr x).below hb1
              have hB1 : Below w.heap.size w w1 := (below_alloc hB _).trans (hb1.mono (by have := hB.size; simp; omega))
              clear hb1
              go_wp2_with (fail)
              refine (containsFunc_calls (some ad) c lk 27 #[.pointer (some ⟨wr.heap.size, 0, none⟩)] (meetW x) w1 (T2.out _ (Kd.C_below HR.out hB1)) t3 (fun q W hW => may1_calls wr.heap.size x q W (hbx.below hW)) eg_may1).mono ?_
              rintro e w2 ⟨rfl, hb2⟩
              have hB2 : Below w.heap.size w w2 := hB1.trans (hb2.mono hB1.size)
              cases hm : lk.any (meetW x) with
              | true =>
                rw [hm] at HN
                have hr : maysP l out = false := by rw [HM.out, hs.out, HN.out]; rfl
                have HV := Lib.hid hr
                clear hr hs HN HM hm
                go_wp2_with (fail)
                go_ret
                exact ⟨by rw [HV.out]; rfl, hB2⟩
              | false =>
                rw [hm] at HN
                have hr : mayW [] l out = mayW (l.take (k + 1)) (l.drop (k + 1)) out := by rw [hs.out, HN.out]; simp
                have HV := Lib.hid hr
                have hR := HR.out
                clear hr hs HN hm
                go_wp2_with (fail)
                go_roundw
                case rel => exact ⟨k + 1, by omega, by go_num, HV, hB2⟩
                case measure => simp [intOf]; omega
          · have hnl : ¬ ((k : Int) < (l.length : Int)) := by omega
            obtain rfl : k = l.length := by omega
            have hr : maysP l out = true := by rw [HM.out, hs.out, List.drop_length]; rfl
            have HV := Lib.hid hr
            clear hr hs HM
            go_wp2_with (fail)
            go_ret
            exact ⟨by rw [HV.out]; rfl, hB⟩
end Go.Proofs.Ytajofhjlkaenhaa.H
