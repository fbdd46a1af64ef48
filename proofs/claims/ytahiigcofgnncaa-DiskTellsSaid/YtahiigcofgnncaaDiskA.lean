import Derived.Test.YtahiigcofgnncaaBx
import Derived.Test.YtahiigcofgnncaaMoorDisk
import Derived.Lib.Hide
import Derived.Outline
import Derived.OwnWalk
import Derived.RangeFuncBox
import Derived.Maps.AppendAt
import Derived.Deep.RegionHeld3
import Derived.Deep.QuietTactic
import Derived.BigQuiet
/-! Layer 6: files as they lie; used, May, walked. -/
namespace Go.Proofs.Ytahiigcofgnncaa.H
open Go.RowKit Moor Go.Proofs.YtahiigcofgnncaaW.PrintWords Go.Proofs.YtahiigcofgnncaaW.PrintLast Go.Proofs.YtahiigcofgnncaaW.PrintMore
set_option linter.unusedVariables false
set_option linter.unusedSimpArgs false

/-- A file, of the printed kind. -/
abbrev toF (x : Fl) : B.S32 := ⟨x.no, x.data, x.sure⟩
abbrev kF : Kd Fl := Kd.iso B.k32 toF
abbrev kB : Kd Int := Kd.int .u8
theorem kF_open {w : World} {x : Fl} {cs : List Value} (h : kF.K w x cs) : ∃ A1 c1, cs = [.int .i64 x.no, .slice A1 x.data.length c1, .int .i64 x.sure] ∧ x.data.length ≤ c1 ∧ Kd.C kB w A1 x.data.length x.data := B.k32_open h
theorem kF_openM {w : World} {base : Nat} {ok : Nat → Prop} {x : Fl} {cs : List Value} (h : kF.M w base ok x cs) : ∃ v1, cs = [.int .i64 x.no, v1, .int .i64 x.sure] ∧ Kd.R kB 5 w base ok v1 x.data := B.k32_openM h
theorem kF_mk (w : World) (x : Fl) {A1 : Option Addr} {c1 : Nat} (l1 : x.data.length ≤ c1) (g1 : Kd.C kB w A1 x.data.length x.data) : kF.K w x [.int .i64 x.no, .slice A1 x.data.length c1, .int .i64 x.sure] := B.k32_mk w (toF x) l1 g1
theorem kF_mkM (w : World) (base : Nat) (ok : Nat → Prop) (x : Fl) {v1 : Value} (g1 : Kd.R kB 5 w base ok v1 x.data) : kF.M w base ok x [.int .i64 x.no, v1, .int .i64 x.sure] := B.k32_mkM w base ok (toF x) g1
theorem file_at {w : World} {A : Option Addr} {l : List Fl} (h : Kd.C kF w A l.length l) (k : Nat) (hk : k < l.length) :
    ∃ ad A1 c1, A = some ad ∧ w.cell? (ad.add (k * 3)) = some (.int .i64 l[k].no) ∧ w.cell? ⟨(ad.add (k * 3)).block, (ad.add (k * 3)).off + 1, none⟩ = some (.slice A1 l[k].data.length c1) ∧ w.cell? ⟨(ad.add (k * 3)).block, (ad.add (k * 3)).off + 2, none⟩ = some (.int .i64 l[k].sure) ∧ l[k].data.length ≤ c1 ∧ Kd.C kB w A1 l[k].data.length l[k].data := by
  obtain ⟨ad, e, hc⟩ := h.2.2 (by omega)
  obtain ⟨c, hl, hK, hcell⟩ := hc k _ (List.getElem?_eq_getElem hk)
  obtain ⟨A1, c1, rfl, h1, h2⟩ := kF_open hK
  have e0 := hcell 0 _ rfl
  have e1 := hcell 1 _ rfl
  have e2 := hcell 2 _ rfl
  have hs : kF.sz = 3 := rfl
  rw [hs] at e0 e1 e2
  refine ⟨ad, A1, c1, e, by simpa using e0, ?_, ?_, h1, h2⟩
  · rw [← e1]; congr 1; unfold Addr.add; split <;> simp_all [Nat.add_assoc]
  · rw [← e2]; congr 1; unfold Addr.add; split <;> simp_all [Nat.add_assoc]
/-- A block of plain cells. -/
def BoxC (W : World) (b : Nat) (cs : Array Value) (t : TypeId) : Prop := W.heap[b]? = some (.cells cs t (0, 0))
theorem BoxC.new (W : World) (cs : Array Value) (t : TypeId) : BoxC (W.alloc (.cells cs t)) W.heap.size cs t := heap_alloc_new W _
theorem BoxC.below {W W' : World} {b : Nat} {cs : Array Value} {t : TypeId} (h : BoxC W b cs t) (hb : Below W.heap.size W W') : BoxC W' b cs t := (hb.block b (blk_lt h)).trans h
theorem BoxC.alloc {W : World} {b : Nat} {cs : Array Value} {t : TypeId} (h : BoxC W b cs t) (o : Obj) : BoxC (W.alloc o) b cs t := h.below (below_alloc (Below.refl _ _) o)
theorem BoxC.c {W : World} {b : Nat} {cs : Array Value} {t : TypeId} (h : BoxC W b cs t) (i : Nat) {v : Value} (hi : cs[i]? = some v) : W.cell? ⟨b, i, none⟩ = some v := (blk_cell h i).trans hi
theorem BoxC.f {W : World} {b : Nat} {cs : Array Value} {t : TypeId} (h : BoxC W b cs t) (o : Nat) : W.frozen? ⟨b, o, none⟩ = false := by simp [World.frozen?, show W.heap[b]? = _ from h]
theorem BoxC.set {W : World} {b : Nat} {cs : Array Value} {t : TypeId} (h : BoxC W b cs t) (i : Nat) (v : Value) : BoxC (W.setCell ⟨b, i, none⟩ v) b (cs.setIfInBounds i v) t := by
  obtain ⟨hlt, hk⟩ := Array.getElem?_eq_some_iff.1 h
  show (W.heap.modify b _)[b]? = _
  rw [Array.getElem?_eq_getElem (by rw [Array.size_modify]; exact hlt), Array.getElem_modify_self, hk]
  rfl
theorem BoxC.other {W : World} {b : Nat} {cs : Array Value} {t : TypeId} (h : BoxC W b cs t) (p : Addr) (v : Value) (hp : b ≠ p.block) : BoxC (W.setCell p v) b cs t := (Below.heap_setCell W p v b hp).trans h
theorem below_onR {w8 W0 W1 : World} (h : Below W0.heap.size W0 W1) (g : Below w8.heap.size w8 W0) : Below w8.heap.size w8 W1 := g.trans (h.mono g.size)
/-- A disk's cells. -/
abbrev cellsD (cap : Int) (A : Option Addr) (n c : Nat) : Array Value := #[.int .i64 cap, .slice A n c]
theorem usedF_take_succ (l : List Fl) (k : Nat) (h : k < l.length) : usedF (l.take (k + 1)) = usedF (l.take k) + l[k].data.length := by
  induction l generalizing k with
  | nil => simp at h
  | cons f l ih =>
    cases k with
    | zero => simp [usedF]
    | succ k => simp only [List.take_succ_cons, usedF]; rw [ih k (by simpa using h)]; simp; omega
theorem usedF_take_le (l : List Fl) (k : Nat) : usedF (l.take k) ≤ usedF l := by
  induction l generalizing k with
  | nil => simp
  | cons f l ih =>
    cases k with
    | zero => simp [usedF]
    | succ k => simp only [List.take_succ_cons, usedF]; have := ih k; omega

set_option maxRecDepth 100000 in
set_option maxHeartbeats 4000000 in
theorem used_calls (A : Option Addr) (c : Nat) (l : List Fl) (w : World) (hR : Kd.C kF w A l.length l) (hc : l.length ≤ c) (hu : usedF l ≤ 4611686018427387904) :
    Calls Try.prog 31 #[.slice A l.length c] w fun e w' => e = .returned (.int .i64 (usedF l)) ∧ Below w.heap.size w w' := by
  have hll : l.length ≤ 9223372036854775807 := Kd.C_max hR
  go_enter Try.func31, Try.ntmps31
  go_wp2_with (fail)
  go_loopw [3, 8] (fun s i wr => ∃ k : Nat, k ≤ l.length ∧ i = .int .i64 (k : Int) ∧ s = .int .i64 (usedF (l.take k) : Int) ∧ Below w.heap.size w wr) (fun _ i _ => l.length - (intOf i).toNat)
  case atStart => exact ⟨0, Nat.zero_le _, rfl, rfl, Below.refl _ _⟩
  case round =>
    obtain ⟨k, hk, rfl, rfl, hB⟩ := hrel
    by_cases hlt : k < l.length
    · have hlti : (k : Int) < (l.length : Int) := by omega
      obtain ⟨ad, A1, c1, rfl, h0, h1, h2, -, -⟩ := file_at (Kd.C_below hR hB) k hlt
      have hs := usedF_take_succ l k hlt
      have hle := usedF_take_le l (k + 1)
      generalize usedF (l.take k) = u at *
      obtain ⟨u2, hu2⟩ : ∃ u2, usedF (l.take (k + 1)) = u2 := ⟨_, rfl⟩
      rw [hu2] at hs hle
      generalize l[k].data.length = n at *
      have HS := Lib.hid (hu2.trans hs)
      have hun : u + n ≤ 4611686018427387904 := by omega
      clear hs hle hu2
      go_wp2_with (fail)
      go_roundw
      case rel => exact ⟨k + 1, by omega, by go_num, by rw [HS.out]; go_num, below_alloc hB _⟩
      case measure => simp [intOf]; omega
    · have hnl : ¬ ((k : Int) < (l.length : Int)) := by omega
      obtain rfl : k = l.length := by omega
      rw [List.take_length] at *
      go_wp2_with (fail)
      go_ret
      exact ⟨rfl, hB⟩

theorem risF_drop (l : List Fl) (p : Int) (k : Nat) (h : k < l.length) : risF p (l.drop k) ↔ (p < l[k].no ∧ l[k].no ≤ 1073741824 ∧ 0 ≤ l[k].sure ∧ l[k].sure ≤ l[k].data.length ∧ risF l[k].no (l.drop (k + 1))) := by
  rw [List.drop_eq_getElem_cons h]
  rfl
theorem mayD_iff (cap : Int) (l : List Fl) : mayD ⟨cap, l⟩ ↔ (risF 0 l ∧ 0 ≤ cap ∧ cap ≤ 65536 ∧ l.length ≤ 12 ∧ (usedF l : Int) ≤ cap) := Iff.rfl

set_option maxRecDepth 100000 in
set_option maxHeartbeats 8000000 in
theorem may_calls (cap : Int) (A : Option Addr) (c : Nat) (l : List Fl) (w : World) (hR : Kd.C kF w A l.length l) (hc : l.length ≤ c) (hu : usedF l ≤ 4611686018427387904) :
    Calls Try.prog 12 #[.agg (cellsD cap A l.length c)] w fun e w' => e = .returned (.bool (decide (mayD ⟨cap, l⟩))) ∧ Below w.heap.size w w' := by
  have hll : l.length ≤ 9223372036854775807 := Kd.C_max hR
  have bD := BoxC.new w (cellsD cap A l.length c) 24
  have hb0 := below_alloc (Below.refl w.heap.size w) (.cells (cellsD cap A l.length c) 24)
  obtain ⟨b, hbb⟩ : ∃ b, decide (mayD ⟨cap, l⟩) = b := ⟨_, rfl⟩
  rw [hbb]
  have HB := Lib.hid hbb
  have HR := Lib.hid hR
  have d0 := bD.c 0 rfl
  have d1 := bD.c 1 rfl
  clear hbb hR
  go_enter Try.func12, Try.ntmps12
  go_wp2_with (fail)
  go_loopw [3, 9] (fun s i wr => ∃ (k : Nat) (p : Int), k ≤ l.length ∧ i = .int .i64 (k : Int) ∧ s = .int .i64 p ∧ Hid (risF 0 l ↔ risF p (l.drop k)) ∧ BoxC wr w.heap.size (cellsD cap A l.length c) 24 ∧ Below w.heap.size w wr) (fun _ i _ => l.length - (intOf i).toNat)
  case atStart => exact ⟨0, 0, Nat.zero_le _, rfl, rfl, Lib.hid Iff.rfl, bD, hb0⟩
  case round =>
    clear bD hb0 d0 d1
    obtain ⟨k, p, hk, rfl, rfl, hs, bD, hB⟩ := hrel
    have d0 := bD.c 0 rfl
    have d1 := bD.c 1 rfl
    by_cases hlt : k < l.length
    · have hlti : (k : Int) < (l.length : Int) := by omega
      obtain ⟨ad, A1, c1, rfl, h0, h1, h2, -, -⟩ := file_at (Kd.C_below HR.out hB) k hlt
      have hst := hs.out.trans (risF_drop l p k hlt)
      have hB1 : Below w.heap.size w (wr.alloc (.cells #[.int .i64 l[k].no, .slice A1 l[k].data.length c1, .int .i64 l[k].sure] 32)) := below_alloc hB _
      have bD1 := bD.alloc (.cells #[.int .i64 l[k].no, .slice A1 l[k].data.length c1, .int .i64 l[k].sure] 32)
      have ln := List.length_drop (i := k + 1) (l := l)
      generalize l[k].no = no at *
      generalize l[k].sure = sr at *
      generalize l[k].data.length = dn at *
      have HST := Lib.hid hst
      have BD1 := Lib.hid bD1
      clear hst hs bD bD1 ln
      have bad : (¬ (p < no ∧ no ≤ 1073741824 ∧ 0 ≤ sr ∧ sr ≤ (dn : Int))) → b = false := fun h => by
        rw [← HB.out]
        exact decide_eq_false (fun g => h (by obtain ⟨a1, a2, a3, a4, a5⟩ := HST.out.1 g.1; exact ⟨a1, a2, a3, a4⟩))
      have BAD := Lib.hid bad
      clear bad
      by_cases g1 : no ≤ p
      · go_wp2_with (fail)
        go_ret
        exact ⟨by rw [BAD.out (by omega)]; rfl, hB1⟩
      · by_cases g2 : 1073741824 < no
        · go_wp2_with (fail)
          go_ret
          exact ⟨by rw [BAD.out (by omega)]; rfl, hB1⟩
        · by_cases g3 : sr < 0
          · go_wp2_with (fail)
            go_ret
            exact ⟨by rw [BAD.out (by omega)]; rfl, hB1⟩
          · by_cases g4 : (dn : Int) < sr
            · go_wp2_with (fail)
              go_ret
              exact ⟨by rw [BAD.out (by omega)]; rfl, hB1⟩
            · go_wp2_with (fail)
              go_roundw
              case rel => exact ⟨k + 1, no, by omega, by go_num, rfl, Lib.hid (HST.out.trans ⟨fun h => h.2.2.2.2, fun h => ⟨by omega, by omega, by omega, by omega, h⟩⟩), BD1.out, hB1⟩
              case measure => simp [intOf]; omega
    · have hnl : ¬ ((k : Int) < (l.length : Int)) := by omega
      obtain rfl : k = l.length := by omega
      have hris : risF 0 l := hs.out.2 (by rw [List.drop_length]; trivial)
      have hf : (0 ≤ cap ∧ cap ≤ 65536 ∧ l.length ≤ 12 ∧ (usedF l : Int) ≤ cap) ↔ b = true := by
        rw [← HB.out, decide_eq_true_iff, mayD_iff]
        exact ⟨fun h => ⟨hris, h⟩, fun h => h.2⟩
      have HF := Lib.hid hf
      have BD := Lib.hid bD
      clear hf hris hs bD
      have no : ∀ h : ¬ (0 ≤ cap ∧ cap ≤ 65536 ∧ l.length ≤ 12 ∧ (usedF l : Int) ≤ cap), b = false := fun h => by
        cases b with
        | false => rfl
        | true => exact absurd (HF.out.2 rfl) h
      have NO := Lib.hid no
      clear no
      by_cases g1 : cap < 0
      · have n1 : decide ((0 : Int) ≤ cap) = false := decide_eq_false (by omega)
        go_wp2_with (fail)
        go_quiet (fail)
        all_goals
          go_wp2_with (fail)
          go_ret
          exact ⟨by rw [NO.out (by omega)]; rfl, pw_below_drewN hB _⟩
      · have n1 : (0 : Int) ≤ cap := by omega
        by_cases g2 : 65536 < cap
        · have n2 : decide (cap ≤ (65536 : Int)) = false := decide_eq_false (by omega)
          go_wp2_with (fail)
          go_quiet (fail)
          all_goals
            go_wp2_with (fail)
            go_ret
            exact ⟨by rw [NO.out (by omega)]; rfl, pw_below_drewN hB _⟩
        · have n2 : cap ≤ 65536 := by omega
          by_cases g3 : 12 < l.length
          · have g3i : decide ((l.length : Int) ≤ 12) = false := decide_eq_false (by omega)
            go_wp2_with (fail)
            go_quiet (fail)
            all_goals
              go_wp2_with (fail)
              go_ret
              exact ⟨by rw [NO.out (by omega)]; rfl, pw_below_drewN hB _⟩
          · have g3i : (l.length : Int) ≤ 12 := by omega
            have HU := Lib.hid (Kd.C_below HR.out hB)
            have HSS := Lib.hid (show ∀ W, Below wr.heap.size wr W → Below wr.heap.size wr W ∧ W.cell? ⟨w.heap.size, 0, none⟩ = some (.int .i64 cap) ∧ W.cell? ⟨w.heap.size, 1, none⟩ = some (.slice A l.length c) from fun W h => ⟨h, (BD.out.below h).c 0 rfl, (BD.out.below h).c 1 rfl⟩)
            have D0 := Lib.hid (show Below wr.heap.size wr wr.drew from (Below.refl _ wr).drew)
            obtain ⟨u, hu1⟩ : ∃ u, usedF l = u := ⟨_, rfl⟩
            rw [hu1] at HF NO
            have HU1 := Lib.hid hu1
            clear hu1
            by_cases g4 : (u : Int) ≤ cap
            · have hbt : b = true := HF.out.1 ⟨by omega, by omega, by omega, g4⟩
              subst hbt
              go_wp2_with (fail)
              go_region_held3 (fun W => Below wr.heap.size wr W ∧ W.cell? ⟨w.heap.size, 0, none⟩ = some (.int .i64 cap) ∧ W.cell? ⟨w.heap.size, 1, none⟩ = some (.slice A l.length c))
                (first | (with_reducible exact HSS.out _ D0.out) | (with_reducible exact HSS.out _ D1.out))
                ((go_at_call 31; refine (used_calls A c l _ (Kd.C_below HU.out D0.out) hc hu).mono ?_; rintro e v1 ⟨rfl, hq1⟩; rw [HU1.out]; have D1 := Lib.hid (below_onR hq1 D0.out)))
              all_goals
                go_wp2_with (fail)
                go_ret
                exact ⟨rfl, hB.trans (D1.out.mono hB.size)⟩
            · have hbt : b = false := NO.out (by omega)
              subst hbt
              go_wp2_with (fail)
              go_region_held3 (fun W => Below wr.heap.size wr W ∧ W.cell? ⟨w.heap.size, 0, none⟩ = some (.int .i64 cap) ∧ W.cell? ⟨w.heap.size, 1, none⟩ = some (.slice A l.length c))
                (first | (with_reducible exact HSS.out _ D0.out) | (with_reducible exact HSS.out _ D1.out))
                ((go_at_call 31; refine (used_calls A c l _ (Kd.C_below HU.out D0.out) hc hu).mono ?_; rintro e v1 ⟨rfl, hq1⟩; rw [HU1.out]; have D1 := Lib.hid (below_onR hq1 D0.out)))
              all_goals
                go_wp2_with (fail)
                go_ret
                exact ⟨by simp [g4], hB.trans (D1.out.mono hB.size)⟩
end Go.Proofs.Ytahiigcofgnncaa.H
