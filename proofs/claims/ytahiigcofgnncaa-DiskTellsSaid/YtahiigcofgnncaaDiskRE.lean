import Derived.Test.YtahiigcofgnncaaDiskO
import Derived.IntWalk
import Derived.Test.YtahiigcofgnncaaDiskY
import Derived.Maps.AppendAt
import Derived.Lib.AppendZeros
import Derived.Test.YtahiigcofgnncaaDiskU
import Derived.Test.YtahiigcofgnncaaDiskV
import Derived.Test.YtahiigcofgnncaaDiskF
import Derived.Test.YtahiigcofgnncaaDiskZ
/-! Layer 6: the reference's used, May, walked. -/
namespace Go.Proofs.Ytahiigcofgnncaa.H
open Go.RowKit Moor Go.Proofs.YtahiigcofgnncaaW.PrintWords Go.Proofs.YtahiigcofgnncaaW.PrintLast Go.Proofs.YtahiigcofgnncaaW.PrintMore
set_option linter.unusedVariables false
set_option linter.unusedSimpArgs false

set_option maxRecDepth 100000 in
set_option maxHeartbeats 4000000 in
theorem refUsed_calls (A : Option Addr) (c : Nat) (l : List Fl) (w : World) (hR : Kd.C kF w A l.length l) (hc : l.length ≤ c) (hu : usedF l ≤ 4611686018427387904) :
    Calls Try.prog 40 #[.slice A l.length c] w fun e w' => e = .returned (.int .i64 (usedF l)) ∧ Below w.heap.size w w' := by
  have hll : l.length ≤ 9223372036854775807 := Kd.C_max hR
  go_enter Try.func40, Try.ntmps40
  go_wp2_with (fail)
  go_loopw [3, 4] (fun s i wr => ∃ k : Nat, k ≤ l.length ∧ i = .int .i64 (k : Int) ∧ s = .int .i64 (usedF (l.take k) : Int) ∧ Below w.heap.size w wr) (fun _ i _ => l.length - (intOf i).toNat)
  case atStart => exact ⟨0, Nat.zero_le _, rfl, rfl, Below.refl _ _⟩
  case round =>
    obtain ⟨k, hk, rfl, rfl, hB⟩ := hrel
    by_cases hlt : k < l.length
    · have hlti : (k : Int) < (l.length : Int) := by omega
      obtain ⟨ad, A1, c1, rfl, h0, h1, h2, -, -⟩ := file_at (Kd.C_below hR hB) k hlt
      have hs := usedF_take_succ l k hlt
      have hle := usedF_take_le l (k + 1)
      generalize usedF (l.take k) = u at *
      obtain ⟨u2, hu2⟩ : ∃ u2, usedF (l.take (k + 1)) = u2 := ⟨_, rfl⟩
      rw [hu2] at hs hle
      generalize l[k].data.length = n at *
      have HS := Lib.hid (hu2.trans hs)
      have hun : u + n ≤ 4611686018427387904 := by omega
      clear hs hle hu2
      go_wp2_with (fail)
      go_roundw
      case rel => exact ⟨k + 1, by omega, by go_num, by rw [HS.out]; go_num, hB⟩
      case measure => simp [intOf]; omega
    · have hnl : ¬ ((k : Int) < (l.length : Int)) := by omega
      obtain rfl : k = l.length := by omega
      rw [List.take_length] at *
      go_wp2_with (fail)
      go_ret
      exact ⟨rfl, hB⟩
set_option maxRecDepth 100000 in
set_option maxHeartbeats 8000000 in
theorem refMay_calls (cap : Int) (A : Option Addr) (c : Nat) (l : List Fl) (w : World) (hR : Kd.C kF w A l.length l) (hc : l.length ≤ c) (hll : l.length ≤ 1000000) (hu : usedF l ≤ 4611686018427387904) :
    Calls Try.prog 17 #[.agg (cellsD cap A l.length c)] w fun e w' => e = .returned (.bool (decide (mayD ⟨cap, l⟩))) ∧ Below w.heap.size w w' := by
  have bD := BoxC.new w (cellsD cap A l.length c) 24
  have hb0 := below_alloc (Below.refl w.heap.size w) (.cells (cellsD cap A l.length c) 24)
  obtain ⟨b, hbb⟩ : ∃ b, decide (mayD ⟨cap, l⟩) = b := ⟨_, rfl⟩
  rw [hbb]
  have HB := Lib.hid hbb
  have HR := Lib.hid hR
  have d0 := bD.c 0 rfl
  have d1 := bD.c 1 rfl
  clear hbb hR
  go_enter Try.func17, Try.ntmps17
  go_wp2_with (fail)
  go_loopw [3] (fun i wr => ∃ (k : Nat) (p : Int), k ≤ l.length ∧ i = .int .i64 (k : Int) ∧ 0 ≤ p ∧ Hid ((k = 0 → p = 0) ∧ (∀ h : k - 1 < l.length, 0 < k → l[k - 1].no = p)) ∧ Hid (risF 0 l ↔ risF p (l.drop k)) ∧ BoxC wr w.heap.size (cellsD cap A l.length c) 24 ∧ Below w.heap.size w wr) (fun i _ => l.length - (intOf i).toNat)
  case atStart => exact ⟨0, 0, Nat.zero_le _, rfl, by omega, Lib.hid ⟨fun _ => rfl, fun _ h => absurd h (by omega)⟩, Lib.hid Iff.rfl, bD, hb0⟩
  case round =>
    clear bD hb0 d0 d1
    obtain ⟨k, p, hk, rfl, hp0, hpk, hs, bD, hB⟩ := hrel
    by_cases hlt : k < l.length
    · have hlti : (k : Int) < (l.length : Int) := by omega
      obtain ⟨ad, A1, c1, rfl, h0, h1, h2, -, -⟩ := file_at (Kd.C_below HR.out hB) k hlt
      have hst := hs.out.trans (risF_drop l p k hlt)
      obtain ⟨w1, hw1⟩ : ∃ w1, wr.alloc (.cells #[.int .i64 l[k].no, .slice A1 l[k].data.length c1, .int .i64 l[k].sure] 32) = w1 := ⟨_, rfl⟩
      have hb1 : Below wr.heap.size wr w1 := by rw [← hw1]; exact below_alloc (Below.refl _ _) _
      have b1 : BoxC w1 wr.heap.size #[.int .i64 l[k].no, .slice A1 l[k].data.length c1, .int .i64 l[k].sure] 32 := by rw [← hw1]; exact BoxC.new _ _ _
      have hB1 : Below w.heap.size w w1 := hB.trans (hb1.mono hB.size)
      have bD1 := bD.below hb1
      have e0 := bD.c 0 rfl
      have e1 := bD.c 1 rfl
      have f0 := b1.c 0 rfl
      have f1 := b1.c 1 rfl
      have f2 := b1.c 2 rfl
      have g0 := bD1.c 0 rfl
      have g1 := bD1.c 1 rfl
      have hnk : ∀ h : k + 1 - 1 < l.length, 0 < k + 1 → l[k + 1 - 1].no = l[k].no := fun _ _ => rfl
      have HPREV := Lib.hid (show 0 < k → w1.cell? (ad.add ((k - 1) * 3)) = some (.int .i64 p) from fun h => by
        have hk1 : k - 1 < l.length := by omega
        obtain ⟨ad2, A2, c2, e, q0, -⟩ := file_at (Kd.C_below HR.out hB1) (k - 1) hk1
        cases e
        rw [q0, hpk.out.2 hk1 h])
      obtain ⟨no, hno⟩ : ∃ no, l[k].no = no := ⟨_, rfl⟩
      have HNK := Lib.hid (show ∀ h : k + 1 - 1 < l.length, 0 < k + 1 → l[k + 1 - 1].no = no from fun h h2 => hno)
      rw [hno] at hst hw1 b1 f0 h0
      clear hno
      generalize l[k].sure = sr at *
      generalize l[k].data.length = dn at *
      have HST := Lib.hid hst
      have BD1 := Lib.hid bD1
      have hdn : (dn : Int) ≤ 9223372036854775807 ∨ True := .inr trivial
      clear hst hs bD bD1 hb1 b1 hnk hdn
      have bad : (¬ (p < no ∧ no ≤ 1073741824 ∧ 0 ≤ sr ∧ sr ≤ (dn : Int))) → b = false := fun h => by
        rw [← HB.out]
        exact decide_eq_false (fun g => h (by obtain ⟨a1, a2, a3, a4, a5⟩ := HST.out.1 g.1; exact ⟨a1, a2, a3, a4⟩))
      have BAD := Lib.hid bad
      clear bad
      by_cases hk0 : k = 0
      · have hpz : p = 0 := hpk.out.1 hk0
        subst hpz
        have hk1 : ¬ (0 : Int) < (k : Int) := by omega
        have hk2 : decide ((0 : Int) < (k : Int)) = false := decide_eq_false hk1
        have hk3 : ¬ 0 < k := by omega
        have hk4 : decide (0 < k) = false := decide_eq_false hk3
        clear hk0
        by_cases g4 : no < (1 : Int)
        · have d14 := decide_eq_true g4
          go_wp2_with (fail)
          go_quiet (fail)
          all_goals
            go_wp2_with (fail)
            go_ret
            exact ⟨by rw [BAD.out (by omega)]; rfl, pw_below_drewN hB1 _⟩
        · have d14 := decide_eq_false g4
          by_cases g3 : (1073741824 : Int) < no
          · have d13 := decide_eq_true g3
            go_wp2_with (fail)
            go_quiet (fail)
            all_goals
              go_wp2_with (fail)
              go_ret
              exact ⟨by rw [BAD.out (by omega)]; rfl, pw_below_drewN hB1 _⟩
          · have d13 := decide_eq_false g3
            by_cases g2 : sr < (0 : Int)
            · have d12 := decide_eq_true g2
              go_wp2_with (fail)
              go_quiet (fail)
              all_goals
                go_wp2_with (fail)
                go_ret
                exact ⟨by rw [BAD.out (by omega)]; rfl, pw_below_drewN hB1 _⟩
            · have d12 := decide_eq_false g2
              by_cases g1 : (dn : Int) < sr
              · have d11 := decide_eq_true g1
                go_wp2_with (fail)
                go_quiet (fail)
                all_goals
                  go_wp2_with (fail)
                  go_ret
                  exact ⟨by rw [BAD.out (by omega)]; rfl, pw_below_drewN hB1 _⟩
              · have d11 := decide_eq_false g1
                go_wp2_with (fail)
                go_quiet (fail)
                all_goals
                  go_wp2_with (fail)
                  go_roundw
                  case rel => exact ⟨k + 1, no, by omega, by go_num, by omega, Lib.hid ⟨fun h => absurd h (by omega), HNK.out⟩, Lib.hid (HST.out.trans ⟨fun h => h.2.2.2.2, fun h => ⟨by omega, by omega, by omega, by omega, h⟩⟩), BD1.out, pw_below_drewN hB1 _⟩
                  case measure => simp [intOf]; omega
      · obtain ⟨j, rfl⟩ : ∃ j, k = j + 1 := ⟨k - 1, by omega⟩
        have hj0 : (0 : Int) < (j : Int) + 1 := by omega
        have hjl : (j : Int) < (l.length : Int) := by omega
        have hpr : w1.cell? (ad.add (j * 3)) = some (.int .i64 p) := HPREV.out (by omega)
        have hwj : IntKind.i64.wrap (j : Int) = (j : Int) := i64_of (by omega) (by omega)
        have hwj2 : IntKind.i64.wrap ((j : Int) + 1 - 1) = (j : Int) := i64_of (by omega) (by omega) |>.trans (by omega)
        by_cases g5 : no < (1 : Int)
        · have d15 := decide_eq_true g5
          go_wp2_with (fail)
          go_quiet (fail)
          all_goals
            go_wp2_with (fail)
            go_ret
            exact ⟨by rw [BAD.out (by omega)]; rfl, pw_below_drewN hB1 _⟩
        · have d15 := decide_eq_false g5
          by_cases g4 : (1073741824 : Int) < no
          · have d14 := decide_eq_true g4
            go_wp2_with (fail)
            go_quiet (fail)
            all_goals
              go_wp2_with (fail)
              go_ret
              exact ⟨by rw [BAD.out (by omega)]; rfl, pw_below_drewN hB1 _⟩
          · have d14 := decide_eq_false g4
            by_cases g3 : no ≤ p
            · have d13 := decide_eq_true g3
              go_wp2_with (fail)
              go_quiet (fail)
              all_goals
                go_wp2_with (fail)
                go_ret
                exact ⟨by rw [BAD.out (by omega)]; rfl, pw_below_drewN hB1 _⟩
            · have d13 := decide_eq_false g3
              by_cases g2 : sr < (0 : Int)
              · have d12 := decide_eq_true g2
                go_wp2_with (fail)
                go_quiet (fail)
                all_goals
                  go_wp2_with (fail)
                  go_ret
                  exact ⟨by rw [BAD.out (by omega)]; rfl, pw_below_drewN hB1 _⟩
              · have d12 := decide_eq_false g2
                by_cases g1 : (dn : Int) < sr
                · have d11 := decide_eq_true g1
                  go_wp2_with (fail)
                  go_quiet (fail)
                  all_goals
                    go_wp2_with (fail)
                    go_ret
                    exact ⟨by rw [BAD.out (by omega)]; rfl, pw_below_drewN hB1 _⟩
                · have d11 := decide_eq_false g1
                  go_wp2_with (fail)
                  go_quiet (fail)
                  all_goals
                    go_wp2_with (fail)
                    go_roundw
                    case rel => exact ⟨(j + 1) + 1, no, by omega, by go_num, by omega, Lib.hid ⟨fun h => absurd h (by omega), HNK.out⟩, Lib.hid (HST.out.trans ⟨fun h => h.2.2.2.2, fun h => ⟨by omega, by omega, by omega, by omega, h⟩⟩), BD1.out, pw_below_drewN hB1 _⟩
                    case measure => simp [intOf]; omega
    · have hnl : ¬ ((k : Int) < (l.length : Int)) := by omega
      obtain rfl : k = l.length := by omega
      have d0 := bD.c 0 rfl
      have d1 := bD.c 1 rfl
      have hris : risF 0 l := hs.out.2 (by rw [List.drop_length]; trivial)
      have hf : (0 ≤ cap ∧ cap ≤ 65536 ∧ l.length ≤ 12 ∧ (usedF l : Int) ≤ cap) ↔ b = true := by
        rw [← HB.out, decide_eq_true_iff, mayD_iff]
        exact ⟨fun h => ⟨hris, h⟩, fun h => h.2⟩
      have HF := Lib.hid hf
      have BD := Lib.hid bD
      clear hf hris hs bD
      have no : ∀ h : ¬ (0 ≤ cap ∧ cap ≤ 65536 ∧ l.length ≤ 12 ∧ (usedF l : Int) ≤ cap), b = false := fun h => by
        cases b with
        | false => rfl
        | true => exact absurd (HF.out.2 rfl) h
      have NO := Lib.hid no
      clear no
      by_cases g1 : cap < 0
      · have n1 : decide ((0 : Int) ≤ cap) = false := decide_eq_false (by omega)
        go_wp2_with (fail)
        go_quiet (fail)
        all_goals
          go_wp2_with (fail)
          go_ret
          exact ⟨by rw [NO.out (by omega)]; rfl, pw_below_drewN hB _⟩
      · have n1 : (0 : Int) ≤ cap := by omega
        by_cases g2 : 65536 < cap
        · have n2 : decide (cap ≤ (65536 : Int)) = false := decide_eq_false (by omega)
          go_wp2_with (fail)
          go_quiet (fail)
          all_goals
            go_wp2_with (fail)
            go_ret
            exact ⟨by rw [NO.out (by omega)]; rfl, pw_below_drewN hB _⟩
        · have n2 : cap ≤ 65536 := by omega
          by_cases g3 : 12 < l.length
          · have g3i : decide ((l.length : Int) ≤ 12) = false := decide_eq_false (by omega)
            go_wp2_with (fail)
            go_quiet (fail)
            all_goals
              go_wp2_with (fail)
              go_ret
              exact ⟨by rw [NO.out (by omega)]; rfl, pw_below_drewN hB _⟩
          · have g3i : (l.length : Int) ≤ 12 := by omega
            have HU := Lib.hid (Kd.C_below HR.out hB)
            have HSS := Lib.hid (show ∀ W, Below wr.heap.size wr W → Below wr.heap.size wr W ∧ W.cell? ⟨w.heap.size, 0, none⟩ = some (.int .i64 cap) ∧ W.cell? ⟨w.heap.size, 1, none⟩ = some (.slice A l.length c) from fun W h => ⟨h, (BD.out.below h).c 0 rfl, (BD.out.below h).c 1 rfl⟩)
            have D0 := Lib.hid (show Below wr.heap.size wr wr.drew from (Below.refl _ wr).drew)
            obtain ⟨u, hu1⟩ : ∃ u, usedF l = u := ⟨_, rfl⟩
            rw [hu1] at HF NO
            have HU1 := Lib.hid hu1
            clear hu1
            by_cases g4 : (u : Int) ≤ cap
            · have hbt : b = true := HF.out.1 ⟨by omega, by omega, by omega, g4⟩
              subst hbt
              go_wp2_with (fail)
              go_region_held3 (fun W => Below wr.heap.size wr W ∧ W.cell? ⟨w.heap.size, 0, none⟩ = some (.int .i64 cap) ∧ W.cell? ⟨w.heap.size, 1, none⟩ = some (.slice A l.length c))
                (first | (with_reducible exact HSS.out _ D0.out) | (with_reducible exact HSS.out _ D1.out))
                ((go_at_call 40; refine (refUsed_calls A c l _ (Kd.C_below HU.out D0.out) hc hu).mono ?_; rintro e v1 ⟨rfl, hq1⟩; rw [HU1.out]; have D1 := Lib.hid (below_onR hq1 D0.out)))
              all_goals
                go_wp2_with (fail)
                go_ret
                exact ⟨rfl, hB.trans (D1.out.mono hB.size)⟩
            · have hbt : b = false := NO.out (by omega)
              subst hbt
              go_wp2_with (fail)
              go_region_held3 (fun W => Below wr.heap.size wr W ∧ W.cell? ⟨w.heap.size, 0, none⟩ = some (.int .i64 cap) ∧ W.cell? ⟨w.heap.size, 1, none⟩ = some (.slice A l.length c))
                (first | (with_reducible exact HSS.out _ D0.out) | (with_reducible exact HSS.out _ D1.out))
                ((go_at_call 40; refine (refUsed_calls A c l _ (Kd.C_below HU.out D0.out) hc hu).mono ?_; rintro e v1 ⟨rfl, hq1⟩; rw [HU1.out]; have D1 := Lib.hid (below_onR hq1 D0.out)))
              all_goals
                go_wp2_with (fail)
                go_ret
                exact ⟨by simp [g4], hB.trans (D1.out.mono hB.size)⟩
end Go.Proofs.Ytahiigcofgnncaa.H

/-! Layer 6: the reference's rows of files that are shared; Same, Find, Used, at, New, walked. -/
namespace Go.Proofs.Ytahiigcofgnncaa.H
open Go.RowKit Moor Go.Proofs.YtahiigcofgnncaaW.PrintWords Go.Proofs.YtahiigcofgnncaaW.PrintLast Go.Proofs.YtahiigcofgnncaaW.PrintMore
set_option linter.unusedVariables false
set_option linter.unusedSimpArgs false

/-- W' is W on the blocks that are ok. -/
def Agree (ok : Nat → Prop) (W W' : World) : Prop := ∀ k, ok k → k < W.heap.size → W'.heap[k]? = W.heap[k]?
/-- A file's bytes are read, whatever changes but the blocks that are ok. -/
def RdX (ok : Nat → Prop) (W : World) (x : FX) : Prop := x.data.length ≤ x.c ∧ ∀ W', Agree ok W W' → Kd.C kB W' x.A x.data.length x.data
/-- A row of files is read, whatever changes but the blocks that are ok. -/
def CX (ok : Nat → Prop) (W : World) (A : Option Addr) (xs : List FX) : Prop :=
  xs.length ≤ maxLen ∧ (0 < xs.length → ∃ ad, A = some ad ∧ ∀ W', Agree ok W W' → ∀ j u, (flat xs)[j]? = some u → W'.cell? (ad.add j) = some u) ∧ ∀ x ∈ xs, RdX ok W x
/-- A row of one's own of files that are shared. -/
def ShF (ok : Nat → Prop) (W : World) (base : Nat) (v : Value) (xs : List FX) : Prop := W.ownsRow base 32 3 v xs.length (flat xs) ∧ ∀ x ∈ xs, RdX (fun k => ok k ∧ v.ownBlock ≠ some k) W x
theorem Agree.refl (ok : Nat → Prop) (W : World) : Agree ok W W := fun _ _ _ => rfl
theorem Agree.mono {ok ok' : Nat → Prop} {W W' : World} (h : Agree ok W W') (hi : ∀ k, ok' k → ok k) : Agree ok' W W' := fun k hk => h k (hi k hk)
theorem Agree.trans {ok : Nat → Prop} {W W1 W2 : World} (h : Agree ok W W1) (hs : W.heap.size ≤ W1.heap.size) (h2 : Agree ok W1 W2) : Agree ok W W2 := fun k hk hl => (h2 k hk (Nat.lt_of_lt_of_le hl hs)).trans (h k hk hl)
theorem Agree.below {W W1 : World} {n : Nat} (h : Below n W W1) {ok : Nat → Prop} (ho : ∀ k, ok k → k < n) : Agree ok W W1 := fun k hk _ => h.block k (ho k hk)
theorem Agree.belowAll {W W1 : World} (h : Below W.heap.size W W1) (ok : Nat → Prop) : Agree ok W W1 := fun k _ hl => h.block k hl
theorem RdX.mono {ok ok' : Nat → Prop} {W : World} {x : FX} (h : RdX ok W x) (hi : ∀ k, ok k → ok' k) : RdX ok' W x := ⟨h.1, fun W' hW => h.2 W' (hW.mono hi)⟩
theorem RdX.moved {ok : Nat → Prop} {W W1 : World} {x : FX} (h : RdX ok W x) (hs : W.heap.size ≤ W1.heap.size) (ha : Agree ok W W1) : RdX (fun k => ok k ∧ k < W.heap.size) W1 x :=
  ⟨h.1, fun W' hW => h.2 W' (fun k hk hl => (hW k ⟨hk, hl⟩ (Nat.lt_of_lt_of_le hl hs)).trans (ha k hk hl))⟩
theorem RdX.now {ok : Nat → Prop} {W : World} {x : FX} (h : RdX ok W x) : Kd.C kB W x.A x.data.length x.data := h.2 W (Agree.refl _ _)
theorem CX.mono {ok ok' : Nat → Prop} {W : World} {A : Option Addr} {xs : List FX} (h : CX ok W A xs) (hi : ∀ k, ok k → ok' k) : CX ok' W A xs := by
  refine ⟨h.1, fun hp => ?_, fun x hx => (h.2.2 x hx).mono hi⟩
  obtain ⟨ad, e, hc⟩ := h.2.1 hp
  exact ⟨ad, e, fun W' hW => hc W' (hW.mono hi)⟩
theorem CX.moved {ok : Nat → Prop} {W W1 : World} {A : Option Addr} {xs : List FX} (h : CX ok W A xs) (hs : W.heap.size ≤ W1.heap.size) (ha : Agree ok W W1) : CX ok W1 A xs := by
  refine ⟨h.1, fun hp => ?_, fun x hx => ((h.2.2 x hx).moved hs ha).mono (fun k hk => hk.1)⟩
  obtain ⟨ad, e, hc⟩ := h.2.1 hp
  exact ⟨ad, e, fun W' hW => hc W' (ha.trans hs hW)⟩
theorem CX.now {ok : Nat → Prop} {W : World} {A : Option Addr} {xs : List FX} (h : CX ok W A xs) : Kd.C kF W A (xs.map flX).length (xs.map flX) := by
  refine ⟨rfl, by rw [List.length_map]; exact h.1, fun hp => ?_⟩
  rw [List.length_map] at hp
  obtain ⟨ad, e, hc⟩ := h.2.1 hp
  refine ⟨ad, e, fun j p hj => ?_⟩
  rw [List.getElem?_map] at hj
  cases hx : xs[j]? with
  | none => rw [hx] at hj; cases hj
  | some x =>
    rw [hx] at hj
    cases hj
    obtain ⟨q1, q2⟩ := h.2.2 x (List.mem_of_getElem? hx)
    refine ⟨cellsX x, rfl, kF_mk W (flX x) q1 (q2 W (Agree.refl _ _)), fun i u hu => ?_⟩
    have hi : i < 3 := by have := (List.getElem?_eq_some_iff.1 hu).1; simpa using this
    have hs : kF.sz = 3 := rfl
    rw [hs]
    refine hc W (Agree.refl _ _) (j * 3 + i) u ?_
    rw [flat_get _ _ _ hi, hx]
    exact hu
/-- What was read in a world is read in all later ones, by its blocks. -/
theorem cell_agree {w W : World} {a : Addr} {v : Value} (h : w.cell? a = some v) {n : Nat} (hn : w.heap.size ≤ n) (hb : Below w.heap.size w W) {ok : Nat → Prop} (ho : ∀ k, k < w.heap.size → ok k) {W' : World} (hW : Agree ok W W') : W'.cell? a = some v := by
  have hl : a.block < w.heap.size := by
    rcases Nat.lt_or_ge a.block w.heap.size with hl | hl
    · exact hl
    · exfalso
      have : w.heap[a.block]? = none := Array.getElem?_eq_none hl
      simp [World.cell?, this] at h
  have he : W'.heap[a.block]? = w.heap[a.block]? := (hW a.block (ho _ hl) (Nat.lt_of_lt_of_le hl hb.size)).trans (hb.block _ hl)
  unfold World.cell? at h ⊢
  rw [he]
  exact h
theorem kB_cells {w W' : World} {A : Option Addr} {n : Nat} {xs : List Int} (h : Kd.C kB w A n xs) (hc : ∀ a v, w.cell? a = some v → W'.cell? a = some v) : Kd.C kB W' A n xs := by
  refine ⟨h.1, h.2.1, fun hp => ?_⟩
  obtain ⟨ad, e, hr⟩ := h.2.2 hp
  refine ⟨ad, e, fun j p hj => ?_⟩
  obtain ⟨cs, h1, h2, h3⟩ := hr j p hj
  exact ⟨cs, h1, h2, fun i u hu => hc _ _ (h3 i u hu)⟩
theorem rdx_of {w W : World} {x : FX} (h : ReadX w x) (hb : Below w.heap.size w W) {ok : Nat → Prop} (ho : ∀ k, k < w.heap.size → ok k) : RdX ok W x :=
  ⟨h.2, fun W' hW => kB_cells h.1 (fun a v hv => cell_agree hv (Nat.le_refl _) hb ho hW)⟩
/-- Files that came in. -/
theorem cx_of {w W : World} {A : Option Addr} {l : List Fl} (h : Kd.C kF w A l.length l) (hb : Below w.heap.size w W) {ok : Nat → Prop} (ho : ∀ k, k < w.heap.size → ok k) : ∃ xs : List FX, xs.map flX = l ∧ CX ok W A xs := by
  obtain ⟨xs, h1, h2, h3⟩ := fx_of h
  have hl : xs.length = l.length := by rw [← h1, List.length_map]
  refine ⟨xs, h1, by rw [hl]; exact h.2.1, fun hp => ?_, fun x hx => rdx_of (h2 x hx) hb ho⟩
  obtain ⟨ad, e, hc⟩ := h3 (by omega)
  exact ⟨ad, e, fun W' hW j u hu => cell_agree (hc j u hu) (Nat.le_refl _) hb ho hW⟩
theorem ShF.nil (ok : Nat → Prop) (W : World) (base : Nat) : ShF ok W base (.slice none 0 0) [] := ⟨World.ownsRow_nil _ _ _ _, fun x hx => by cases hx⟩
theorem ShF.moved {ok : Nat → Prop} {W W1 : World} {base : Nat} {v : Value} {xs : List FX} (h : ShF ok W base v xs) (hs : W.heap.size ≤ W1.heap.size) (hm : ∀ k, (ok k ∨ v.ownBlock = some k) → k < W.heap.size → W1.heap[k]? = W.heap[k]?) : ShF ok W1 base v xs :=
  ⟨own_move h.1 (fun k hk => hm k (.inr hk) (own_lt h.1 k hk)), fun x hx => ((h.2 x hx).moved hs (fun k hk hl => hm k (.inl hk.1) hl)).mono (fun k hk => hk.1)⟩
theorem ShF.below {ok : Nat → Prop} {W W1 : World} {base : Nat} {v : Value} {xs : List FX} (h : ShF ok W base v xs) (hb : Below W.heap.size W W1) : ShF ok W1 base v xs := h.moved hb.size (fun k _ hl => hb.block k hl)
theorem ShF.cx {ok : Nat → Prop} {W : World} {base : Nat} {A : Option Addr} {n c : Nat} {xs : List FX} (h : ShF ok W base (.slice A n c) xs) (hn : xs.length = n) : n ≤ c ∧ CX (fun k => ok k ∨ base ≤ k) W A xs := by
  obtain ⟨ho, hx⟩ := h
  rw [hn] at ho
  refine ⟨own_le ho, ?_, fun hp => ?_, fun x hxm => (hx x hxm).mono (fun k hk => .inl hk.1)⟩
  · rcases ho.2 with ⟨_, h0⟩ | ⟨g, cap, cur, he, _, _, hnc, hcm, _⟩
    · omega
    · unfold maxLen at hcm ⊢; omega
  · obtain ⟨g, cap', he, h1, h2⟩ := ho.form (by omega)
    injection he with he1 he2 he3
    subst he1
    refine ⟨_, rfl, fun W' hW j u hu => ?_⟩
    have hj := (List.getElem?_eq_some_iff.1 hu).1
    rw [flat_len] at hj
    have ho' : W'.ownsRow base 32 3 (.slice (some ⟨g, 0, none⟩) n c) n (flat xs) := own_move ho (fun k hk => hW k (.inr (own_base ho k hk)) (own_lt ho k hk))
    rw [add_plain, Nat.zero_add, ho'.cellAt j (by omega)]
    exact hu
/-- append of files that are read. -/
theorem sh_append {W : World} {base : Nat} {v : Value} {xs ys : List FX} {ok : Nat → Prop} {n : Nat} (h : ShF ok W base v xs) (hn : xs.length = n) (ty : TypeId) (a : Addr) (m c : Nat) (hm : ys.length = m) (hcells : ∀ j u, (flat ys)[j]? = some u → W.cell? (a.add j) = some u) (hy : ∀ y ∈ ys, RdX (fun k => ok k ∧ v.ownBlock ≠ some k) W y) (hl : n + m ≤ 1000000) (hb : base ≤ W.heap.size) :
    ∃ A' c' w1, (Builtin.append_ #[22, 22] ty #[v, .slice (some a) m c]).run Try.prog W = .ok (.slice A' (n + m) c') w1 ∧ ShF ok w1 base (.slice A' (n + m) c') (xs ++ ys) ∧ Below base W w1 ∧ (∀ k, k < W.heap.size → v.ownBlock ≠ some k → w1.heap[k]? = W.heap[k]?) := by
  subst hn
  obtain ⟨i0, hi, hz0, hz1, hz2⟩ := info_parts infoF
  obtain ⟨v1, w1, hr, ho, hg, -, hat⟩ := run_append_own_at (P := Try.prog) W base 22 ty 32 i0 _ 3 40 Try.underlying22 hi hz0 hz1 hz2 rfl (by omega) v xs.length (flat xs) h.1 a m c (flat ys) (by rw [flat_len, hm]) hcells (flat_one ys) (by unfold maxLen; omega) (by omega) hb
  rw [← flat_append] at ho
  obtain ⟨A', c', rfl⟩ := own_slice ho
  have hfr : ∀ k, k < W.heap.size → v.ownBlock ≠ some k → w1.heap[k]? = W.heap[k]? := fun k hk hne => hg.block k hk (fun e => hne e.symm)
  have hsz : W.heap.size ≤ w1.heap.size := hg.size
  have hB : Below base W w1 := (Below.refl base W).grown hg hb (fun j e => own_base h.1 j e)
  refine ⟨A', c', w1, hr, ⟨by rw [List.length_append, hm]; exact ho, fun x hx => ?_⟩, hB, hfr⟩
  have hx0 : RdX (fun k => ok k ∧ v.ownBlock ≠ some k) W x := by
    rcases List.mem_append.1 hx with hx | hx
    · exact h.2 x hx
    · exact hy x hx
  refine (hx0.moved hsz (fun k hk hl => hfr k hl hk.2)).mono (fun k hk => ⟨hk.1.1, fun e => ?_⟩)
  rcases hat with hat | hat
  · exact hk.1.2 (hat ▸ e)
  · rw [hat] at e
    injection e with e
    omega

/-! ### the reference's Same -/
def SameS (x y : List Fl) : Prop := ∀ (i : Nat) (f g : Fl), x[i]? = some f → y[i]? = some g → ((strOfNums f.data).toList == (strOfNums g.data).toList) = decide (f.data = g.data)
theorem sameS_ok {x y : List Fl} (hx : ∀ f ∈ x, okB f.data) (hy : ∀ f ∈ y, okB f.data) : SameS x y := fun i f g h1 h2 => str_eq (hx f (List.mem_of_getElem? h1)) (hy g (List.mem_of_getElem? h2))
theorem sameS_eq (x : List Fl) : SameS x x := fun i f g h1 h2 => by
  rw [h1] at h2
  cases h2
  simp
theorem same_drop {x y : List Fl} {k : Nat} (h1 : k < x.length) (h2 : k < y.length) : x.drop k = y.drop k ↔ ((x[k].no = y[k].no ∧ x[k].sure = y[k].sure ∧ x[k].data = y[k].data) ∧ x.drop (k + 1) = y.drop (k + 1)) := by
  rw [List.drop_eq_getElem_cons h1, List.drop_eq_getElem_cons h2, List.cons.injEq]
  generalize x[k] = f
  generalize y[k] = g
  obtain ⟨a, b, c⟩ := f
  obtain ⟨a', b', c'⟩ := g
  simp only [Fl.mk.injEq]
  constructor
  · rintro ⟨⟨rfl, rfl, rfl⟩, h⟩; exact ⟨⟨rfl, rfl, rfl⟩, h⟩
  · rintro ⟨⟨rfl, rfl, rfl⟩, h⟩; exact ⟨⟨rfl, rfl, rfl⟩, h⟩
set_option maxRecDepth 100000 in
set_option maxHeartbeats 8000000 in
theorem refSame_calls (cap cap' : Int) (A : Option Addr) (c : Nat) (x : List Fl) (A' : Option Addr) (c' : Nat) (y : List Fl) (w : World) (hR : Kd.C kF w A x.length x) (hc : x.length ≤ c) (hR' : Kd.C kF w A' y.length y) (hc' : y.length ≤ c') (hs : SameS x y) :
    Calls Try.prog 28 #[.agg (cellsD cap A x.length c), .agg (cellsD cap' A' y.length c')] w fun e w' => e = .returned (.bool (decide ((⟨cap, x⟩ : Dk) = ⟨cap', y⟩))) ∧ Below w.heap.size w w' := by
  obtain ⟨w0, hw0⟩ : ∃ w0, (w.alloc (.cells (cellsD cap A x.length c) 24)).alloc (.cells (cellsD cap' A' y.length c') 24) = w0 := ⟨_, rfl⟩
  have hB : Below w.heap.size w w0 := by rw [← hw0]; exact below_alloc (below_alloc (Below.refl _ _) _) _
  have bx : BoxC w0 w.heap.size (cellsD cap A x.length c) 24 := by rw [← hw0]; exact (BoxC.new w _ _).alloc _
  have by_ : BoxC w0 (w.heap.size + 1) (cellsD cap' A' y.length c') 24 := by
    rw [← hw0]
    have h9 := BoxC.new (w.alloc (.cells (cellsD cap A x.length c) 24)) (cellsD cap' A' y.length c') 24
    rw [World.size_alloc] at h9
    exact h9
  obtain ⟨b, hbb⟩ : ∃ b, decide ((⟨cap, x⟩ : Dk) = ⟨cap', y⟩) = b := ⟨_, rfl⟩
  rw [hbb]
  have HBB := Lib.hid hbb
  have HR := Lib.hid hR
  have HR' := Lib.hid hR'
  have HS := Lib.hid hs
  have HW0 := Lib.hid hw0
  have hxl : x.length ≤ 9223372036854775807 := Kd.C_max hR
  have x0 := bx.c 0 rfl
  have x1 := bx.c 1 rfl
  have y0 := by_.c 0 rfl
  have y1 := by_.c 1 rfl
  clear hbb hR hR' hs
  go_enter Try.func28, Try.ntmps28
  by_cases hcap : cap = cap'
  · by_cases hlen : x.length = y.length
    · subst hcap
      have hl1 : ((x.length : Int) != (y.length : Int)) = false := by simp; omega
      have HLEN := Lib.hid hlen
      clear hlen
      go_wp2_with (fail)
      go_loopw [5] (fun i wr => ∃ k : Nat, k ≤ x.length ∧ i = .int .i64 (k : Int) ∧ Hid (x = y ↔ x.drop k = y.drop k) ∧ BoxC wr w.heap.size (cellsD cap A x.length c) 24 ∧ BoxC wr (w.heap.size + 1) (cellsD cap A' y.length c') 24 ∧ Below w.heap.size w wr) (fun i _ => x.length - (intOf i).toNat)
      case atStart => exact ⟨0, Nat.zero_le _, rfl, Lib.hid Iff.rfl, bx, by_, hB⟩
      case round =>
        clear bx by_ hB x0 x1 y0 y1
        obtain ⟨k, hk, rfl, hst, bx, by_, hB⟩ := hrel
        have x0 := bx.c 0 rfl
        have x1 := bx.c 1 rfl
        have y0 := by_.c 0 rfl
        have y1 := by_.c 1 rfl
        have BX := Lib.hid bx
        have BY := Lib.hid by_
        clear bx by_
        by_cases hlt : k < x.length
        · have hlti : (k : Int) < (x.length : Int) := by omega
          have hlt' : k < y.length := by have := HLEN.out; omega
          have hlti' : (k : Int) < (y.length : Int) := by omega
          obtain ⟨ad, A1, c1, rfl, h0, h1, h2, -, hC1⟩ := file_at (Kd.C_below HR.out hB) k hlt
          obtain ⟨ad', A2, c2, rfl, g0, g1, g2, -, hC2⟩ := file_at (Kd.C_below HR'.out hB) k hlt'
          have hst2 := hst.out.trans (same_drop hlt hlt')
          have hs := HS.out k x[k] y[k] (List.getElem?_eq_getElem hlt) (List.getElem?_eq_getElem hlt')
          have hc1 := fun n => Kd.C_string (P := Try.prog) (src := 30) (dst := 9) (e := 5) (c := c1) Try.underlying30 Try.underlying5 Try.underlying9 (Kd.C_drewN hC1 n)
          have hc2 := fun n => Kd.C_string (P := Try.prog) (src := 30) (dst := 9) (e := 5) (c := c2) Try.underlying30 Try.underlying5 Try.underlying9 (Kd.C_drewN hC2 n)
          have HST := Lib.hid hst2
          clear hst hst2 hC1 hC2 HS
          generalize x[k].no = fn at *
          generalize y[k].no = gn at *
          generalize x[k].sure = fs at *
          generalize y[k].sure = gs at *
          generalize x[k].data = fd at *
          generalize y[k].data = gd at *
          have bad : ¬ (fn = gn ∧ fs = gs ∧ fd = gd) → b = false := fun h => by
            rw [← HBB.out]
            refine decide_eq_false (fun e => h ?_)
            injection e with e1 e2
            exact (HST.out.1 e2).1
          have BAD := Lib.hid bad
          clear bad
          by_cases e1 : fn = gn
          · subst e1
            by_cases e2 : fs = gs
            · subst e2
              by_cases e3 : fd = gd
              · subst e3
                have hs2 : ((strOfNums fd).toList != (strOfNums fd).toList) = false := by simp
                have HST2 := Lib.hid (HST.out.trans ⟨fun h => h.2, fun h => ⟨⟨rfl, rfl, rfl⟩, h⟩⟩)
                clear hs HST BAD
                go_wp2_with (fail)
                go_quiet (fail)
                all_goals
                  go_wp2_with (fail)
                  go_roundw
                  first
                    | (case rel => exact ⟨k + 1, by omega, by go_num, Lib.hid HST2.out, BX.out, BY.out, pw_below_drewN hB _⟩
                       case measure => simp [intOf]; omega)
                    | exact ⟨⟨k + 1, by omega, by go_num, Lib.hid HST2.out, BX.out, BY.out, pw_below_drewN hB _⟩, by simp [intOf]; omega⟩
              · have hs2 : ((strOfNums fd).toList != (strOfNums gd).toList) = true := by
                  rw [decide_eq_false e3] at hs
                  simpa using hs
                have hs3 : ((strOfNums fd).toList == (strOfNums gd).toList) = false := by rw [hs, decide_eq_false e3]
                have hbf := Lib.hid (BAD.out (fun h => e3 h.2.2))
                clear hs HST BAD
                go_wp2_with (fail)
                go_quiet (fail)
                all_goals
                  go_wp2_with (fail)
                  go_ret
                  exact ⟨by rw [hbf.out]; rfl, pw_below_drewN hB _⟩
            · have e2b : (fs != gs) = true := by simpa using e2
              have hbf := Lib.hid (BAD.out (fun h => e2 h.2.1))
              clear hs HST BAD e2
              go_wp2_with (fail)
              go_quiet (fail)
              all_goals
                go_wp2_with (fail)
                go_ret
                exact ⟨by rw [hbf.out]; rfl, pw_below_drewN hB _⟩
          · have e1b : (fn != gn) = true := by simpa using e1
            have hbf := Lib.hid (BAD.out (fun h => e1 h.1))
            clear hs HST BAD e1
            go_wp2_with (fail)
            go_quiet (fail)
            all_goals
              go_wp2_with (fail)
              go_ret
              exact ⟨by rw [hbf.out]; rfl, pw_below_drewN hB _⟩
        · have hnl : ¬ ((k : Int) < (x.length : Int)) := by omega
          obtain rfl : k = x.length := by omega
          have hbt : b = true := by
            rw [← HBB.out]
            refine decide_eq_true ?_
            rw [hst.out.2 (by rw [List.drop_length, HLEN.out, List.drop_length])]
          have HBT := Lib.hid hbt
          clear hbt hst
          go_wp2_with (fail)
          go_ret
          exact ⟨by rw [HBT.out]; rfl, hB⟩
    · have hl1 : ((x.length : Int) != (y.length : Int)) = true := by simp; omega
      subst hcap
      have hbf : b = false := by
        rw [← HBB.out]
        exact decide_eq_false (fun e => by injection e with e1 e2; exact hlen (by rw [e2]))
      have HBF := Lib.hid hbf
      clear hbf hlen
      go_wp2_with (fail)
      go_ret
      exact ⟨by rw [HBF.out]; rfl, hB⟩
  · have hcb : (cap != cap') = true := by simpa using hcap
    have hbf : b = false := by
      rw [← HBB.out]
      exact decide_eq_false (fun e => by injection e with e1 e2; exact hcap e1)
    have HBF := Lib.hid hbf
    clear hbf hcap
    go_wp2_with (fail)
    go_ret
    exact ⟨by rw [HBF.out]; rfl, hB⟩

/-! ### the reference's Find, Used, at -/
theorem idxF_cons_ne {no : Int} {f : Fl} {l : List Fl} (h : f.no ≠ no) : idxF no (f :: l) = (idxF no l).map (· + 1) := by show (if f.no = no then some 0 else (idxF no l).map (· + 1)) = _; rw [if_neg h]
theorem idxF_take {no : Int} : ∀ {l : List Fl} {k : Nat} {f : Fl}, (∀ g ∈ l.take k, g.no ≠ no) → l[k]? = some f → f.no = no → idxF no l = some k
  | [], k, f, _, h, _ => by simp at h
  | e :: l, 0, f, _, h, hn => by
    cases h
    show (if e.no = no then some 0 else (idxF no l).map (· + 1)) = _
    rw [if_pos hn]
  | e :: l, k + 1, f, hg, h, hn => by
    rw [List.take_succ_cons] at hg
    rw [idxF_cons_ne (hg e (List.mem_cons_self ..)), idxF_take (fun g hg' => hg g (List.mem_cons_of_mem _ hg')) (by simpa using h) hn]
    rfl
set_option maxRecDepth 100000 in
set_option maxHeartbeats 8000000 in
theorem refFind_calls (cap no : Int) (A : Option Addr) (c : Nat) (l : List Fl) (w : World) (hR : Kd.C kF w A l.length l) (hc : l.length ≤ c) (hll : l.length ≤ 1000000) (hu : usedF l ≤ 4611686018427387904) :
    Calls Try.prog 29 #[.agg (cellsD cap A l.length c), .int .i64 no] w fun e w' => e = .returned (.int .i64 (findD ⟨cap, l⟩ no)) ∧ Below w.heap.size w w' := by
  have bx := BoxC.new w (cellsD cap A l.length c) 24
  have hB := below_alloc (Below.refl w.heap.size w) (.cells (cellsD cap A l.length c) 24)
  have HR := Lib.hid hR
  have HQ := Lib.hid (refMay_calls cap A c l (w.alloc (.cells (cellsD cap A l.length c) 24)) (Kd.C_below hR hB) hc hll hu)
  have x0 := bx.c 0 rfl
  have x1 := bx.c 1 rfl
  have BX := Lib.hid bx
  clear hR bx
  obtain ⟨fd, hfd⟩ : ∃ fd, findD ⟨cap, l⟩ no = fd := ⟨_, rfl⟩
  rw [hfd]
  have HFD := Lib.hid hfd
  clear hfd
  go_enter Try.func29, Try.ntmps29
  go_wp2_with (fail)
  refine HQ.out.mono ?_
  rintro e w1 ⟨rfl, hb1⟩
  replace hB := hB.trans (hb1.mono hB.size)
  have bx := BX.out.below hb1
  clear x0 x1 BX hb1 HQ
  have x0 := bx.c 0 rfl
  have x1 := bx.c 1 rfl
  by_cases hm : mayD ⟨cap, l⟩
  · rw [decide_eq_true hm]
    have HF := Lib.hid ((findD_idx (no := no) hm).symm.trans HFD.out)
    clear hm HFD
    go_wp2_with (fail)
    go_loopw [6] (fun i wr => ∃ k : Nat, k ≤ l.length ∧ i = .int .i64 (k : Int) ∧ Hid (∀ g ∈ l.take k, g.no ≠ no) ∧ BoxC wr w.heap.size (cellsD cap A l.length c) 24 ∧ Below w.heap.size w wr) (fun i _ => l.length - (intOf i).toNat)
    case atStart => exact ⟨0, Nat.zero_le _, rfl, Lib.hid (fun g hg => by simp at hg), bx, hB⟩
    case round =>
      clear bx hB x0 x1
      obtain ⟨k, hk, rfl, hs, bx, hB⟩ := hrel
      have x0 := bx.c 0 rfl
      have x1 := bx.c 1 rfl
      have BX := Lib.hid bx
      clear bx
      by_cases hlt : k < l.length
      · have hlti : (k : Int) < (l.length : Int) := by omega
        obtain ⟨ad, A1, c1, rfl, h0, h1, h2, -, -⟩ := file_at (Kd.C_below HR.out hB) k hlt
        obtain ⟨fn, hfn⟩ : ∃ fn, l[k].no = fn := ⟨_, rfl⟩
        rw [hfn] at h0
        have HFN := Lib.hid hfn
        clear hfn
        by_cases he : fn = no
        · have hi := idxF_take hs.out (List.getElem?_eq_getElem hlt) (HFN.out.trans he)
          have hk2 := HF.out
          rw [hi] at hk2
          have HK := Lib.hid (show (k : Int) = fd from hk2)
          clear hi hk2 hs
          subst he
          go_wp2_with (fail)
          go_ret
          exact ⟨by rw [← HK.out]; rfl, hB⟩
        · have heb : (fn == no) = false := by simpa using he
          have HS := Lib.hid (show ∀ g ∈ l.take (k + 1), g.no ≠ no from fun g hg => by
            rw [List.take_add_one, List.getElem?_eq_getElem hlt] at hg
            rcases List.mem_append.1 hg with hg | hg
            · exact hs.out g hg
            · simp at hg
              rw [hg, HFN.out]
              exact he)
          clear hs he
          go_wp2_with (fail)
          go_roundw
          case rel => exact ⟨k + 1, by omega, by go_num, Lib.hid HS.out, BX.out, hB⟩
          case measure => simp [intOf]; omega
      · have hnl : ¬ ((k : Int) < (l.length : Int)) := by omega
        obtain rfl : k = l.length := by omega
        have hi : idxF no l = none := idxF_none_of (by have := hs.out; rw [List.take_length] at this; exact this)
        have hk2 := HF.out
        rw [hi] at hk2
        have HK := Lib.hid (show (-1 : Int) = fd from hk2)
        clear hi hk2 hs
        go_wp2_with (fail)
        go_ret
        exact ⟨by rw [← HK.out]; rfl, hB⟩
  · rw [decide_eq_false hm]
    have HK := Lib.hid (show (-1 : Int) = fd by rw [← HFD.out]; unfold findD; rw [if_neg hm])
    clear hm HFD
    go_wp2_with (fail)
    go_loopw [6] (fun i wr => i = .int .i64 0 ∧ BoxC wr w.heap.size (cellsD cap A l.length c) 24 ∧ Below w.heap.size w wr) (fun i _ => 0)
    case atStart => exact ⟨rfl, bx, hB⟩
    case round =>
      clear bx hB x0 x1
      obtain ⟨rfl, bx, hB⟩ := hrel
      have x0 := bx.c 0 rfl
      have x1 := bx.c 1 rfl
      by_cases hlt : (0 : Int) < (l.length : Int)
      · go_wp2_with (fail)
        go_ret
        exact ⟨by rw [← HK.out]; rfl, hB⟩
      · go_wp2_with (fail)
        go_ret
        exact ⟨by rw [← HK.out]; rfl, hB⟩
set_option maxRecDepth 100000 in
set_option maxHeartbeats 4000000 in
theorem refUsedD_calls (cap : Int) (A : Option Addr) (c : Nat) (l : List Fl) (w : World) (hR : Kd.C kF w A l.length l) (hc : l.length ≤ c) (hll : l.length ≤ 1000000) (hu : usedF l ≤ 4611686018427387904) :
    Calls Try.prog 30 #[.agg (cellsD cap A l.length c)] w fun e w' => e = .returned (.int .i64 (usedD ⟨cap, l⟩)) ∧ Below w.heap.size w w' := by
  have bx := BoxC.new w (cellsD cap A l.length c) 24
  have hB := below_alloc (Below.refl w.heap.size w) (.cells (cellsD cap A l.length c) 24)
  have HR := Lib.hid hR
  have HQ := Lib.hid (refMay_calls cap A c l (w.alloc (.cells (cellsD cap A l.length c) 24)) (Kd.C_below hR hB) hc hll hu)
  have x0 := bx.c 0 rfl
  have x1 := bx.c 1 rfl
  have BX := Lib.hid bx
  clear hR bx
  go_enter Try.func30, Try.ntmps30
  go_wp2_with (fail)
  refine HQ.out.mono ?_
  rintro e w1 ⟨rfl, hb1⟩
  replace hB := hB.trans (hb1.mono hB.size)
  have bx := BX.out.below hb1
  clear x0 x1 BX hb1 HQ
  have x0 := bx.c 0 rfl
  have x1 := bx.c 1 rfl
  by_cases hm : mayD ⟨cap, l⟩
  · rw [decide_eq_true hm]
    have HK := Lib.hid (show usedD ⟨cap, l⟩ = (usedF l : Int) by unfold usedD; rw [if_pos hm])
    clear hm
    go_wp2_with (fail)
    refine (refUsed_calls A c l w1 (Kd.C_below HR.out hB) hc hu).mono ?_
    rintro e w2 ⟨rfl, hb2⟩
    go_wp2_with (fail)
    go_ret
    exact ⟨by rw [HK.out]; rfl, hB.trans (hb2.mono hB.size)⟩
  · rw [decide_eq_false hm]
    have HK := Lib.hid (show usedD ⟨cap, l⟩ = 0 by unfold usedD; rw [if_neg hm])
    clear hm
    go_wp2_with (fail)
    go_ret
    exact ⟨by rw [HK.out]; rfl, hB⟩
/-- A file's place, or why none. -/
def atI (d : Dk) (no : Int) : Int × Int := if mayD d then (if findD d no < 0 then (0, 5) else (findD d no, 0)) else (0, 1)
set_option maxRecDepth 100000 in
set_option maxHeartbeats 4000000 in
theorem refAt_calls (cap no : Int) (A : Option Addr) (c : Nat) (l : List Fl) (w : World) (hR : Kd.C kF w A l.length l) (hc : l.length ≤ c) (hll : l.length ≤ 1000000) (hu : usedF l ≤ 4611686018427387904) :
    Calls Try.prog 58 #[.agg (cellsD cap A l.length c), .int .i64 no] w fun e w' => e = .returned (.tuple #[.int .i64 (atI ⟨cap, l⟩ no).1, .int .i64 (atI ⟨cap, l⟩ no).2]) ∧ Below w.heap.size w w' := by
  have bx := BoxC.new w (cellsD cap A l.length c) 24
  have hB := below_alloc (Below.refl w.heap.size w) (.cells (cellsD cap A l.length c) 24)
  have HR := Lib.hid hR
  have HQ := Lib.hid (refMay_calls cap A c l (w.alloc (.cells (cellsD cap A l.length c) 24)) (Kd.C_below hR hB) hc hll hu)
  have x0 := bx.c 0 rfl
  have x1 := bx.c 1 rfl
  have BX := Lib.hid bx
  clear hR bx
  obtain ⟨⟨r1, r2⟩, hr⟩ : ∃ r, atI ⟨cap, l⟩ no = r := ⟨_, rfl⟩
  rw [hr]
  have HRR := Lib.hid hr
  clear hr
  go_enter Try.func58, Try.ntmps58
  go_wp2_with (fail)
  refine HQ.out.mono ?_
  rintro e w1 ⟨rfl, hb1⟩
  replace hB := hB.trans (hb1.mono hB.size)
  have bx := BX.out.below hb1
  clear x0 x1 BX hb1 HQ
  have x0 := bx.c 0 rfl
  have x1 := bx.c 1 rfl
  by_cases hm : mayD ⟨cap, l⟩
  · rw [decide_eq_true hm]
    have HK := Lib.hid (show atI ⟨cap, l⟩ no = (if findD ⟨cap, l⟩ no < 0 then (0, 5) else (findD ⟨cap, l⟩ no, 0)) by unfold atI; rw [if_pos hm])
    clear hm
    go_wp2_with (fail)
    refine (refFind_calls cap no A c l w1 (Kd.C_below HR.out hB) hc hll hu).mono ?_
    rintro e w2 ⟨rfl, hb2⟩
    have hk := HRR.out.symm.trans HK.out
    clear HK HRR
    generalize findD ⟨cap, l⟩ no = fd at *
    by_cases hf : fd < 0
    · rw [if_pos hf] at hk
      injection hk with e1 e2
      subst e1 e2
      go_wp2_with (fail)
      refine bodyPost_ret (results_tmp2 (fn := Try.f58) (t := 4) (u := 5) rfl _ _ _) rfl ?_
      exact ⟨rfl, hB.trans (hb2.mono hB.size)⟩
    · rw [if_neg hf] at hk
      injection hk with e1 e2
      subst e1 e2
      go_wp2_with (fail)
      refine bodyPost_ret (results_tmp2 (fn := Try.f58) (t := 4) (u := 5) rfl _ _ _) rfl ?_
      exact ⟨rfl, hB.trans (hb2.mono hB.size)⟩
  · rw [decide_eq_false hm]
    have HK := Lib.hid (show atI ⟨cap, l⟩ no = (0, 1) by unfold atI; rw [if_neg hm])
    clear hm
    injection HRR.out.symm.trans HK.out with e1 e2
    subst e1 e2
    go_wp2_with (fail)
    refine bodyPost_ret (results_tmp2 (fn := Try.f58) (t := 4) (u := 5) rfl _ _ _) rfl ?_
    exact ⟨rfl, hB⟩
end Go.Proofs.Ytahiigcofgnncaa.H

/-! Layer 6: New, the reference's New, with, Write, Sync, Cut, walked. -/
namespace Go.Proofs.Ytahiigcofgnncaa.H
open Go.RowKit Moor Go.Proofs.YtahiigcofgnncaaW.PrintWords Go.Proofs.YtahiigcofgnncaaW.PrintLast Go.Proofs.YtahiigcofgnncaaW.PrintMore
set_option linter.unusedVariables false
set_option linter.unusedSimpArgs false

def NewEnd (room : Int) (w : World) (e : Ending) (w' : World) : Prop := e = .returned (.tuple #[.agg (cellsD (newD room).1.cap none 0 0), .bool (newD room).2]) ∧ Below w.heap.size w w'
set_option maxRecDepth 100000 in
set_option maxHeartbeats 4000000 in
theorem new_calls (room : Int) (w : World) : Calls Try.prog 26 #[.int .i64 room] w (NewEnd room w) := by
  obtain ⟨w0, hw0⟩ : ∃ w0, (w.alloc (.cells (cellsD 0 none 0 0) 24)).alloc (.cells (cellsD room none 0 0) 24) = w0 := ⟨_, rfl⟩
  have hB : Below w.heap.size w w0 := by rw [← hw0]; exact below_alloc (below_alloc (Below.refl _ _) _) _
  have bx : BoxC w0 w.heap.size (cellsD 0 none 0 0) 24 := by rw [← hw0]; exact (BoxC.new w _ _).alloc _
  have by_ : BoxC w0 (w.heap.size + 1) (cellsD room none 0 0) 24 := by
    rw [← hw0]
    have h9 := BoxC.new (w.alloc (.cells (cellsD 0 none 0 0) 24)) (cellsD room none 0 0) 24
    rw [World.size_alloc] at h9
    exact h9
  have HQ := Lib.hid (show Calls _ _ #[.agg (cellsD room none 0 0)] w0 _ from may_calls room none 0 [] w0 (Kd.C_nil _ _) (Nat.le_refl _) (by decide))
  subst hw0
  have y0 := by_.c 0 rfl
  have y1 := by_.c 1 rfl
  go_enter Try.func26, Try.ntmps26
  go_wp2_with (fail)
  refine HQ.out.mono ?_
  rintro e w1 ⟨rfl, hb1⟩
  replace hB := hB.trans (hb1.mono hB.size)
  replace bx := bx.below hb1
  replace by_ := by_.below hb1
  clear y0 y1
  have x0 := bx.c 0 rfl
  have x1 := bx.c 1 rfl
  have f0 := bx.f 0
  have f1 := bx.f 1
  have y0 := by_.c 0 rfl
  have y1 := by_.c 1 rfl
  have HB := Lib.hid hB
  have BX := Lib.hid bx
  clear hB bx by_ hb1 HQ
  by_cases hm : mayD ⟨room, []⟩
  · rw [decide_eq_true hm]
    have HK := Lib.hid (show newD room = (⟨room, []⟩, true) by unfold newD; rw [if_pos hm])
    clear hm
    go_wp2_with (fail)
    refine bodyPost_ret (results_DE (fn := Try.f26) (p := 2) (t := 3) rfl _ _ w.heap.size room (.slice none 0 0) rfl ((BX.out.set 0 (.int .i64 room)).set 1 (.slice none 0 0))) rfl ?_
    refine ⟨by rw [HK.out]; rfl, (HB.out.setCell (p := ⟨w.heap.size, 0, none⟩) (Nat.le_refl _) _).setCell (p := ⟨w.heap.size, 1, none⟩) (Nat.le_refl _) _⟩
  · rw [decide_eq_false hm]
    have HK := Lib.hid (show newD room = (⟨0, []⟩, false) by unfold newD; rw [if_neg hm])
    clear hm
    go_wp2_with (fail)
    refine bodyPost_ret (results_DE (fn := Try.f26) (p := 2) (t := 3) rfl _ _ w.heap.size 0 (.slice none 0 0) rfl ((BX.out.set 0 (.int .i64 0)).set 1 (.slice none 0 0))) rfl ?_
    refine ⟨by rw [HK.out]; rfl, (HB.out.setCell (p := ⟨w.heap.size, 0, none⟩) (Nat.le_refl _) _).setCell (p := ⟨w.heap.size, 1, none⟩) (Nat.le_refl _) _⟩
set_option maxRecDepth 100000 in
set_option maxHeartbeats 4000000 in
theorem refNew_calls (room : Int) (w : World) : Calls Try.prog 27 #[.int .i64 room] w (NewEnd room w) := by
  obtain ⟨w0, hw0⟩ : ∃ w0, (w.alloc (.cells (cellsD 0 none 0 0) 24)).alloc (.cells (cellsD room none 0 0) 24) = w0 := ⟨_, rfl⟩
  have hB : Below w.heap.size w w0 := by rw [← hw0]; exact below_alloc (below_alloc (Below.refl _ _) _) _
  have bx : BoxC w0 w.heap.size (cellsD 0 none 0 0) 24 := by rw [← hw0]; exact (BoxC.new w _ _).alloc _
  have by_ : BoxC w0 (w.heap.size + 1) (cellsD room none 0 0) 24 := by
    rw [← hw0]
    have h9 := BoxC.new (w.alloc (.cells (cellsD 0 none 0 0) 24)) (cellsD room none 0 0) 24
    rw [World.size_alloc] at h9
    exact h9
  have HQ := Lib.hid (show Calls _ _ #[.agg (cellsD room none 0 0)] w0 _ from refMay_calls room none 0 [] w0 (Kd.C_nil _ _) (Nat.le_refl _) (by decide) (by decide))
  subst hw0
  have y0 := by_.c 0 rfl
  have y1 := by_.c 1 rfl
  go_enter Try.func27, Try.ntmps27
  go_wp2_with (fail)
  refine HQ.out.mono ?_
  rintro e w1 ⟨rfl, hb1⟩
  replace hB := hB.trans (hb1.mono hB.size)
  replace bx := bx.below hb1
  replace by_ := by_.below hb1
  clear y0 y1
  have x0 := bx.c 0 rfl
  have x1 := bx.c 1 rfl
  have f0 := bx.f 0
  have f1 := bx.f 1
  have y0 := by_.c 0 rfl
  have y1 := by_.c 1 rfl
  have HB := Lib.hid hB
  have BX := Lib.hid bx
  clear hB bx by_ hb1 HQ
  by_cases hm : mayD ⟨room, []⟩
  · rw [decide_eq_true hm]
    have HK := Lib.hid (show newD room = (⟨room, []⟩, true) by unfold newD; rw [if_pos hm])
    clear hm
    go_wp2_with (fail)
    refine bodyPost_ret (results_DE (fn := Try.f27) (p := 2) (t := 3) rfl _ _ w.heap.size room (.slice none 0 0) rfl ((BX.out.set 0 (.int .i64 room)).set 1 (.slice none 0 0))) rfl ?_
    refine ⟨by rw [HK.out]; rfl, (HB.out.setCell (p := ⟨w.heap.size, 0, none⟩) (Nat.le_refl _) _).setCell (p := ⟨w.heap.size, 1, none⟩) (Nat.le_refl _) _⟩
  · rw [decide_eq_false hm]
    have HK := Lib.hid (show newD room = (⟨0, []⟩, false) by unfold newD; rw [if_neg hm])
    clear hm
    go_wp2_with (fail)
    refine bodyPost_ret (results_DE (fn := Try.f27) (p := 2) (t := 3) rfl _ _ w.heap.size 0 (.slice none 0 0) rfl ((BX.out.set 0 (.int .i64 0)).set 1 (.slice none 0 0))) rfl ?_
    refine ⟨by rw [HK.out]; rfl, (HB.out.setCell (p := ⟨w.heap.size, 0, none⟩) (Nat.le_refl _) _).setCell (p := ⟨w.heap.size, 1, none⟩) (Nat.le_refl _) _⟩
/-- What the reference hands back. -/
def RefEnd (ok : Nat → Prop) (cap : Int) (l : List Fl) (w : World) (e : Ending) (w' : World) : Prop := ∃ (A' : Option Addr) (c' : Nat) (xs : List FX), e = .returned (.agg (cellsD cap A' xs.length c')) ∧ xs.map flX = l ∧ xs.length ≤ c' ∧ CX (fun k => ok k ∨ w.heap.size ≤ k) w' A' xs ∧ Below w.heap.size w w'
/-- .. and why not. -/
def RefEEnd (ok : Nat → Prop) (r : Dk × Int) (w : World) (e : Ending) (w' : World) : Prop := ∃ (A' : Option Addr) (c' : Nat) (xs : List FX), e = .returned (.tuple #[.agg (cellsD r.1.cap A' xs.length c'), .int .i64 r.2]) ∧ xs.map flX = r.1.f ∧ xs.length ≤ c' ∧ CX (fun k => ok k ∨ w.heap.size ≤ k) w' A' xs ∧ Below w.heap.size w w'
/-- One file's cells are written. -/
theorem sh_set {ok : Nat → Prop} {W : World} {base g n c : Nat} {xs : List FX} (h : ShF ok W base (.slice (some ⟨g, 0, none⟩) n c) xs) (hn : xs.length = n) (i : Nat) (hi : i < n) (f : FX) (hf : RdX ok W f) (hg : ¬ ok g) :
    ShF ok (((W.setCell ⟨g, i * 3, none⟩ (.int .i64 f.no)).setCell ⟨g, i * 3 + 1, none⟩ (vX f)).setCell ⟨g, i * 3 + 2, none⟩ (.int .i64 f.sure)) base (.slice (some ⟨g, 0, none⟩) n c) (xs.set i f) := by
  obtain ⟨ho, hx⟩ := h
  rw [hn] at ho
  have hil : i < xs.length := by omega
  have e1 := flat_set xs i 0 (by omega) xs[i] ⟨f.no, xs[i].A, xs[i].c, xs[i].data, xs[i].sure⟩ (List.getElem?_eq_getElem hil) (.int .i64 f.no) rfl
  have e2 := flat_set (xs.set i ⟨f.no, xs[i].A, xs[i].c, xs[i].data, xs[i].sure⟩) i 1 (by omega) ⟨f.no, xs[i].A, xs[i].c, xs[i].data, xs[i].sure⟩ ⟨f.no, f.A, f.c, f.data, xs[i].sure⟩ (List.getElem?_set_self hil) (vX f) rfl
  rw [List.set_set] at e2
  have e3 := flat_set (xs.set i ⟨f.no, f.A, f.c, f.data, xs[i].sure⟩) i 2 (by omega) ⟨f.no, f.A, f.c, f.data, xs[i].sure⟩ f (List.getElem?_set_self hil) (.int .i64 f.sure) rfl
  rw [List.set_set] at e3
  have o1 := (ho.stored (i * 3 + 0) (.int .i64 f.no)).1
  rw [e1] at o1
  have o2 := (o1.stored (i * 3 + 1) (vX f)).1
  rw [e2] at o2
  have o3 := (o2.stored (i * 3 + 2) (.int .i64 f.sure)).1
  rw [e3] at o3
  have hag : ∀ k, k ≠ g → (((W.setCell ⟨g, i * 3, none⟩ (.int .i64 f.no)).setCell ⟨g, i * 3 + 1, none⟩ (vX f)).setCell ⟨g, i * 3 + 2, none⟩ (.int .i64 f.sure)).heap[k]? = W.heap[k]? := fun k hk => (Below.heap_setCell _ _ _ k hk).trans ((Below.heap_setCell _ _ _ k hk).trans (Below.heap_setCell _ _ _ k hk))
  have hsz : (((W.setCell ⟨g, i * 3, none⟩ (.int .i64 f.no)).setCell ⟨g, i * 3 + 1, none⟩ (vX f)).setCell ⟨g, i * 3 + 2, none⟩ (.int .i64 f.sure)).heap.size = W.heap.size := by simp
  refine ⟨by rw [List.length_set, hn]; exact o3, fun x hxm => ?_⟩
  have hr : RdX (fun k => ok k ∧ (Value.slice (some ⟨g, 0, none⟩) n c).ownBlock ≠ some k) W x := by
    rcases List.mem_or_eq_of_mem_set hxm with h | h
    · exact hx x h
    · rw [h]
      exact hf.mono (fun k hk => ⟨hk, fun e => hg ((show g = k by simpa [Value.ownBlock] using e) ▸ hk)⟩)
  exact (hr.moved (by rw [hsz]; exact Nat.le_refl _) (fun k hk _ => hag k (fun e => hk.2 (by rw [e]; rfl)))).mono (fun k hk => hk.1)
set_option maxRecDepth 100000 in
set_option maxHeartbeats 8000000 in
theorem with_calls (cap : Int) (i : Nat) (A : Option Addr) (c : Nat) (xs : List FX) (f : FX) (ok : Nat → Prop) (w : World) (hC : CX ok w A xs) (hl : xs.length ≤ 1000) (hok : ∀ k, ok k → k < w.heap.size) (hf : RdX ok w f) (hi : i < xs.length) :
    Calls Try.prog 59 #[.agg (cellsD cap A xs.length c), .int .i64 (i : Int), .agg #[.int .i64 f.no, vX f, .int .i64 f.sure]] w (RefEnd ok cap ((xs.map flX).set i (flX f)) w) := by
  obtain ⟨w0, hw0⟩ : ∃ w0, ((w.alloc (.cells (cellsD cap A xs.length c) 24)).alloc (.cells #[.int .i64 f.no, vX f, .int .i64 f.sure] 32)).alloc (.cells (cellsD 0 none 0 0) 24) = w0 := ⟨_, rfl⟩
  have hB : Below w.heap.size w w0 := by rw [← hw0]; exact below_alloc (below_alloc (below_alloc (Below.refl _ _) _) _) _
  have hz0 : w0.heap.size = w.heap.size + 3 := by rw [← hw0]; simp
  have bx : BoxC w0 w.heap.size (cellsD cap A xs.length c) 24 := by rw [← hw0]; exact ((BoxC.new w _ _).alloc _).alloc _
  have bf : BoxC w0 (w.heap.size + 1) #[.int .i64 f.no, vX f, .int .i64 f.sure] 32 := by
    rw [← hw0]
    have h9 := BoxC.new (w.alloc (.cells (cellsD cap A xs.length c) 24)) #[.int .i64 f.no, vX f, .int .i64 f.sure] 32
    rw [World.size_alloc] at h9
    exact h9.alloc _
  have bz : BoxC w0 (w.heap.size + 1 + 1) (cellsD 0 none 0 0) 24 := by
    rw [← hw0]
    have h9 := BoxC.new ((w.alloc (.cells (cellsD cap A xs.length c) 24)).alloc (.cells #[.int .i64 f.no, vX f, .int .i64 f.sure] 32)) (cellsD 0 none 0 0) 24
    simp only [World.size_alloc] at h9
    exact h9
  have hC0 := hC.moved hB.size (Agree.below hB hok)
  have hf0 : RdX ok w0 f := (hf.moved hB.size (Agree.below hB hok)).mono (fun k hk => hk.1)
  obtain ⟨ad, rfl, hcells⟩ := hC0.2.1 (by omega)
  obtain ⟨A1, c1, w1, hr, hsh, hb1, -⟩ := sh_append (ShF.nil ok w0 w0.heap.size) rfl 22 ad xs.length c rfl (hcells w0 (Agree.refl _ _)) (fun y hy => (hC0.2.2 y hy).mono (fun k hk => ⟨hk, fun e => by cases e⟩)) (by simp; omega) (Nat.le_refl _)
  rw [List.nil_append] at hsh
  obtain ⟨n, hn⟩ : ∃ n, xs.length = n := ⟨_, rfl⟩
  simp only [hn, List.length_nil, Nat.zero_add] at hr hsh
  obtain ⟨g, cap', he, hg1, hg2⟩ := (show w1.ownsRow w0.heap.size 32 3 (.slice A1 n c1) n (flat xs) from hn ▸ hsh.1).form (by omega)
  injection he with he1 _ he3
  subst he1 he3
  have bx1 := bx.below hb1
  have bf1 := bf.below hb1
  have bz1 := bz.below hb1
  have hng : ¬ ok g := fun e => by have := hok g e; omega
  have hf1 : RdX ok w1 f := (hf0.moved hb1.size (Agree.belowAll hb1 _)).mono (fun k hk => hk.1)
  have hset := sh_set hsh hn i (by omega) f hf1 hng
  have hrow : w1.ownsRow w0.heap.size 32 3 (.slice (some ⟨g, 0, none⟩) n c1) n (flat xs) := hn ▸ hsh.1
  have hin : (i : Int) < (n : Int) := by omega
  have x0 := bx.c 0 rfl
  have x1 := bx.c 1 rfl
  rw [hn] at x1
  have fc0 := bf1.c 0 rfl
  have fc1 := bf1.c 1 rfl
  have fc2 := bf1.c 2 rfl
  have hxi : (flat xs)[i * 3]? = some (.int .i64 xs[i].no) ∧ (flat xs)[i * 3 + 1]? = some (vX xs[i]) ∧ (flat xs)[i * 3 + 2]? = some (.int .i64 xs[i].sure) := by
    refine ⟨?_, ?_, ?_⟩
    · have := flat_get xs i 0 (by omega)
      rw [List.getElem?_eq_getElem hi] at this
      exact this
    · have := flat_get xs i 1 (by omega)
      rw [List.getElem?_eq_getElem hi] at this
      exact this
    · have := flat_get xs i 2 (by omega)
      rw [List.getElem?_eq_getElem hi] at this
      exact this
  have g0 := (hrow.cellAt (i * 3) (by omega)).trans hxi.1
  have g1 := (hrow.cellAt (i * 3 + 1) (by omega)).trans hxi.2.1
  have g2 := (hrow.cellAt (i * 3 + 2) (by omega)).trans hxi.2.2
  have k0 := hrow.frozenAt (i * 3)
  have k1 := hrow.frozenAt (i * 3 + 1)
  have k2 := hrow.frozenAt (i * 3 + 2)
  obtain ⟨W2, hW2⟩ : ∃ W2, ((w1.setCell ⟨g, i * 3, none⟩ (.int .i64 f.no)).setCell ⟨g, i * 3 + 1, none⟩ (vX f)).setCell ⟨g, i * 3 + 2, none⟩ (.int .i64 f.sure) = W2 := ⟨_, rfl⟩
  have hne : ∀ q, q < w0.heap.size → q ≠ g := fun q hq e => by omega
  have hb2 : Below w0.heap.size w0 W2 := by
    rw [← hW2]
    exact ((hb1.setCell (p := ⟨g, i * 3, none⟩) hg1 _).setCell (p := ⟨g, i * 3 + 1, none⟩) hg1 _).setCell (p := ⟨g, i * 3 + 2, none⟩) hg1 _
  rw [hW2] at hset
  have bx2 := bx.below hb2
  have bz2 := bz.below hb2
  have x20 := bx2.c 0 rfl
  have z0 := bz2.c 0 rfl
  have z1 := bz2.c 1 rfl
  have zf0 := bz2.f 0
  have zf1 := bz2.f 1
  have hbox := (bz2.set 0 (.int .i64 cap)).set 1 (.slice (some ⟨g, 0, none⟩) n c1)
  have hset2 : ShF ok ((W2.setCell ⟨w.heap.size + 1 + 1, 0, none⟩ (.int .i64 cap)).setCell ⟨w.heap.size + 1 + 1, 1, none⟩ (.slice (some ⟨g, 0, none⟩) n c1)) w0.heap.size (.slice (some ⟨g, 0, none⟩) n c1) (xs.set i f) := by
    refine hset.moved (by simp) (fun k hk _ => ?_)
    have hk2 : k ≠ w.heap.size + 1 + 1 := by
      rcases hk with hk | hk
      · have := hok k hk; omega
      · have hk3 : g = k := by simpa [Value.ownBlock] using hk
        omega
    exact (Below.heap_setCell _ _ _ k hk2).trans (Below.heap_setCell _ _ _ k hk2)
  have hB2 : Below w.heap.size w ((W2.setCell ⟨w.heap.size + 1 + 1, 0, none⟩ (.int .i64 cap)).setCell ⟨w.heap.size + 1 + 1, 1, none⟩ (.slice (some ⟨g, 0, none⟩) n c1)) :=
    ((hB.trans (hb2.mono hB.size)).setCell (p := ⟨w.heap.size + 1 + 1, 0, none⟩) (by show w.heap.size ≤ w.heap.size + 1 + 1; omega) _).setCell (p := ⟨w.heap.size + 1 + 1, 1, none⟩) (by show w.heap.size ≤ w.heap.size + 1 + 1; omega) _
  have HRUN := Lib.hid hr
  have HBOX := Lib.hid hbox
  have HFIN := Lib.hid (show RefEnd ok cap ((xs.map flX).set i (flX f)) w (.returned (.agg (cellsD cap (some ⟨g, 0, none⟩) n c1))) ((W2.setCell ⟨w.heap.size + 1 + 1, 0, none⟩ (.int .i64 cap)).setCell ⟨w.heap.size + 1 + 1, 1, none⟩ (.slice (some ⟨g, 0, none⟩) n c1)) from by
    have hls : (xs.set i f).length = n := by rw [List.length_set]; exact hn
    obtain ⟨q1, q2⟩ := hset2.cx hls
    exact ⟨some ⟨g, 0, none⟩, c1, xs.set i f, by rw [hls], by rw [List.map_set], by rw [hls]; exact q1, q2.mono (fun k hk => hk.imp id (fun h => by omega)), hB2⟩)
  rw [hn] at hw0 ⊢
  clear hr hbox hset hset2 hB2 hf0 hf1 hf hC hC0 hcells hsh hrow hxi bx bf bz bx1 bf1 bz1 bx2 bz2 hb1 hb2 hB hg1 hg2 hne hok hng
  go_enter Try.func59, Try.ntmps59
  go_wp2_with (at_builtin; refine Lib.wpList_append_run _ rfl _ _ _ _ rfl _ _ rfl rfl _ _ HRUN.out ?_)
  refine bodyPost_ret (results_D (fn := Try.f59) (p := 6) rfl _ _ (w.heap.size + 1 + 1) cap (.slice (some ⟨g, 0, none⟩) n c1) rfl HBOX.out) rfl ?_
  exact HFIN.out
theorem file_atX {ok : Nat → Prop} {W : World} {A : Option Addr} {xs : List FX} (h : CX ok W A xs) (k : Nat) (hk : k < xs.length) : ∃ ad, A = some ad ∧ W.cell? (ad.add (k * 3)) = some (.int .i64 xs[k].no) ∧ W.cell? ⟨(ad.add (k * 3)).block, (ad.add (k * 3)).off + 1, none⟩ = some (vX xs[k]) ∧ W.cell? ⟨(ad.add (k * 3)).block, (ad.add (k * 3)).off + 2, none⟩ = some (.int .i64 xs[k].sure) ∧ RdX ok W xs[k] := by
  obtain ⟨ad, e, hc⟩ := h.2.1 (by omega)
  have hg : ∀ j, j < 3 → W.cell? (ad.add (k * 3 + j)) = (cellsX xs[k])[j]? := fun j hj => by
    have h1 := flat_get xs k j hj
    rw [List.getElem?_eq_getElem hk] at h1
    have h3 : j < (cellsX xs[k]).length := hj
    rw [show (some xs[k]).bind (fun x => (cellsX x)[j]?) = (cellsX xs[k])[j]? from rfl, List.getElem?_eq_getElem h3] at h1
    rw [List.getElem?_eq_getElem h3]
    exact hc W (Agree.refl _ _) _ _ h1
  have e0 := hg 0 (by omega)
  have e1 := hg 1 (by omega)
  have e2 := hg 2 (by omega)
  refine ⟨ad, e, by simpa using e0, ?_, ?_, h.2.2 _ (List.getElem_mem hk)⟩
  · refine Eq.trans ?_ e1; congr 1; unfold Addr.add; split <;> simp_all [Nat.add_assoc]
  · refine Eq.trans ?_ e2; congr 1; unfold Addr.add; split <;> simp_all [Nat.add_assoc]
theorem rdx_own {W : World} {base : Nat} {x : FX} (h : Kd.R kB 5 W base (fun _ => True) (vX x) x.data) : RdX (fun k => base ≤ k) W x :=
  ⟨(Kd.R_reads' h).2.1, fun W' hW => (Kd.R_reads' (Kd.R_move (Kd.R_bound h) (fun k hk => hW k hk.2.1 hk.2.2.1))).2.2⟩
theorem at_cases (d : Dk) (no : Int) : (∃ e, e ≠ 0 ∧ atI d no = (0, e) ∧ ∀ g, atD d no g = (d, e)) ∨ (mayD d ∧ ∃ (i : Nat) (f : Fl), d.f[i]? = some f ∧ atI d no = ((i : Int), 0) ∧ ∀ g, atD d no g = g i f) := by
  by_cases hm : mayD d
  · obtain ⟨cap, l⟩ := d
    cases hi : idxF no l with
    | none =>
      refine .inl ⟨5, by decide, ?_, fun g => ?_⟩
      · unfold atI
        rw [if_pos hm, findD_idx hm, hi]
        rfl
      · unfold atD
        rw [if_pos hm]
        dsimp only
        rw [hi]
    | some i =>
      obtain ⟨f, hf, hn⟩ := idxF_some hi
      refine .inr ⟨hm, i, f, hf, ?_, fun g => ?_⟩
      · unfold atI
        rw [if_pos hm, findD_idx hm, hi]
        show (if ((i : Nat) : Int) < 0 then ((0 : Int), (5 : Int)) else ((i : Int), 0)) = _
        rw [if_neg (by omega)]
      · unfold atD
        rw [if_pos hm]
        dsimp only
        rw [hi]
        dsimp only
        rw [hf]
  · refine .inl ⟨1, by decide, ?_, fun g => ?_⟩
    · unfold atI
      rw [if_neg hm]
    · unfold atD
      rw [if_neg hm]
/-- A disk is put into the result's box. -/
structure RFin (ok : Nat → Prop) (w W : World) (B : Nat) (cap : Int) (A : Option Addr) (n c : Nat) (xs : List FX) : Prop where
  z0 : W.cell? ⟨B, 0, none⟩ = some (.int .i64 0)
  z1 : W.cell? ⟨B, 1, none⟩ = some (.slice none 0 0)
  f0 : W.frozen? ⟨B, 0, none⟩ = false
  f1 : W.frozen? ⟨B, 1, none⟩ = false
  box : BoxC ((W.setCell ⟨B, 0, none⟩ (.int .i64 cap)).setCell ⟨B, 1, none⟩ (.slice A n c)) B (cellsD cap A n c) 24
  cx : CX (fun k => ok k ∨ w.heap.size ≤ k) ((W.setCell ⟨B, 0, none⟩ (.int .i64 cap)).setCell ⟨B, 1, none⟩ (.slice A n c)) A xs
  below : Below w.heap.size w ((W.setCell ⟨B, 0, none⟩ (.int .i64 cap)).setCell ⟨B, 1, none⟩ (.slice A n c))
theorem r_fin {ok okk : Nat → Prop} {w W : World} {B : Nat} {A : Option Addr} {xs : List FX} (cap : Int) (n c : Nat) (hB : Below w.heap.size w W) (hw : w.heap.size ≤ B) (bz : BoxC W B (cellsD 0 none 0 0) 24) (hC : CX okk W A xs) (hne : ¬ okk B) (ho : ∀ k, okk k → ok k ∨ w.heap.size ≤ k) : RFin ok w W B cap A n c xs := by
  refine ⟨bz.c 0 rfl, bz.c 1 rfl, bz.f 0, bz.f 1, (bz.set 0 (.int .i64 cap)).set 1 (.slice A n c), (hC.moved (by simp) (fun k hk _ => ?_)).mono ho, (hB.setCell (p := ⟨B, 0, none⟩) hw _).setCell (p := ⟨B, 1, none⟩) hw _⟩
  have hk2 : k ≠ B := fun e => hne (e ▸ hk)
  exact (Below.heap_setCell _ _ _ k hk2).trans (Below.heap_setCell _ _ _ k hk2)
/-- A file's box while it is changed. -/
structure Mid (ok : Nat → Prop) (w v : World) (B : Nat) (cap : Int) (A : Option Addr) (n c : Nat) (xs : List FX) (y : FX) : Prop where
  b8 : BoxC v B #[.int .i64 y.no, vX y, .int .i64 y.sure] 32
  bx : BoxC v w.heap.size (cellsD cap A n c) 24
  bz : BoxC v (w.heap.size + 1) (cellsD 0 none 0 0) 24
  cx : CX ok v A xs
  below : Below w.heap.size w v
  lt : w.heap.size + 2 ≤ B
  no : ∀ k, ok k → k < w.heap.size
theorem Mid.step {ok : Nat → Prop} {w v v' : World} {B : Nat} {cap : Int} {A : Option Addr} {n c : Nat} {xs : List FX} {y : FX} (h : Mid ok w v B cap A n c xs y) (hb : Below v.heap.size v v') : Mid ok w v' B cap A n c xs y :=
  ⟨h.b8.below hb, h.bx.below hb, h.bz.below hb, h.cx.moved hb.size (Agree.belowAll hb _), h.below.trans (hb.mono h.below.size), h.lt, h.no⟩
theorem Mid.put {ok : Nat → Prop} {w v : World} {B : Nat} {cap : Int} {A : Option Addr} {n c : Nat} {xs : List FX} {y : FX} (h : Mid ok w v B cap A n c xs y) (j : Nat) (u : Value) (z : FX) (hz : (#[.int .i64 y.no, vX y, .int .i64 y.sure] : Array Value).setIfInBounds j u = #[.int .i64 z.no, vX z, .int .i64 z.sure]) : Mid ok w (v.setCell ⟨B, j, none⟩ u) B cap A n c xs z := by
  have hl := h.lt
  have hag : ∀ k, k ≠ B → (v.setCell ⟨B, j, none⟩ u).heap[k]? = v.heap[k]? := fun k hk => Below.heap_setCell _ _ _ k hk
  refine ⟨hz ▸ h.b8.set j u, (hag _ (by omega)).trans h.bx, (hag _ (by omega)).trans h.bz, h.cx.moved (by simp) (fun k hk _ => hag k (by have := h.no k hk; omega)), h.below.setCell (p := ⟨B, j, none⟩) (by show w.heap.size ≤ B; omega) u, h.lt, h.no⟩
theorem rdx_end {v1 w3 : World} {base : Nat} {y : FX} (h : Kd.R kB 5 v1 base (fun _ => True) (vX y) y.data) (hs : v1.heap.size ≤ w3.heap.size) (ha : ∀ k, base ≤ k → k < v1.heap.size → w3.heap[k]? = v1.heap[k]?) {ok : Nat → Prop} (ho : ∀ k, base ≤ k → k < w3.heap.size → ok k) : RdX ok w3 y :=
  ((rdx_own h).moved hs ha).mono (fun k hk => ho k hk.1 (Nat.lt_of_lt_of_le hk.2 hs))
set_option maxRecDepth 100000 in
set_option maxHeartbeats 8000000 in
theorem refSync_calls (cap no : Int) (A : Option Addr) (c : Nat) (xs : List FX) (ok : Nat → Prop) (w : World) (hC : CX ok w A xs) (hc : xs.length ≤ c) (hl : xs.length ≤ 1000) (hok : ∀ k, ok k → k < w.heap.size) (hu : usedF (xs.map flX) ≤ 4611686018427387904) :
    Calls Try.prog 48 #[.agg (cellsD cap A xs.length c), .int .i64 no] w (RefEEnd ok (syncD ⟨cap, xs.map flX⟩ no) w) := by
  obtain ⟨w0, hw0⟩ : ∃ w0, (w.alloc (.cells (cellsD cap A xs.length c) 24)).alloc (.cells (cellsD 0 none 0 0) 24) = w0 := ⟨_, rfl⟩
  have hB : Below w.heap.size w w0 := by rw [← hw0]; exact below_alloc (below_alloc (Below.refl _ _) _) _
  have hz0 : w0.heap.size = w.heap.size + 2 := by rw [← hw0]; simp
  have bx : BoxC w0 w.heap.size (cellsD cap A xs.length c) 24 := by rw [← hw0]; exact (BoxC.new w _ _).alloc _
  have bz : BoxC w0 (w.heap.size + 1) (cellsD 0 none 0 0) 24 := by
    rw [← hw0]
    have h9 := BoxC.new (w.alloc (.cells (cellsD cap A xs.length c) 24)) (cellsD 0 none 0 0) 24
    rw [World.size_alloc] at h9
    exact h9
  have hC0 := hC.moved hB.size (Agree.below hB hok)
  have q := refAt_calls cap no A c (xs.map flX) w0 hC0.now (by rw [List.length_map]; exact hc) (by rw [List.length_map]; omega) hu
  rw [List.length_map] at q
  have HQ := Lib.hid q
  have HOK := Lib.hid hok
  have HC0 := Lib.hid hC0
  have HZ0 := Lib.hid hz0
  have x0 := bx.c 0 rfl
  have x1 := bx.c 1 rfl
  have HW0 := Lib.hid hw0
  clear hC0 q hC hok hz0
  obtain ⟨r, hr⟩ : ∃ r, syncD ⟨cap, xs.map flX⟩ no = r := ⟨_, rfl⟩
  rw [hr]
  have HR := Lib.hid hr
  clear hr
  go_enter Try.func48, Try.ntmps48
  go_wp2_with (fail)
  refine HQ.out.mono ?_
  rintro e w1 ⟨rfl, hb1⟩
  replace hB := hB.trans (hb1.mono hB.size)
  replace bx := bx.below hb1
  replace bz := bz.below hb1
  have hC1 := HC0.out.moved hb1.size (Agree.belowAll hb1 _)
  have hs1 := hb1.size
  have hz1 : w.heap.size + 2 ≤ w1.heap.size := by have := HZ0.out; omega
  clear x0 x1 hb1 HQ hs1
  have x0 := bx.c 0 rfl
  have x1 := bx.c 1 rfl
  rcases at_cases ⟨cap, xs.map flX⟩ no with ⟨er, he, ha, hd⟩ | ⟨hm, i, f, hf, ha, hd⟩
  · rw [ha]
    have hre := hd _ |>.symm.trans HR.out
    subst hre
    have hrf := r_fin (ok := ok) cap xs.length c hB (by omega) bz hC1 (fun e => by have := HOK.out _ e; omega) (fun k hk => .inl hk)
    have z0 := hrf.z0
    have z1 := hrf.z1
    have zf0 := hrf.f0
    have zf1 := hrf.f1
    have heb : (er != 0) = true := by simpa using he
    have HRF := Lib.hid hrf
    clear hrf he ha hd HR
    go_wp2_with (fail)
    refine bodyPost_ret (results_DE (fn := Try.f48) (p := 4) (t := 5) rfl _ _ (w.heap.size + 1) cap (.slice A xs.length c) rfl HRF.out.box) rfl ?_
    exact ⟨A, c, xs, rfl, rfl, hc, HRF.out.cx, HRF.out.below⟩
  · rw [ha]
    have hre := hd _ |>.symm.trans HR.out
    have hil : i < xs.length := by have := (List.getElem?_eq_some_iff.1 hf).1; simpa using this
    obtain ⟨ad, rfl, c0, c1, c2, hrx⟩ := file_atX hC1 i hil
    have hfx : flX xs[i] = f := by
      rw [List.getElem?_map, List.getElem?_eq_getElem hil] at hf
      injection hf
    subst hfx
    obtain ⟨x, hx⟩ : ∃ x, xs[i] = x := ⟨_, rfl⟩
    rw [hx] at c0 c1 c2 hrx hre
    have hii : (i : Int) < (xs.length : Int) := by omega
    have hi0 : (0 : Int) ≤ (i : Int) := by omega
    obtain ⟨w2, hw2⟩ : ∃ w2, w1.alloc (.cells #[.int .i64 x.no, vX x, .int .i64 x.sure] 32) = w2 := ⟨_, rfl⟩
    have hb2 : Below w1.heap.size w1 w2 := by rw [← hw2]; exact below_alloc (Below.refl _ _) _
    have hz2 : w2.heap.size = w1.heap.size + 1 := by rw [← hw2]; simp
    have b8 : BoxC w2 w1.heap.size #[.int .i64 x.no, vX x, .int .i64 x.sure] 32 := by rw [← hw2]; exact BoxC.new _ _ _
    replace bx := bx.below hb2
    replace bz := bz.below hb2
    replace hrx := (hrx.moved hb2.size (Agree.belowAll hb2 _)).mono (ok' := ok) (fun k hk => hk.1)
    have hC2 := hC1.moved hb2.size (Agree.belowAll hb2 _)
    replace hB := hB.trans (hb2.mono hB.size)
    clear hb2 hC1 ha hd hf HR
    subst hre
    have d0 := b8.c 0 rfl
    have d1 := b8.c 1 rfl
    have d2 := b8.c 2 rfl
    have df2 := b8.f 2
    obtain ⟨w3, hw3⟩ : ∃ w3, w2.setCell ⟨w1.heap.size, 2, none⟩ (.int .i64 (x.data.length : Int)) = w3 := ⟨_, rfl⟩
    have hag : ∀ k, k ≠ w1.heap.size → w3.heap[k]? = w2.heap[k]? := fun k hk => by rw [← hw3]; exact Below.heap_setCell _ _ _ k hk
    have hsz : w3.heap.size = w2.heap.size := by rw [← hw3]; simp
    have bx3 : BoxC w3 w.heap.size (cellsD cap (some ad) xs.length c) 24 := (hag _ (by omega)).trans bx
    have bz3 : BoxC w3 (w.heap.size + 1) (cellsD 0 none 0 0) 24 := (hag _ (by omega)).trans bz
    have b83 : BoxC w3 w1.heap.size #[.int .i64 x.no, vX x, .int .i64 (x.data.length : Int)] 32 := by rw [← hw3]; exact b8.set 2 _
    have hoa : Agree ok w2 w3 := fun k hk _ => hag k (by have := HOK.out k hk; omega)
    have hC3 := hC2.moved (by omega) hoa
    have hrx3 : RdX ok w3 ⟨x.no, x.A, x.c, x.data, (x.data.length : Int)⟩ := (hrx.moved (by omega) hoa).mono (fun k hk => hk.1)
    have hB3 : Below w.heap.size w w3 := by rw [← hw3]; exact hB.setCell (p := ⟨w1.heap.size, 2, none⟩) (by show w.heap.size ≤ w1.heap.size; omega) _
    have hok3 : ∀ k, ok k → k < w3.heap.size := fun k hk => by have := HOK.out k hk; omega
    have v0 := bx3.c 0 rfl
    have v1 := bx3.c 1 rfl
    have e0 := b83.c 0 rfl
    have e1 := b83.c 1 rfl
    have e2 := b83.c 2 rfl
    clear bx bz b8 hoa hag hrx hC2 hB bx3 b83
    go_wp2_with (fail)
    refine (with_calls cap i (some ad) c xs _ ok w3 hC3 hl hok3 hrx3 hil).mono ?_
    rintro e w9 ⟨A9, c9, ys, rfl, hys, hyc, hC9, hb9⟩
    have hrf := r_fin (ok := ok) cap ys.length c9 (hB3.trans (hb9.mono hB3.size)) (show w.heap.size ≤ w.heap.size + 1 by omega) (bz3.below hb9) hC9 (fun e => e.elim (fun e => by have := HOK.out _ e; omega) (fun e => by omega)) (fun k hk => hk.imp id (fun h => by have := hB3.size; omega))
    have z0 := hrf.z0
    have z1 := hrf.z1
    have zf0 := hrf.f0
    have zf1 := hrf.f1
    have HRF := Lib.hid hrf
    have HYS := Lib.hid hys
    clear hrf hys
    go_wp2_with (fail)
    refine bodyPost_ret (results_DE (fn := Try.f48) (p := 4) (t := 5) rfl _ _ (w.heap.size + 1) cap (.slice A9 ys.length c9) rfl HRF.out.box) rfl ?_
    exact ⟨A9, c9, ys, rfl, HYS.out, hyc, HRF.out.cx, HRF.out.below⟩
set_option maxRecDepth 100000 in
set_option maxHeartbeats 8000000 in
theorem refCut_calls (cap no : Int) (A : Option Addr) (c : Nat) (xs : List FX) (n : Int) (ok : Nat → Prop) (w : World) (hC : CX ok w A xs) (hc : xs.length ≤ c) (hl : xs.length ≤ 1000) (hok : ∀ k, ok k → k < w.heap.size) (hu : usedF (xs.map flX) ≤ 4611686018427387904) :
    Calls Try.prog 49 #[.agg (cellsD cap A xs.length c), .int .i64 no, .int .i64 n] w (RefEEnd ok (cutD ⟨cap, xs.map flX⟩ no n) w) := by
  obtain ⟨w0, hw0⟩ : ∃ w0, (w.alloc (.cells (cellsD cap A xs.length c) 24)).alloc (.cells (cellsD 0 none 0 0) 24) = w0 := ⟨_, rfl⟩
  have hB : Below w.heap.size w w0 := by rw [← hw0]; exact below_alloc (below_alloc (Below.refl _ _) _) _
  have hz0 : w0.heap.size = w.heap.size + 2 := by rw [← hw0]; simp
  have bx : BoxC w0 w.heap.size (cellsD cap A xs.length c) 24 := by rw [← hw0]; exact (BoxC.new w _ _).alloc _
  have bz : BoxC w0 (w.heap.size + 1) (cellsD 0 none 0 0) 24 := by
    rw [← hw0]
    have h9 := BoxC.new (w.alloc (.cells (cellsD cap A xs.length c) 24)) (cellsD 0 none 0 0) 24
    rw [World.size_alloc] at h9
    exact h9
  have hC0 := hC.moved hB.size (Agree.below hB hok)
  have q := refAt_calls cap no A c (xs.map flX) w0 hC0.now (by rw [List.length_map]; exact hc) (by rw [List.length_map]; omega) hu
  rw [List.length_map] at q
  have HQ := Lib.hid q
  have HOK := Lib.hid hok
  have HC0 := Lib.hid hC0
  have HZ0 := Lib.hid hz0
  have x0 := bx.c 0 rfl
  have x1 := bx.c 1 rfl
  have HW0 := Lib.hid hw0
  clear hC0 q hC hok hz0
  obtain ⟨r, hr⟩ : ∃ r, cutD ⟨cap, xs.map flX⟩ no n = r := ⟨_, rfl⟩
  rw [hr]
  have HR := Lib.hid hr
  clear hr
  go_enter Try.func49, Try.ntmps49
  go_wp2_with (fail)
  refine HQ.out.mono ?_
  rintro e w1 ⟨rfl, hb1⟩
  replace hB := hB.trans (hb1.mono hB.size)
  replace bx := bx.below hb1
  replace bz := bz.below hb1
  have hC1 := HC0.out.moved hb1.size (Agree.belowAll hb1 _)
  have hs1 := hb1.size
  have hz1 : w.heap.size + 2 ≤ w1.heap.size := by have := HZ0.out; omega
  clear x0 x1 hb1 HQ hs1
  have x0 := bx.c 0 rfl
  have x1 := bx.c 1 rfl
  rcases at_cases ⟨cap, xs.map flX⟩ no with ⟨er, he, ha, hd⟩ | ⟨hm, i, f, hf, ha, hd⟩
  · rw [ha]
    have hre := hd _ |>.symm.trans HR.out
    subst hre
    have hrf := r_fin (ok := ok) cap xs.length c hB (by omega) bz hC1 (fun e => by have := HOK.out _ e; omega) (fun k hk => .inl hk)
    have z0 := hrf.z0
    have z1 := hrf.z1
    have zf0 := hrf.f0
    have zf1 := hrf.f1
    have heb : (er != 0) = true := by simpa using he
    have HRF := Lib.hid hrf
    clear hrf he ha hd HR
    go_wp2_with (fail)
    refine bodyPost_ret (results_DE (fn := Try.f49) (p := 6) (t := 7) rfl _ _ (w.heap.size + 1) cap (.slice A xs.length c) rfl HRF.out.box) rfl ?_
    exact ⟨A, c, xs, rfl, rfl, hc, HRF.out.cx, HRF.out.below⟩
  · rw [ha]
    have hre := hd _ |>.symm.trans HR.out
    have hil : i < xs.length := by have := (List.getElem?_eq_some_iff.1 hf).1; simpa using this
    obtain ⟨ad, rfl, c0, c1, c2, hrx⟩ := file_atX hC1 i hil
    have hfx : flX xs[i] = f := by
      rw [List.getElem?_map, List.getElem?_eq_getElem hil] at hf
      injection hf
    subst hfx
    obtain ⟨x, hx⟩ : ∃ x, xs[i] = x := ⟨_, rfl⟩
    rw [hx] at c0 c1 c2 hrx hre
    have hii : (i : Int) < (xs.length : Int) := by omega
    have hi0 : (0 : Int) ≤ (i : Int) := by omega
    obtain ⟨w2, hw2⟩ : ∃ w2, w1.alloc (.cells #[.int .i64 x.no, vX x, .int .i64 x.sure] 32) = w2 := ⟨_, rfl⟩
    have hb2 : Below w1.heap.size w1 w2 := by rw [← hw2]; exact below_alloc (Below.refl _ _) _
    have hz2 : w2.heap.size = w1.heap.size + 1 := by rw [← hw2]; simp
    have b8 : BoxC w2 w1.heap.size #[.int .i64 x.no, vX x, .int .i64 x.sure] 32 := by rw [← hw2]; exact BoxC.new _ _ _
    replace bx := bx.below hb2
    replace bz := bz.below hb2
    replace hrx := (hrx.moved hb2.size (Agree.belowAll hb2 _)).mono (ok' := ok) (fun k hk => hk.1)
    have hC2 := hC1.moved hb2.size (Agree.belowAll hb2 _)
    replace hB := hB.trans (hb2.mono hB.size)
    clear hb2 hC1 ha hd hf HR
    have hxm : x.data.length ≤ 65536 := by
      have h1 := (may_small hm).1
      have h2 := usedF_mem (List.mem_map_of_mem (f := flX) (List.getElem_mem hil))
      rw [hx] at h2
      dsimp only at h1 h2
      omega
    have d0 := b8.c 0 rfl
    have d1 := b8.c 1 rfl
    have d2 := b8.c 2 rfl
    have x20 := bx.c 0 rfl
    have x21 := bx.c 1 rfl
    by_cases hn : n < 0 ∨ (x.data.length : Int) < n
    · rw [if_pos hn] at hre
      subst hre
      have hrf := r_fin (ok := ok) cap xs.length c hB (show w.heap.size ≤ w.heap.size + 1 by omega) bz hC2 (fun e => by have := HOK.out _ e; omega) (fun k hk => .inl hk)
      have z0 := hrf.z0
      have z1 := hrf.z1
      have zf0 := hrf.f0
      have zf1 := hrf.f1
      have HRF := Lib.hid hrf
      clear hrf bx bz b8 hrx hC2 hB
      have hn' : n < 0 ∨ (¬ n < 0 ∧ (x.data.length : Int) < n) := by omega
      clear hn
      rcases hn' with hn | ⟨hn, hn2⟩
      all_goals
        go_wp2_with (fail)
        refine bodyPost_ret (results_DE (fn := Try.f49) (p := 6) (t := 7) rfl _ _ (w.heap.size + 1) cap (.slice (some ad) xs.length c) rfl HRF.out.box) rfl ?_
        exact ⟨some ad, c, xs, rfl, rfl, hc, HRF.out.cx, HRF.out.below⟩
    · rw [if_neg hn] at hre
      have hn0 : ¬ n < 0 := fun e => hn (.inl e)
      have hn1 : ¬ (x.data.length : Int) < n := fun e => hn (.inr e)
      clear hn
      obtain ⟨m, rfl⟩ := Int.eq_ofNat_of_zero_le (show 0 ≤ n by omega)
      have hxc : x.data.length ≤ x.c := hrx.1
      have hmc : (m : Int) ≤ (x.c : Int) := by omega
      have hmx : m ≤ x.data.length := by omega
      have hCT := Kd.C_take hrx.now hmx
      have htl : (x.data.take m).length = m := by rw [List.length_take]; omega
      rw [htl] at hCT
      have HCT := Lib.hid hCT
      obtain ⟨ct, hct⟩ : ∃ ct, x.data.take m = ct := ⟨_, rfl⟩
      have hre2 : r = (withD ⟨cap, xs.map flX⟩ i ⟨x.no, ct, (m : Int)⟩, 0) := by rw [← hct]; exact hre.symm
      subst hre2
      rw [hct] at HCT htl
      have M := Lib.hid (show Mid ok w w2 w1.heap.size cap (some ad) xs.length c xs x from ⟨b8, bx, bz, hC2, hB, hz1, HOK.out⟩)
      clear hCT bx bz b8 hrx hC2 hB hre hct
      subst htl
      go_wp2_with (at_builtin; refine Kd.R_append_rows (Kd.int .u8) (Rr := fun x cs => cs = [.int .u8 x]) (w0 := w2) w2.heap.size rfl _ _ 30 5 (.int .u8 0) 1 rfl Try.underlying30 infoU8 rfl (by decide) (by decide) (.slice none 0 0) ([] : List Int) ct x.A ct.length x.c (fun _ => True) (fun _ => False) rfl rfl (Kd.R_nil _ _ _ _ _) HCT.out (fun _ _ h => h) (fun _ h => h.elim) (fun _ _ => trivial) (Below.refl _ _) (Nat.le_refl _) (by simp; omega) ?_; intro u1 v1 hr1 hb3 hG _; rw [List.nil_append] at hr1; obtain ⟨A7, c7, rfl, hc7, hC7⟩ := Kd.R_reads hr1; have M1 := Lib.hid (M.out.step hb3); have M2 := Lib.hid (M1.out.put 1 (.slice A7 ct.length c7) ⟨x.no, A7, c7, ct, x.sure⟩ rfl); have M3 := Lib.hid (M2.out.put 2 (.int .i64 (ct.length : Int)) ⟨x.no, A7, c7, ct, (ct.length : Int)⟩ rfl); have p0 := M1.out.b8.c 1 rfl; have p1 := M1.out.b8.f 1; have p2 := M2.out.b8.c 2 rfl; have p3 := M2.out.b8.f 2; have p4 := M3.out.b8.c 0 rfl; have p5 := M3.out.b8.c 1 rfl; have p6 := M3.out.b8.c 2 rfl; have p7 := M3.out.bx.c 0 rfl; have p8 := M3.out.bx.c 1 rfl; obtain ⟨w3, hw3⟩ : ∃ w3, (v1.setCell ⟨w1.heap.size, 1, none⟩ (.slice A7 ct.length c7)).setCell ⟨w1.heap.size, 2, none⟩ (.int .i64 (ct.length : Int)) = w3 := ⟨_, rfl⟩; have hrx3 := Lib.hid (show RdX (fun k => ok k ∨ (w2.heap.size ≤ k ∧ k < w3.heap.size)) w3 ⟨x.no, A7, c7, ct, (ct.length : Int)⟩ from rdx_end (y := ⟨x.no, A7, c7, ct, (ct.length : Int)⟩) hr1 (by rw [← hw3]; simp) (fun k hk _ => by rw [← hw3]; exact (Below.heap_setCell _ _ _ k (by show k ≠ w1.heap.size; omega)).trans (Below.heap_setCell _ _ _ k (by show k ≠ w1.heap.size; omega))) (fun k h1 h2 => .inr ⟨h1, h2⟩)); rw [hw3] at M3 p4 p5 p6 p7 p8; have hsz4 : w2.heap.size ≤ w3.heap.size := (by rw [← hw3]; simpa using hb3.size); clear hr1 hC7)
      refine (with_calls cap i (some ad) c xs _ (fun k => ok k ∨ (w2.heap.size ≤ k ∧ k < w3.heap.size)) w3 (M3.out.cx.mono (fun k hk => .inl hk)) hl (fun k hk => hk.elim (fun hk => by have := M3.out.no k hk; have := M3.out.below.size; omega) (fun hk => hk.2)) hrx3.out hil).mono ?_
      rintro e w9 ⟨A9, c9, ys, rfl, hys, hyc, hC9, hb9⟩
      have hsz3 := M3.out.below.size
      have hrf := r_fin (ok := ok) cap ys.length c9 (M3.out.below.trans (hb9.mono hsz3)) (show w.heap.size ≤ w.heap.size + 1 by omega) (M3.out.bz.below hb9) hC9 (fun e => e.elim (fun e => e.elim (fun e => by have := M3.out.no _ e; omega) (fun e => by omega)) (fun e => by omega)) (fun k hk => hk.elim (fun hk => hk.elim .inl (fun h => .inr (by omega))) (fun h => .inr (by omega)))
      have z0 := hrf.z0
      have z1 := hrf.z1
      have zf0 := hrf.f0
      have zf1 := hrf.f1
      have HRF := Lib.hid hrf
      have HYS := Lib.hid hys
      clear hrf hys
      go_wp2_with (fail)
      refine bodyPost_ret (results_DE (fn := Try.f49) (p := 6) (t := 7) rfl _ _ (w.heap.size + 1) cap (.slice A9 ys.length c9) rfl HRF.out.box) rfl ?_
      exact ⟨A9, c9, ys, rfl, HYS.out, hyc, HRF.out.cx, HRF.out.below⟩
set_option maxRecDepth 100000 in
set_option maxHeartbeats 8000000 in
theorem refWrite_calls (cap no : Int) (A : Option Addr) (c : Nat) (xs : List FX) (bA : Option Addr) (bc : Nat) (b : List Int) (ok : Nat → Prop) (w : World) (hC : CX ok w A xs) (hc : xs.length ≤ c) (hl : xs.length ≤ 1000) (hok : ∀ k, ok k → k < w.heap.size) (hu : usedF (xs.map flX) ≤ 4611686018427387904) (hbC : Kd.C kB w bA b.length b) (hbc : b.length ≤ bc) (hbl : b.length ≤ 1000000) :
    Calls Try.prog 47 #[.agg (cellsD cap A xs.length c), .int .i64 no, .slice bA b.length bc] w (RefEEnd ok (writeD ⟨cap, xs.map flX⟩ no b) w) := by
  obtain ⟨w0, hw0⟩ : ∃ w0, (w.alloc (.cells (cellsD cap A xs.length c) 24)).alloc (.cells (cellsD 0 none 0 0) 24) = w0 := ⟨_, rfl⟩
  have hB : Below w.heap.size w w0 := by rw [← hw0]; exact below_alloc (below_alloc (Below.refl _ _) _) _
  have hz0 : w0.heap.size = w.heap.size + 2 := by rw [← hw0]; simp
  have bx : BoxC w0 w.heap.size (cellsD cap A xs.length c) 24 := by rw [← hw0]; exact (BoxC.new w _ _).alloc _
  have bz : BoxC w0 (w.heap.size + 1) (cellsD 0 none 0 0) 24 := by
    rw [← hw0]
    have h9 := BoxC.new (w.alloc (.cells (cellsD cap A xs.length c) 24)) (cellsD 0 none 0 0) 24
    rw [World.size_alloc] at h9
    exact h9
  have hC0 := hC.moved hB.size (Agree.below hB hok)
  have q := refAt_calls cap no A c (xs.map flX) w0 hC0.now (by rw [List.length_map]; exact hc) (by rw [List.length_map]; omega) hu
  rw [List.length_map] at q
  have HQ := Lib.hid q
  have HOK := Lib.hid hok
  have HC0 := Lib.hid hC0
  have HZ0 := Lib.hid hz0
  have x0 := bx.c 0 rfl
  have x1 := bx.c 1 rfl
  have HW0 := Lib.hid hw0
  clear hC0 q hC hok hz0
  obtain ⟨r, hr⟩ : ∃ r, writeD ⟨cap, xs.map flX⟩ no b = r := ⟨_, rfl⟩
  rw [hr]
  have HR := Lib.hid hr
  clear hr
  go_enter Try.func47, Try.ntmps47
  go_wp2_with (fail)
  refine HQ.out.mono ?_
  rintro e w1 ⟨rfl, hb1⟩
  replace hB := hB.trans (hb1.mono hB.size)
  replace bx := bx.below hb1
  replace bz := bz.below hb1
  have hC1 := HC0.out.moved hb1.size (Agree.belowAll hb1 _)
  have hs1 := hb1.size
  have hz1 : w.heap.size + 2 ≤ w1.heap.size := by have := HZ0.out; omega
  clear x0 x1 hb1 HQ hs1
  have x0 := bx.c 0 rfl
  have x1 := bx.c 1 rfl
  rcases at_cases ⟨cap, xs.map flX⟩ no with ⟨er, he, ha, hd⟩ | ⟨hm, i, f, hf, ha, hd⟩
  · rw [ha]
    have hre := hd _ |>.symm.trans HR.out
    subst hre
    have hrf := r_fin (ok := ok) cap xs.length c hB (by omega) bz hC1 (fun e => by have := HOK.out _ e; omega) (fun k hk => .inl hk)
    have z0 := hrf.z0
    have z1 := hrf.z1
    have zf0 := hrf.f0
    have zf1 := hrf.f1
    have heb : (er != 0) = true := by simpa using he
    have HRF := Lib.hid hrf
    clear hrf he ha hd HR
    go_wp2_with (fail)
    refine bodyPost_ret (results_DE (fn := Try.f47) (p := 6) (t := 7) rfl _ _ (w.heap.size + 1) cap (.slice A xs.length c) rfl HRF.out.box) rfl ?_
    exact ⟨A, c, xs, rfl, rfl, hc, HRF.out.cx, HRF.out.below⟩
  · rw [ha]
    have hre := hd _ |>.symm.trans HR.out
    have hil : i < xs.length := by have := (List.getElem?_eq_some_iff.1 hf).1; simpa using this
    have hxm : ∀ y ∈ xs, y.data.length ≤ 65536 := fun y hy => by
      have h1 := (may_small hm).1
      have h2 := usedF_mem (List.mem_map_of_mem (f := flX) hy)
      dsimp only at h1 h2
      omega
    have hcl : (usedF (xs.map flX) : Int) ≤ 65536 := by have := (may_small hm).1; dsimp only at this; omega
    obtain ⟨u, hu1⟩ : ∃ u, usedF (xs.map flX) = u := ⟨_, rfl⟩
    have qu := refUsed_calls A c (xs.map flX)
    rw [List.length_map] at qu
    rw [hu1] at hcl
    rw [show (usedF (({ cap := cap, f := xs.map flX } : Dk).f) : Int) = (u : Int) by rw [← hu1]] at hre
    have HUS := Lib.hid hu1
    have QU := Lib.hid qu
    have HCN := Lib.hid (fun W (h : Below w1.heap.size w1 W) => by have := (hC1.moved h.size (Agree.belowAll h _)).now; rw [List.length_map] at this; exact this)
    have HSS := Lib.hid (show ∀ W, Below w1.heap.size w1 W → W.cell? ⟨w.heap.size, 0, none⟩ = some (.int .i64 cap) ∧ W.cell? ⟨w.heap.size, 1, none⟩ = some (.slice A xs.length c) from fun W h => ⟨(bx.below h).c 0 rfl, (bx.below h).c 1 rfl⟩)
    have D0 := Lib.hid (show Below w1.heap.size w1 w1.drew from (Below.refl _ w1).drew)
    have hsum : IntKind.i64.wrap ((u : Int) + (b.length : Int)) = (u : Int) + (b.length : Int) := i64_of (by omega) (by omega)
    have HBX := Lib.hid bx
    have HBZ := Lib.hid bz
    have HC1 := Lib.hid hC1
    have HB := Lib.hid hB
    have HRE := Lib.hid hre
    have HXM := Lib.hid hxm
    have HBC := Lib.hid (Kd.C_below hbC hB)
    clear qu bx bz hC1 hB hu1 hre hxm ha hd HR hbC
    by_cases hgt : cap < (u : Int) + (b.length : Int)
    · have hgd : decide (cap < (u : Int) + (b.length : Int)) = true := decide_eq_true hgt
      go_wp2_with (fail)
      go_region_held3 (fun W => W.cell? ⟨w.heap.size, 0, none⟩ = some (.int .i64 cap) ∧ W.cell? ⟨w.heap.size, 1, none⟩ = some (.slice A xs.length c))
        (first | (with_reducible exact HSS.out _ D0.out) | (with_reducible exact HSS.out _ D1.out))
        ((go_at_call 40; refine (QU.out _ (HCN.out _ D0.out) hc hu).mono ?_; rintro e v1 ⟨rfl, hq1⟩; rw [HUS.out]; have D1 := Lib.hid (below_onR hq1 D0.out)))
      all_goals
        have hre := HRE.out
        rw [if_pos (show (u : Int) + (b.length : Int) > cap by omega)] at hre
        subst hre
        have hrf := r_fin (ok := ok) cap xs.length c (HB.out.trans (D1.out.mono HB.out.size)) (show w.heap.size ≤ w.heap.size + 1 by omega) (HBZ.out.below D1.out) (HC1.out.moved D1.out.size (Agree.belowAll D1.out _)) (fun e => by have := HOK.out _ e; omega) (fun k hk => .inl hk)
        have x20 := (HBX.out.below D1.out).c 0 rfl
        have x21 := (HBX.out.below D1.out).c 1 rfl
        have z0 := hrf.z0
        have z1 := hrf.z1
        have zf0 := hrf.f0
        have zf1 := hrf.f1
        have HRF := Lib.hid hrf
        clear hrf
        go_wp2_with (fail)
        refine bodyPost_ret (results_DE (fn := Try.f47) (p := 6) (t := 7) rfl _ _ (w.heap.size + 1) cap (.slice A xs.length c) rfl HRF.out.box) rfl ?_
        exact ⟨A, c, xs, rfl, rfl, hc, HRF.out.cx, HRF.out.below⟩
    · have hgd : decide (cap < (u : Int) + (b.length : Int)) = false := decide_eq_false hgt
      go_wp2_with (fail)
      go_region_held3 (fun W => W.cell? ⟨w.heap.size, 0, none⟩ = some (.int .i64 cap) ∧ W.cell? ⟨w.heap.size, 1, none⟩ = some (.slice A xs.length c))
        (first | (with_reducible exact HSS.out _ D0.out) | (with_reducible exact HSS.out _ D1.out))
        ((go_at_call 40; refine (QU.out _ (HCN.out _ D0.out) hc hu).mono ?_; rintro e v1 ⟨rfl, hq1⟩; rw [HUS.out]; have D1 := Lib.hid (below_onR hq1 D0.out)))
      all_goals
        have hre := HRE.out
        rw [if_neg (show ¬ ((u : Int) + (b.length : Int) > cap) by omega)] at hre
        have hC1 := HC1.out.moved D1.out.size (Agree.belowAll D1.out _)
        have bx := HBX.out.below D1.out
        have bz := HBZ.out.below D1.out
        have hB := HB.out.trans (D1.out.mono HB.out.size)
        have hz1' : w.heap.size + 2 ≤ v1.heap.size := by have := D1.out.size; omega
        have x20 := bx.c 0 rfl
        have x21 := bx.c 1 rfl
        clear x0 x1
        obtain ⟨ad, rfl, c0, c1, c2, hrx⟩ := file_atX hC1 i hil
        have hfx : flX xs[i] = f := by
          rw [List.getElem?_map, List.getElem?_eq_getElem hil] at hf
          injection hf
        subst hfx
        obtain ⟨x, hx⟩ : ∃ x, xs[i] = x := ⟨_, rfl⟩
        rw [hx] at c0 c1 c2 hrx hre
        have hii : (i : Int) < (xs.length : Int) := by omega
        have hi0 : (0 : Int) ≤ (i : Int) := by omega
        obtain ⟨w2, hw2⟩ : ∃ w2, v1.alloc (.cells #[.int .i64 x.no, vX x, .int .i64 x.sure] 32) = w2 := ⟨_, rfl⟩
        have hb2 : Below v1.heap.size v1 w2 := by rw [← hw2]; exact below_alloc (Below.refl _ _) _
        have hz2 : w2.heap.size = v1.heap.size + 1 := by rw [← hw2]; simp
        have b8 : BoxC w2 v1.heap.size #[.int .i64 x.no, vX x, .int .i64 x.sure] 32 := by rw [← hw2]; exact BoxC.new _ _ _
        replace bx := bx.below hb2
        replace bz := bz.below hb2
        replace hrx := (hrx.moved hb2.size (Agree.belowAll hb2 _)).mono (ok' := ok) (fun k hk => hk.1)
        have hC2 := hC1.moved hb2.size (Agree.belowAll hb2 _)
        replace hB := hB.trans (hb2.mono hB.size)
        have hxm : x.data.length ≤ 65536 := by have := HXM.out _ (List.getElem_mem hil); rw [hx] at this; exact this
        have d0 := b8.c 0 rfl
        have d1 := b8.c 1 rfl
        have d2 := b8.c 2 rfl
        have HCX := Lib.hid hrx.now
        have HCB := Lib.hid (Kd.C_below (Kd.C_below HBC.out D1.out) hb2)
        have hxc : x.data.length ≤ x.c := hrx.1
        have hre2 : r = (withD ⟨cap, xs.map flX⟩ i ⟨x.no, x.data ++ b, x.sure⟩, 0) := hre.symm
        subst hre2
        have M := Lib.hid (show Mid ok w w2 v1.heap.size cap (some ad) xs.length c xs x from ⟨b8, bx, bz, hC2, hB, hz1', HOK.out⟩)
        obtain ⟨ct, hct⟩ : ∃ ct, x.data ++ b = ct := ⟨_, rfl⟩
        have hctl : ct.length = x.data.length + b.length := by rw [← hct, List.length_append]
        have HCT := Lib.hid hct
        rw [hct]
        have HLE := Lib.hid hctl
        clear bx bz b8 hrx hC2 hB hre hct hb2 hC1 hctl hgd
        go_wp2_with (at_builtin; first
          | (have zz := hr1; refine Kd.R_append_rows (Kd.int .u8) (Rr := fun x cs => cs = [.int .u8 x]) (w0 := w2) w2.heap.size rfl _ _ 30 5 (.int .u8 0) 1 rfl Try.underlying30 infoU8 rfl (by decide) (by decide) u1 x.data b bA b.length bc (fun _ => True) (fun _ => False) rfl rfl hr1.out (Kd.C_below HCB.out hb3.out) (fun _ _ h => h) (fun _ h => h.elim) (fun _ _ => trivial) hb3.out hb3.out.size (by omega) ?_; intro u2 v3 hr2 hb4 hG2 _; rw [HCT.out] at hr2; obtain ⟨A7, c7, rfl, hc7, hC7⟩ := Kd.R_reads hr2; have M1 := Lib.hid (M.out.step hb4); have M3 := Lib.hid (M1.out.put 1 (.slice A7 ct.length c7) ⟨x.no, A7, c7, ct, x.sure⟩ rfl); have p0 := M1.out.b8.c 1 rfl; have p1 := M1.out.b8.f 1; have p4 := M3.out.b8.c 0 rfl; have p5 := M3.out.b8.c 1 rfl; have p6 := M3.out.b8.c 2 rfl; have p7 := M3.out.bx.c 0 rfl; have p8 := M3.out.bx.c 1 rfl; obtain ⟨w3, hw3⟩ : ∃ w3, v3.setCell ⟨v1.heap.size, 1, none⟩ (.slice A7 ct.length c7) = w3 := ⟨_, rfl⟩; have hrx3 := Lib.hid (show RdX (fun k => ok k ∨ (w2.heap.size ≤ k ∧ k < w3.heap.size)) w3 ⟨x.no, A7, c7, ct, x.sure⟩ from rdx_end (y := ⟨x.no, A7, c7, ct, x.sure⟩) hr2 (by rw [← hw3]; simp) (fun k hk _ => by rw [← hw3]; exact (Below.heap_setCell _ _ _ k (by show k ≠ v1.heap.size; omega))) (fun k h1 h2 => .inr ⟨h1, h2⟩)); rw [hw3] at M3 p4 p5 p6 p7 p8; have hsz4 : w2.heap.size ≤ w3.heap.size := (by rw [← hw3]; simpa using hb4.size); clear hr1 hr2 hC7 hb3)
          | (refine Kd.R_append_rows (Kd.int .u8) (Rr := fun x cs => cs = [.int .u8 x]) (w0 := w2) w2.heap.size rfl _ _ 30 5 (.int .u8 0) 1 rfl Try.underlying30 infoU8 rfl (by decide) (by decide) (.slice none 0 0) ([] : List Int) x.data x.A x.data.length x.c (fun _ => True) (fun _ => False) rfl rfl (Kd.R_nil _ _ _ _ _) HCX.out (fun _ _ h => h) (fun _ h => h.elim) (fun _ _ => trivial) (Below.refl _ _) (Nat.le_refl _) (by simp; omega) ?_; intro u1 v2 hr1' hb3' hG _; rw [List.nil_append] at hr1'; have hr1 := Lib.hid hr1'; have hb3 := Lib.hid hb3'; clear hr1' hb3' hG))
        refine (with_calls cap i (some ad) c xs _ (fun k => ok k ∨ (w2.heap.size ≤ k ∧ k < w3.heap.size)) w3 (M3.out.cx.mono (fun k hk => .inl hk)) hl (fun k hk => hk.elim (fun hk => by have := M3.out.no k hk; have := M3.out.below.size; omega) (fun hk => hk.2)) hrx3.out hil).mono ?_
        rintro e w9 ⟨A9, c9, ys, rfl, hys, hyc, hC9, hb9⟩
        have hsz3 := M3.out.below.size
        have hrf := r_fin (ok := ok) cap ys.length c9 (M3.out.below.trans (hb9.mono hsz3)) (show w.heap.size ≤ w.heap.size + 1 by omega) (M3.out.bz.below hb9) hC9 (fun e => e.elim (fun e => e.elim (fun e => by have := M3.out.no _ e; omega) (fun e => by omega)) (fun e => by omega)) (fun k hk => hk.elim (fun hk => hk.elim .inl (fun h => .inr (by omega))) (fun h => .inr (by omega)))
        have z0 := hrf.z0
        have z1 := hrf.z1
        have zf0 := hrf.f0
        have zf1 := hrf.f1
        have HRF := Lib.hid hrf
        have HYS := Lib.hid hys
        clear hrf hys
        go_wp2_with (fail)
        refine bodyPost_ret (results_DE (fn := Try.f47) (p := 6) (t := 7) rfl _ _ (w.heap.size + 1) cap (.slice A9 ys.length c9) rfl HRF.out.box) rfl ?_
        exact ⟨A9, c9, ys, rfl, HYS.out.trans (by rw [← HCT.out]; rfl), hyc, HRF.out.cx, HRF.out.below⟩
end Go.Proofs.Ytahiigcofgnncaa.H

/-! Layer 6: the reference's Drop, Make, torn, Crash, walked. -/
namespace Go.Proofs.Ytahiigcofgnncaa.H
open Go.RowKit Moor Go.Proofs.YtahiigcofgnncaaW.PrintWords Go.Proofs.YtahiigcofgnncaaW.PrintLast Go.Proofs.YtahiigcofgnncaaW.PrintMore
set_option linter.unusedVariables false
set_option linter.unusedSimpArgs false

theorem sliceLowG (ad : Addr) (n c p : Nat) (q : Int) (hq : q = (p : Int)) (hp : p ≤ n) (hnc : n ≤ c) (W : World) :
    (Instr.slice 22 (.slice (some ad) n c) (some (.int .i64 q)) none none).run Try.prog W = .ok (.slice (some (if c = p then ad else ad.add (p * 3))) (n - p) (c - p)) W := by
  subst hq
  have hel : Try.prog.elem 22 = 32 := by simp [Program.elem, Try.underlying22]
  have hu : Try.prog.underlying 22 = some (.slice (Try.prog.elem 22)) := by rw [hel]; exact Try.underlying22
  obtain ⟨i0, hi0, hz0, hz1, hz2⟩ := info_parts infoF
  rw [run_slice_l W 22 (some ad) n c hu .i64 (p : Int) (by omega) (by omega), hel]
  by_cases h1 : c = p <;> simp [sizeOf, typeInfo, hi0, hz1, sliced, Result.andThen, h1]
theorem sliceHighG (a : Option Addr) (n c j : Nat) (hj : j ≤ c) (W : World) :
    (Instr.slice 22 (.slice a n c) none (some (.int .i64 (j : Int))) none).run Try.prog W = .ok (.slice a j c) W := by
  have hel : Try.prog.elem 22 = 32 := by simp [Program.elem, Try.underlying22]
  have hu : Try.prog.underlying 22 = some (.slice (Try.prog.elem 22)) := by rw [hel]; exact Try.underlying22
  obtain ⟨i0, hi, hz0, hz1, hz2⟩ := info_parts infoF
  rw [run_slice_h W 22 a n c hu .i64 (j : Int) (by omega) (by omega), hel]
  cases a <;> simp [sizeOf, typeInfo, hi, hz1, sliced, Result.andThen, add_zeroR]
theorem flat_take3 (xs : List FX) (p : Nat) (j : Nat) (u : Value) (h : (flat (xs.take p))[j]? = some u) : (flat xs)[j]? = some u := by
  have e : flat xs = flat (xs.take p) ++ flat (xs.drop p) := by rw [← flat_append, List.take_append_drop]
  have hj := (List.getElem?_eq_some_iff.1 h).1
  rw [e, List.getElem?_append_left hj]
  exact h
theorem flat_drop3 (xs : List FX) (p : Nat) (hp : p ≤ xs.length) (j : Nat) (u : Value) (h : (flat (xs.drop p))[j]? = some u) : (flat xs)[p * 3 + j]? = some u := by
  have e : flat xs = flat (xs.take p) ++ flat (xs.drop p) := by rw [← flat_append, List.take_append_drop]
  have hl : (flat (xs.take p)).length = p * 3 := by rw [flat_len, List.length_take]; omega
  rw [e, List.getElem?_append_right (by omega), hl, show p * 3 + j - p * 3 = j by omega]
  exact h
set_option maxRecDepth 100000 in
set_option maxHeartbeats 8000000 in
theorem refDrop_calls (cap no : Int) (A : Option Addr) (c : Nat) (xs : List FX) (ok : Nat → Prop) (w : World) (hC : CX ok w A xs) (hc : xs.length ≤ c) (hl : xs.length ≤ 1000) (hok : ∀ k, ok k → k < w.heap.size) (hu : usedF (xs.map flX) ≤ 4611686018427387904) :
    Calls Try.prog 50 #[.agg (cellsD cap A xs.length c), .int .i64 no] w (RefEEnd ok (dropD ⟨cap, xs.map flX⟩ no) w) := by
  obtain ⟨w0, hw0⟩ : ∃ w0, (w.alloc (.cells (cellsD cap A xs.length c) 24)).alloc (.cells (cellsD 0 none 0 0) 24) = w0 := ⟨_, rfl⟩
  have hB : Below w.heap.size w w0 := by rw [← hw0]; exact below_alloc (below_alloc (Below.refl _ _) _) _
  have hz0 : w0.heap.size = w.heap.size + 2 := by rw [← hw0]; simp
  have bx : BoxC w0 w.heap.size (cellsD cap A xs.length c) 24 := by rw [← hw0]; exact (BoxC.new w _ _).alloc _
  have bz : BoxC w0 (w.heap.size + 1) (cellsD 0 none 0 0) 24 := by
    rw [← hw0]
    have h9 := BoxC.new (w.alloc (.cells (cellsD cap A xs.length c) 24)) (cellsD 0 none 0 0) 24
    rw [World.size_alloc] at h9
    exact h9
  have hC0 := hC.moved hB.size (Agree.below hB hok)
  have q := refAt_calls cap no A c (xs.map flX) w0 hC0.now (by rw [List.length_map]; exact hc) (by rw [List.length_map]; omega) hu
  rw [List.length_map] at q
  have HQ := Lib.hid q
  have HOK := Lib.hid hok
  have HC0 := Lib.hid hC0
  have HZ0 := Lib.hid hz0
  have x0 := bx.c 0 rfl
  have x1 := bx.c 1 rfl
  have HW0 := Lib.hid hw0
  clear hC0 q hC hok hz0
  obtain ⟨r, hr⟩ : ∃ r, dropD ⟨cap, xs.map flX⟩ no = r := ⟨_, rfl⟩
  rw [hr]
  have HR := Lib.hid hr
  clear hr
  go_enter Try.func50, Try.ntmps50
  go_wp2_with (fail)
  refine HQ.out.mono ?_
  rintro e w1 ⟨rfl, hb1⟩
  replace hB := hB.trans (hb1.mono hB.size)
  replace bx := bx.below hb1
  replace bz := bz.below hb1
  have hC1 := HC0.out.moved hb1.size (Agree.belowAll hb1 _)
  have hs1 := hb1.size
  have hz1 : w.heap.size + 2 ≤ w1.heap.size := by have := HZ0.out; omega
  clear x0 x1 hb1 HQ hs1
  have x0 := bx.c 0 rfl
  have x1 := bx.c 1 rfl
  rcases at_cases ⟨cap, xs.map flX⟩ no with ⟨er, he, ha, hd⟩ | ⟨hm, i, f, hf, ha, hd⟩
  · rw [ha]
    have hre := hd _ |>.symm.trans HR.out
    subst hre
    have hrf := r_fin (ok := ok) cap xs.length c hB (by omega) bz hC1 (fun e => by have := HOK.out _ e; omega) (fun k hk => .inl hk)
    have z0 := hrf.z0
    have z1 := hrf.z1
    have zf0 := hrf.f0
    have zf1 := hrf.f1
    have heb : (er != 0) = true := by simpa using he
    have HRF := Lib.hid hrf
    clear hrf he ha hd HR
    go_wp2_with (fail)
    refine bodyPost_ret (results_DE (fn := Try.f50) (p := 4) (t := 5) rfl _ _ (w.heap.size + 1) cap (.slice A xs.length c) rfl HRF.out.box) rfl ?_
    exact ⟨A, c, xs, rfl, rfl, hc, HRF.out.cx, HRF.out.below⟩
  · rw [ha]
    have hre := hd _ |>.symm.trans HR.out
    have hil : i < xs.length := by have := (List.getElem?_eq_some_iff.1 hf).1; simpa using this
    subst hre
    have hxl : xs.length < 1001 := by omega
    obtain ⟨ad, rfl, hcells⟩ := hC1.2.1 (by omega)
    have hcw := hcells w1 (Agree.refl _ _)
    obtain ⟨A2, c2, w2, hr2, hsh2, hb2, -⟩ := sh_append (ShF.nil ok w1 w1.heap.size) rfl 22 ad i c (show (xs.take i).length = i by rw [List.length_take]; omega) (fun j u h => hcw j u (flat_take3 xs i j u h)) (fun y hy => (hC1.2.2 y (List.mem_of_mem_take hy)).mono (fun k hk => ⟨hk, fun e => by cases e⟩)) (by simp; omega) (Nat.le_refl _)
    simp only [List.length_nil, Nat.zero_add, List.nil_append] at hr2 hsh2
    have hC2 := hC1.moved hb2.size (Agree.belowAll hb2 _)
    obtain ⟨ad', had⟩ : ∃ a, (if c = i + 1 then ad else ad.add ((i + 1) * 3)) = a := ⟨_, rfl⟩
    have hb2s := hb2.size
    have hcw2 : ∀ j u, (flat (xs.drop (i + 1)))[j]? = some u → w2.cell? (ad'.add j) = some u := fun j u h => by
      have h1 := flat_drop3 xs (i + 1) (by omega) j u h
      have hj := (List.getElem?_eq_some_iff.1 h).1
      rw [flat_len, List.length_drop] at hj
      rw [← had, if_neg (by omega), Go.Deep.add_add]
      exact hcells w2 (Agree.belowAll hb2 _) _ _ h1
    have hok2 : ∀ k, ok k → (Value.slice A2 i c2).ownBlock ≠ some k := fun k hk e => by
      have := own_base hsh2.1 k e
      have := HOK.out k hk
      omega
    obtain ⟨A3, c3, w3, hr3, hsh3, hb3, -⟩ := sh_append hsh2 (show (xs.take i).length = i by rw [List.length_take]; omega) 22 ad' (xs.length - (i + 1)) (c - (i + 1)) (show (xs.drop (i + 1)).length = xs.length - (i + 1) by rw [List.length_drop]) hcw2 (fun y hy => (hC2.2.2 y (List.mem_of_mem_drop hy)).mono (fun k hk => ⟨hk, hok2 k hk⟩)) (by omega) hb2.size
    have hb3' : Below w1.heap.size w1 w3 := hb2.trans hb3
    have hyl : i + (xs.length - (i + 1)) = (xs.eraseIdx i).length := by rw [List.length_eraseIdx, if_pos hil]; omega
    have hye : xs.take i ++ xs.drop (i + 1) = xs.eraseIdx i := (List.eraseIdx_eq_take_drop_succ xs i).symm
    rw [hye] at hsh3
    rw [hyl] at hr3 hsh3
    obtain ⟨hyc, hC3⟩ := hsh3.cx rfl
    have hrf := r_fin (ok := ok) cap (xs.eraseIdx i).length c3 (hB.trans (hb3'.mono hB.size)) (show w.heap.size ≤ w.heap.size + 1 by omega) (bz.below hb3') hC3 (fun e => e.elim (fun e => by have := HOK.out _ e; omega) (fun e => by omega)) (fun k hk => hk.imp id (fun h => by omega))
    have z0 := hrf.z0
    have z1 := hrf.z1
    have zf0 := hrf.f0
    have zf1 := hrf.f1
    have HRF := Lib.hid hrf
    have HRUN2 := Lib.hid hr2
    have HRUN3 := Lib.hid hr3
    have y0 := (bx.below hb2).c 0 rfl
    have y1 := (bx.below hb2).c 1 rfl
    have y2 := (bx.below hb3').c 0 rfl
    have hs1 := fun W => sliceHighG (some ad) xs.length c i (by omega) W
    have hs2 := fun W => sliceLowG ad xs.length c (i + 1) ((i : Int) + 1) (by omega) (by omega) hc W
    rw [had] at hs2
    have HYE := Lib.hid (show (xs.eraseIdx i).map flX = (xs.map flX).eraseIdx i by rw [← hye, List.map_append, List.map_take, List.map_drop, List.eraseIdx_eq_take_drop_succ])
    clear hrf hr2 hr3 hsh2 hsh3 hb2 hb3 hb3' hC1 hC2 hC3 hcells hcw hcw2 hB bx bz hye ha hd hf HR had
    obtain ⟨n3, hn3⟩ : ∃ n3, (xs.eraseIdx i).length = n3 := ⟨_, rfl⟩
    have HN3 := Lib.hid hn3
    rw [hn3] at HRUN3 HRF hyc
    clear hyl hn3
    go_wp2_with (at_builtin; first | (refine Lib.wpList_append_run _ rfl _ _ _ _ rfl _ _ rfl rfl _ _ HRUN3.out ?_) | (refine Lib.wpList_append_run _ rfl _ _ _ _ rfl _ _ rfl rfl _ _ HRUN2.out ?_))
    refine bodyPost_ret (results_DE (fn := Try.f50) (p := 4) (t := 5) rfl _ _ (w.heap.size + 1) cap (.slice A3 n3 c3) rfl HRF.out.box) rfl ?_
    refine ⟨A3, c3, xs.eraseIdx i, by rw [HN3.out]; rfl, HYE.out, by rw [HN3.out]; exact hyc, HRF.out.cx, HRF.out.below⟩
theorem ltF (no : Int) (xs : List FX) (k : Nat) (hk : k < xs.length) : (xs.take (k + 1)).filter (fun x => decide (x.no < no)) = (xs.take k).filter (fun x => decide (x.no < no)) ++ (if xs[k].no < no then [xs[k]] else []) := by
  rw [List.take_add_one, List.getElem?_eq_getElem hk, List.filter_append]
  congr 1
  by_cases h : xs[k].no < no <;> simp [h]
theorem gtF (no : Int) (xs : List FX) (k : Nat) (hk : k < xs.length) : (xs.take (k + 1)).filter (fun x => decide (no < x.no)) = (xs.take k).filter (fun x => decide (no < x.no)) ++ (if no < xs[k].no then [xs[k]] else []) := by
  rw [List.take_add_one, List.getElem?_eq_getElem hk, List.filter_append]
  congr 1
  by_cases h : no < xs[k].no <;> simp [h]
/-- A round's state: the row that grows. -/
structure MkR (ok : Nat → Prop) (w w1 wr : World) (v : Value) (ys : List FX) (n : Nat) : Prop where
  sh : ShF ok wr w1.heap.size v ys
  len : ys.length = n
  below : Below w1.heap.size w1 wr
theorem MkR.step {ok : Nat → Prop} {w w1 wr : World} {v : Value} {ys : List FX} {n : Nat} (h : MkR ok w w1 wr v ys n) (hok : ∀ k, ok k → k < w1.heap.size) (hn : n ≤ 2000) (x : FX) (hx : RdX ok wr x) :
    ∃ A' c' w3, (Builtin.append_ #[22, 22] 22 #[v, .slice (some ⟨wr.heap.size, 0, none⟩) 1 1]).run Try.prog (wr.alloc (.cells #[.int .i64 x.no, vX x, .int .i64 x.sure] 32)) = .ok (.slice A' (n + 1) c') w3 ∧ MkR ok w w1 w3 (.slice A' (n + 1) c') (ys ++ [x]) (n + 1) := by
  have hba := below_alloc (Below.refl wr.heap.size wr) (.cells #[.int .i64 x.no, vX x, .int .i64 x.sure] 32)
  have hbx := BoxC.new wr #[.int .i64 x.no, vX x, .int .i64 x.sure] 32
  have hv : ∀ k, ok k → v.ownBlock ≠ some k := fun k hk e => by
    have := own_base h.sh.1 k e
    have := hok k hk
    omega
  have hsz := h.below.size
  obtain ⟨A', c', w3, hr, hs, hb, -⟩ := sh_append (h.sh.below hba) h.len 22 ⟨wr.heap.size, 0, none⟩ 1 1 (ys := [x]) rfl (fun j u hu => by
    have hu' : (cellsX x)[j]? = some u := by simpa [flat] using hu
    rw [add_plain, Nat.zero_add]
    exact hbx.c j (by simpa using hu')) (fun y hy => by
      rw [List.mem_singleton] at hy
      rw [hy]
      exact ((hx.moved hba.size (Agree.belowAll hba _)).mono (fun k hk => ⟨hk.1, hv k hk.1⟩))) (by omega) (Nat.le_trans hsz hba.size)
  exact ⟨A', c', w3, hr, hs, by rw [List.length_append, h.len]; rfl, (h.below.trans (hba.mono hsz)).trans hb⟩
set_option maxRecDepth 100000 in
set_option maxHeartbeats 8000000 in
theorem refMake_calls (cap no : Int) (A : Option Addr) (c : Nat) (xs : List FX) (ok : Nat → Prop) (w : World) (hC : CX ok w A xs) (hc : xs.length ≤ c) (hl : xs.length ≤ 1000) (hok : ∀ k, ok k → k < w.heap.size) (hu : usedF (xs.map flX) ≤ 4611686018427387904) :
    Calls Try.prog 46 #[.agg (cellsD cap A xs.length c), .int .i64 no] w (RefEEnd ok (makeD ⟨cap, xs.map flX⟩ no) w) := by
  obtain ⟨w0, hw0⟩ : ∃ w0, (w.alloc (.cells (cellsD cap A xs.length c) 24)).alloc (.cells (cellsD 0 none 0 0) 24) = w0 := ⟨_, rfl⟩
  have hB : Below w.heap.size w w0 := by rw [← hw0]; exact below_alloc (below_alloc (Below.refl _ _) _) _
  have hz0 : w0.heap.size = w.heap.size + 2 := by rw [← hw0]; simp
  have bx : BoxC w0 w.heap.size (cellsD cap A xs.length c) 24 := by rw [← hw0]; exact (BoxC.new w _ _).alloc _
  have bz : BoxC w0 (w.heap.size + 1) (cellsD 0 none 0 0) 24 := by
    rw [← hw0]
    have h9 := BoxC.new (w.alloc (.cells (cellsD cap A xs.length c) 24)) (cellsD 0 none 0 0) 24
    rw [World.size_alloc] at h9
    exact h9
  have hC0 := hC.moved hB.size (Agree.below hB hok)
  have q := refMay_calls cap A c (xs.map flX)
  have q2 := refFind_calls cap no A c (xs.map flX)
  rw [List.length_map] at q q2
  have HQ := Lib.hid q
  have HQ2 := Lib.hid q2
  have HOK := Lib.hid hok
  have HCN := Lib.hid (fun W (h : Below w0.heap.size w0 W) => by have := (hC0.moved h.size (Agree.belowAll h _)).now; rw [List.length_map] at this; exact this)
  have HC0 := Lib.hid hC0
  have HZ0 := Lib.hid hz0
  have x0 := bx.c 0 rfl
  have x1 := bx.c 1 rfl
  have HW0 := Lib.hid hw0
  clear hC0 q q2 hC hok hz0
  obtain ⟨r, hr⟩ : ∃ r, makeD ⟨cap, xs.map flX⟩ no = r := ⟨_, rfl⟩
  rw [hr]
  have HR := Lib.hid hr
  clear hr
  go_enter Try.func46, Try.ntmps46
  go_wp2_with (fail)
  refine (HQ.out w0 (HCN.out _ (Below.refl _ _)) hc (by omega) hu).mono ?_
  rintro e w1 ⟨rfl, hb1⟩
  replace hB := hB.trans (hb1.mono hB.size)
  replace bx := bx.below hb1
  replace bz := bz.below hb1
  have hC1 := HC0.out.moved hb1.size (Agree.belowAll hb1 _)
  have hz1 : w.heap.size + 2 ≤ w1.heap.size := by have := HZ0.out; have := hb1.size; omega
  clear x0 x1 HQ
  have x0 := bx.c 0 rfl
  have x1 := bx.c 1 rfl
  by_cases h1 : ¬ mayD ⟨cap, xs.map flX⟩ ∨ no < 1 ∨ no > 1073741824
  · have hre := (make_no h1).symm.trans HR.out
    subst hre
    have hrf := r_fin (ok := ok) (A := A) (xs := xs) cap xs.length c hB (show w.heap.size ≤ w.heap.size + 1 by omega) bz hC1 (fun e => by have := HOK.out _ e; omega) (fun k hk => .inl hk)
    have z0 := hrf.z0
    have z1 := hrf.z1
    have zf0 := hrf.f0
    have zf1 := hrf.f1
    have HRF := Lib.hid hrf
    clear hrf
    have hgo : decide (mayD ⟨cap, xs.map flX⟩) = false ∨ (decide (mayD ⟨cap, xs.map flX⟩) = true ∧ no < 1) ∨ (decide (mayD ⟨cap, xs.map flX⟩) = true ∧ ¬ no < 1 ∧ 1073741824 < no) := by
      by_cases g1 : mayD ⟨cap, xs.map flX⟩
      · by_cases g2 : no < 1
        · exact .inr (.inl ⟨decide_eq_true g1, g2⟩)
        · refine .inr (.inr ⟨decide_eq_true g1, g2, ?_⟩)
          rcases h1 with h | h | h
          · exact absurd g1 h
          · exact absurd h g2
          · exact h
      · exact .inl (decide_eq_false g1)
    clear h1 HR bx bz hC1 hB hb1
    rcases hgo with h | ⟨h, h2⟩ | ⟨h, h2, h3⟩
    all_goals
      rw [h]
      clear h
      go_wp2_with (fail)
      refine bodyPost_ret (results_DE (fn := Try.f46) (p := 4) (t := 5) rfl _ _ (w.heap.size + 1) cap (.slice A xs.length c) rfl HRF.out.box) rfl ?_
      exact ⟨A, c, xs, rfl, rfl, hc, HRF.out.cx, HRF.out.below⟩
  · have hm : mayD ⟨cap, xs.map flX⟩ := Classical.not_not.1 (fun e => h1 (.inl e))
    have h2 : ¬ no < 1 := fun e => h1 (.inr (.inl e))
    have h3 : ¬ 1073741824 < no := fun e => h1 (.inr (.inr e))
    rw [decide_eq_true hm]
    have H1 := Lib.hid h1
    clear h1 hm
    go_wp2_with (fail)
    refine (HQ2.out w1 (HCN.out _ hb1) hc (by omega) hu).mono ?_
    rintro e w2 ⟨rfl, hb2⟩
    replace hB := hB.trans (hb2.mono hB.size)
    replace bx := bx.below hb2
    replace bz := bz.below hb2
    replace hC1 := hC1.moved hb2.size (Agree.belowAll hb2 _)
    replace hz1 : w.heap.size + 2 ≤ w2.heap.size := by have := hb2.size; omega
    clear x0 x1 HQ2 HCN hb1 hb2
    have x0 := bx.c 0 rfl
    have x1 := bx.c 1 rfl
    by_cases hf : findD ⟨cap, xs.map flX⟩ no ≠ -1
    · have hre := (make_there H1.out hf).symm.trans HR.out
      subst hre
      have hge : (0 : Int) ≤ findD ⟨cap, xs.map flX⟩ no := by
        have hm : mayD ⟨cap, xs.map flX⟩ := Classical.not_not.1 (fun e => H1.out (.inl e))
        rw [findD_idx hm] at hf ⊢
        cases hi : idxF no (xs.map flX) with
        | none => rw [hi] at hf; exact absurd rfl hf
        | some i => show (0 : Int) ≤ (i : Int); omega
      have hrf := r_fin (ok := ok) (A := A) (xs := xs) cap xs.length c hB (show w.heap.size ≤ w.heap.size + 1 by omega) bz hC1 (fun e => by have := HOK.out _ e; omega) (fun k hk => .inl hk)
      have z0 := hrf.z0
      have z1 := hrf.z1
      have zf0 := hrf.f0
      have zf1 := hrf.f1
      have HRF := Lib.hid hrf
      clear hrf
      clear hf HR bx bz hC1 hB
      generalize findD ⟨cap, xs.map flX⟩ no = fd at *
      go_wp2_with (fail)
      refine bodyPost_ret (results_DE (fn := Try.f46) (p := 4) (t := 5) rfl _ _ (w.heap.size + 1) cap (.slice A xs.length c) rfl HRF.out.box) rfl ?_
      exact ⟨A, c, xs, rfl, rfl, hc, HRF.out.cx, HRF.out.below⟩
    · have hfe : findD ⟨cap, xs.map flX⟩ no = -1 := Classical.not_not.1 hf
      rw [hfe]
      by_cases h12 : xs.length = 12
      · have hre := (make_full H1.out hf (by simpa using h12)).symm.trans HR.out
        subst hre
        have h12i : (xs.length : Int) = 12 := by omega
        have hrf := r_fin (ok := ok) (A := A) (xs := xs) cap xs.length c hB (show w.heap.size ≤ w.heap.size + 1 by omega) bz hC1 (fun e => by have := HOK.out _ e; omega) (fun k hk => .inl hk)
        have z0 := hrf.z0
        have z1 := hrf.z1
        have zf0 := hrf.f0
        have zf1 := hrf.f1
        have HRF := Lib.hid hrf
        clear hrf
        clear hf hfe HR bx bz hC1 hB h12
        go_wp2_with (fail)
        refine bodyPost_ret (results_DE (fn := Try.f46) (p := 4) (t := 5) rfl _ _ (w.heap.size + 1) cap (.slice A xs.length c) rfl HRF.out.box) rfl ?_
        exact ⟨A, c, xs, rfl, rfl, hc, HRF.out.cx, HRF.out.below⟩
      · have h12i : ((xs.length : Int) == 12) = false := by simp; omega
        have hre : (⟨cap, (xs.map flX).filter (fun f => decide (f.no < no)) ++ ⟨no, [], 0⟩ :: (xs.map flX).filter (fun f => decide (f.no > no))⟩, 0) = r := by
          rw [← HR.out]
          unfold makeD
          rw [if_neg H1.out, if_neg hf, if_neg (by simpa using h12)]
        have HRE := Lib.hid hre
        have HC1 := Lib.hid hC1
        have BX := Lib.hid bx
        have BZ := Lib.hid bz
        have HB := Lib.hid hB
        have HOK2 := Lib.hid (show ∀ k, ok k → k < w2.heap.size from fun k hk => by have := HOK.out k hk; omega)
        clear hre hC1 bx bz hB hf hfe h12 HR
        go_wp2_with (fail)
        go_loopw [7, 8] (fun v i wr => ∃ (k n : Nat) (A' : Option Addr) (c' : Nat) (ys : List FX), k ≤ xs.length ∧ i = .int .i64 (k : Int) ∧ v = .slice A' n c' ∧ n ≤ k ∧ Hid (ys = (xs.take k).filter (fun x => decide (x.no < no))) ∧ Hid (MkR ok w w2 wr (.slice A' n c') ys n)) (fun _ i _ => xs.length - (intOf i).toNat)
        case atStart => exact ⟨0, 0, none, 0, [], Nat.zero_le _, rfl, rfl, Nat.le_refl _, Lib.hid (by simp), Lib.hid ⟨ShF.nil _ _ _, rfl, Below.refl _ _⟩⟩
        case round =>
          clear x0 x1
          obtain ⟨k, n, A', c', ys, hk, rfl, rfl, hnk, hys, hst⟩ := hrel
          have x0 := (BX.out.below hst.out.below).c 0 rfl
          have x1 := (BX.out.below hst.out.below).c 1 rfl
          by_cases hlt : k < xs.length
          · have hlti : (k : Int) < (xs.length : Int) := by omega
            have hCr := HC1.out.moved hst.out.below.size (Agree.belowAll hst.out.below _)
            obtain ⟨ad, rfl, g0, g1, g2, hrx⟩ := file_atX hCr k hlt
            have hsplit := ltF no xs k hlt
            obtain ⟨x, hx⟩ : ∃ x, xs[k] = x := ⟨_, rfl⟩
            rw [hx] at g0 g1 g2 hrx hsplit
            by_cases hno : x.no < no
            · rw [if_pos hno] at hsplit
              obtain ⟨A3, c3, w3, hr3, hst3⟩ := hst.out.step HOK2.out (by omega) x hrx
              have HRUN := Lib.hid hr3
              have HST := Lib.hid hst3
              have HSP := Lib.hid (show ys ++ [x] = (xs.take (k + 1)).filter (fun x => decide (x.no < no)) by rw [hsplit, ← hys.out])
              clear hr3 hst3 hsplit hys hst hCr hrx hx
              go_wp2_with (at_builtin; refine Lib.wpList_append_run _ rfl _ _ _ _ rfl _ _ rfl rfl _ _ HRUN.out ?_)
              go_roundw
              case rel => exact ⟨k + 1, n + 1, A3, c3, ys ++ [x], by omega, by go_num, rfl, by omega, Lib.hid HSP.out, Lib.hid HST.out⟩
              case measure => simp [intOf]; omega
            · rw [if_neg hno, List.append_nil] at hsplit
              have HSP := Lib.hid (hys.out.trans hsplit.symm)
              clear hsplit hys hCr hrx hx
              go_wp2_with (fail)
              go_roundw
              case rel => exact ⟨k + 1, n, A', c', ys, by omega, by go_num, rfl, by omega, Lib.hid HSP.out, hst⟩
              case measure => simp [intOf]; omega
          · have hnl : ¬ ((k : Int) < (xs.length : Int)) := by omega
            obtain rfl : k = xs.length := by omega
            have hnew : RdX ok wr (newX no) := ⟨Nat.le_refl _, fun W' _ => Kd.C_nil _ _⟩
            obtain ⟨A3, c3, w3, hr3, hst3⟩ := hst.out.step HOK2.out (by omega) (newX no) hnew
            have HRUN := Lib.hid hr3
            have HST := Lib.hid hst3
            have HYS := Lib.hid (show ys ++ [newX no] = xs.filter (fun x => decide (x.no < no)) ++ [newX no] by rw [hys.out, List.take_length])
            obtain ⟨ys2, hys2⟩ : ∃ ys2, ys ++ [newX no] = ys2 := ⟨_, rfl⟩
            rw [hys2] at HST HYS
            clear hr3 hst3 hys hst hnew hys2
            go_wp2_with (at_builtin; refine Lib.wpList_append_run _ rfl _ _ _ _ rfl _ _ rfl rfl _ _ HRUN.out ?_)
            clear x0 x1 HRUN
            go_loopw [7, 9] (fun v i wr => ∃ (k m : Nat) (A' : Option Addr) (c' : Nat) (zs : List FX), k ≤ xs.length ∧ i = .int .i64 (k : Int) ∧ v = .slice A' m c' ∧ m ≤ n + 1 + k ∧ Hid (zs = ys2 ++ (xs.take k).filter (fun x => decide (no < x.no))) ∧ Hid (MkR ok w w2 wr (.slice A' m c') zs m)) (fun _ i _ => xs.length - (intOf i).toNat)
            case atStart => exact ⟨0, n + 1, A3, c3, ys2, Nat.zero_le _, rfl, rfl, Nat.le_refl _, Lib.hid (by simp), Lib.hid HST.out⟩
            case round =>
              clear HST
              obtain ⟨k, m, A4, c4, zs, hk, rfl, rfl, hmk, hzs, hst⟩ := hrel
              have x0 := (BX.out.below hst.out.below).c 0 rfl
              have x1 := (BX.out.below hst.out.below).c 1 rfl
              by_cases hlt : k < xs.length
              · have hlti : (k : Int) < (xs.length : Int) := by omega
                have hCr := HC1.out.moved hst.out.below.size (Agree.belowAll hst.out.below _)
                obtain ⟨ad, rfl, g0, g1, g2, hrx⟩ := file_atX hCr k hlt
                have hsplit := gtF no xs k hlt
                obtain ⟨x, hx⟩ : ∃ x, xs[k] = x := ⟨_, rfl⟩
                rw [hx] at g0 g1 g2 hrx hsplit
                by_cases hno : no < x.no
                · rw [if_pos hno] at hsplit
                  obtain ⟨A5, c5, w5, hr5, hst5⟩ := hst.out.step HOK2.out (by omega) x hrx
                  have HRUN := Lib.hid hr5
                  have HST := Lib.hid hst5
                  have HSP := Lib.hid (show zs ++ [x] = ys2 ++ (xs.take (k + 1)).filter (fun x => decide (no < x.no)) by rw [hsplit, hzs.out, List.append_assoc])
                  clear hr5 hst5 hsplit hzs hst hCr hrx hx
                  go_wp2_with (at_builtin; refine Lib.wpList_append_run _ rfl _ _ _ _ rfl _ _ rfl rfl _ _ HRUN.out ?_)
                  go_roundw
                  case rel => exact ⟨k + 1, m + 1, A5, c5, zs ++ [x], by omega, by go_num, rfl, by omega, Lib.hid HSP.out, Lib.hid HST.out⟩
                  case measure => simp [intOf]; omega
                · rw [if_neg hno, List.append_nil] at hsplit
                  have HSP := Lib.hid (show zs = ys2 ++ (xs.take (k + 1)).filter (fun x => decide (no < x.no)) by rw [hsplit, ← hzs.out])
                  clear hsplit hzs hCr hrx hx
                  go_wp2_with (fail)
                  go_roundw
                  case rel => exact ⟨k + 1, m, A4, c4, zs, by omega, by go_num, rfl, by omega, Lib.hid HSP.out, hst⟩
                  case measure => simp [intOf]; omega
              · have hnl : ¬ ((k : Int) < (xs.length : Int)) := by omega
                obtain rfl : k = xs.length := by omega
                have hre := HRE.out
                subst hre
                obtain ⟨hyc, hC3⟩ := hst.out.sh.cx hst.out.len
                have HLEN := Lib.hid hst.out.len
                have HZS := Lib.hid (show zs.map flX = (xs.map flX).filter (fun f => decide (f.no < no)) ++ ⟨no, [], 0⟩ :: (xs.map flX).filter (fun f => decide (f.no > no)) by
                  rw [hzs.out, HYS.out, List.take_length, List.map_append, List.map_append, List.filter_map, List.filter_map, List.append_assoc]
                  rfl)
                have hrf := r_fin (ok := ok) (A := A4) (xs := zs) cap m c4 (HB.out.trans (hst.out.below.mono HB.out.size)) (show w.heap.size ≤ w.heap.size + 1 by omega) (BZ.out.below hst.out.below) hC3 (fun e => e.elim (fun e => by have := HOK.out _ e; omega) (fun e => by omega)) (fun k hk => hk.imp id (fun h => by omega))
                have z0 := hrf.z0
                have z1 := hrf.z1
                have zf0 := hrf.f0
                have zf1 := hrf.f1
                have HRF := Lib.hid hrf
                clear hrf
                clear hC3 hst hzs
                go_wp2_with (fail)
                refine bodyPost_ret (results_DE (fn := Try.f46) (p := 4) (t := 5) rfl _ _ (w.heap.size + 1) cap (.slice A4 m c4) rfl HRF.out.box) rfl ?_
                exact ⟨A4, c4, zs, by rw [HLEN.out]; rfl, HZS.out, by rw [HLEN.out]; exact hyc, HRF.out.cx, HRF.out.below⟩
end Go.Proofs.Ytahiigcofgnncaa.H

/-! Layer 6: the reference's torn, walked. -/
namespace Go.Proofs.Ytahiigcofgnncaa.H
open Go.RowKit Moor Go.Proofs.YtahiigcofgnncaaW.PrintWords Go.Proofs.YtahiigcofgnncaaW.PrintLast Go.Proofs.YtahiigcofgnncaaW.PrintMore
set_option linter.unusedVariables false
set_option linter.unusedSimpArgs false

theorem tornTo_skip (b : List Int) (m j : Nat) (h : j < m) : tornTo b m (j + 1) = tornTo b m j := by
  apply List.ext_getElem?
  intro i
  rw [tornTo_get, tornTo_get]
  congr 1
  funext x
  by_cases h1 : m ≤ i ∧ i < j
  · rw [if_pos h1, if_pos (by omega)]
  · rw [if_neg h1, if_neg (by omega)]
theorem tornTo_none (b : List Int) (m j : Nat) (h : j ≤ m) : tornTo b m j = b := by
  apply List.ext_getElem?
  intro i
  rw [tornTo_get]
  cases b[i]? with
  | none => rfl
  | some x => rw [Option.map_some, if_neg (by omega)]
def TornEnd (b : List Int) (f n : Nat) (w : World) (e : Ending) (w' : World) : Prop := ∃ (A' : Option Addr) (c' : Nat), e = .returned (.slice A' n c') ∧ Kd.R kB 5 w' w.heap.size (fun _ => True) (.slice A' n c') (tornB f b) ∧ Below w.heap.size w w'
set_option maxRecDepth 100000 in
set_option maxHeartbeats 8000000 in
theorem torn_calls (A : Option Addr) (c n f : Nat) (b : List Int) (w : World) (hR : Kd.C kB w A n b) (hn : b.length = n) (hl : n ≤ 1000000) (ho : okB b) (hf : f ≤ n) :
    Calls Try.prog 60 #[.slice A n c, .int .i64 (f : Int)] w (TornEnd b f n w) := by
  have HR := Lib.hid hR
  have HO := Lib.hid ho
  have hn8 : IntKind.i64.wrap ((n : Int) - 8) = (n : Int) - 8 := i64_of (by omega) (by omega)
  have HN := Lib.hid hn
  have HBE := Lib.hid (tornB_to f b)
  rw [hn] at HBE
  obtain ⟨m, hm⟩ : ∃ m, max f (n - 8) = m := ⟨_, rfl⟩
  rw [hm] at HBE
  have hm1 : f ≤ m := by omega
  have hm2 : n - 8 ≤ m := by omega
  have HM := Lib.hid (show m = f ∨ m = n - 8 by omega)
  clear hR ho hn hm
  go_enter Try.func60, Try.ntmps60
  go_wp2_with (at_builtin; refine Kd.R_append_rows (Kd.int .u8) (Rr := fun x cs => cs = [.int .u8 x]) (w0 := w) w.heap.size rfl _ _ 30 5 (.int .u8 0) 1 rfl Try.underlying30 infoU8 rfl (by decide) (by decide) (.slice none 0 0) ([] : List Int) b A n c (fun _ => True) (fun _ => False) rfl rfl (Kd.R_nil _ _ _ _ _) HR.out (fun _ _ h => h) (fun _ h => h.elim) (fun _ _ => trivial) (Below.refl _ _) (Nat.le_refl _) (by simp; omega) ?_; intro u1 v1 hr1 hb1 hG _; rw [List.nil_append] at hr1; obtain ⟨A1, c1, hu1, -, -⟩ := Kd.R_reads hr1; rw [HN.out] at hu1; subst hu1; have HR1 := Lib.hid hr1; have HB1 := Lib.hid hb1; clear hr1 hb1 hG)
  go_loopw [6] (fun i wr => ∃ k : Nat, i = .int .i64 (k : Int) ∧ f ≤ k ∧ k ≤ n ∧ Hid (Kd.R kB 5 wr w.heap.size (fun _ => True) (.slice A1 n c1) (tornTo b m k)) ∧ Hid (Below w.heap.size w wr)) (fun i _ => n - (intOf i).toNat)
  case atStart => exact ⟨f, rfl, Nat.le_refl _, hf, Lib.hid (by rw [tornTo_none b m f hm1]; exact HR1.out), Lib.hid HB1.out⟩
  case round =>
    obtain ⟨k, rfl, hk0, hk1, hgr, hB⟩ := hrel
    by_cases hlt : k < n
    · have hlti : (k : Int) < (n : Int) := by omega
      by_cases h8 : (n : Int) - 8 ≤ (k : Int)
      · have hmk : m ≤ k := by have := HM.out; omega
        have hln : (tornTo b m k).length = n := by rw [tornTo_len, HN.out]
        have hlt2 : k < b.length := by rw [HN.out]; exact hlt
        have hy : (tornTo b m k)[k]? = some b[k] := by
          rw [tornTo_get, List.getElem?_eq_getElem hlt2, Option.map_some, if_neg (by omega)]
        have hset := tornTo_set b m k hmk hlt2
        have hyo := HO.out _ (List.getElem_mem hlt2)
        generalize b[k] = y at *
        have hgr2 : Kd.R kB 5 wr w.heap.size (fun _ => True) (.slice A1 (tornTo b m k).length c1) (tornTo b m k) := by
          rw [hln]
          exact hgr.out
        obtain ⟨g, cap', he, hg1, hg2, -⟩ := Kd.R_form hgr2 (by omega)
        injection he with he1 _ he3
        subst he1 he3
        obtain ⟨hce, hfr⟩ := Kd.R_cell (0 : Int) hgr2 ((k : Nat) : Int) (by omega) (by rw [hln]; omega)
        rw [Int.toNat_natCast] at hce hfr
        have hrd : rdOf (0 : Int) (tornTo b m k) ((k : Nat) : Int) = y := by
          unfold rdOf
          rw [Int.toNat_natCast, List.getD_eq_getElem?_getD, hy]
          rfl
        rw [hrd] at hce
        have hst := Kd.R_put hgr2 ((k : Nat) : Int) (xorT y)
        rw [Int.toNat_natCast, hset, hln] at hst
        have HST := Lib.hid hst.1
        have HB2 := Lib.hid (hB.out.setCell (p := ⟨g, k, none⟩) hg1 (.int .u8 (xorT y)))
        have hxy := u8_xorT y hyo
        have HXY := Lib.hid hxy
        clear hst hgr hgr2 hset hy hrd hln hyo hlt2 hxy hg1 hg2 hmk
        go_wp2_with (fail)
        rw [HXY.out]
        go_roundw
        case rel => exact ⟨k + 1, by go_num, by omega, by omega, Lib.hid HST.out, Lib.hid HB2.out⟩
        case measure => simp [intOf]; omega
      · have hsk := tornTo_skip b m k (by omega)
        have HSK := Lib.hid (show Kd.R kB 5 wr w.heap.size (fun _ => True) (.slice A1 n c1) (tornTo b m (k + 1)) by rw [hsk]; exact hgr.out)
        clear hsk hgr
        go_wp2_with (fail)
        go_roundw
        case rel => exact ⟨k + 1, by go_num, by omega, by omega, Lib.hid HSK.out, hB⟩
        case measure => simp [intOf]; omega
    · have hnl : ¬ ((k : Int) < (n : Int)) := by omega
      obtain rfl : k = n := by omega
      have HEND := Lib.hid (show Kd.R kB 5 wr w.heap.size (fun _ => True) (.slice A1 k c1) (tornB f b) by rw [HBE.out]; exact hgr.out)
      clear hgr
      go_wp2_with (fail)
      go_ret
      exact ⟨A1, c1, rfl, HEND.out, hB.out⟩
end Go.Proofs.Ytahiigcofgnncaa.H

/-! Layer 6: the reference's Crash, walked. -/
namespace Go.Proofs.Ytahiigcofgnncaa.H
open Go.RowKit Moor Go.Proofs.YtahiigcofgnncaaW.PrintWords Go.Proofs.YtahiigcofgnncaaW.PrintLast Go.Proofs.YtahiigcofgnncaaW.PrintMore
set_option linter.unusedVariables false
set_option linter.unusedSimpArgs false

theorem tornB_len (f : Nat) (b : List Int) : (tornB f b).length = b.length := by rw [tornB_to, tornTo_len]
theorem drop_headD (p : List Int) (k : Nat) (h : k < p.length) : (p.drop k).headD 0 = p[k] := by rw [List.drop_eq_getElem_cons h]; rfl
theorem drop_headD_no (p : List Int) (k : Nat) (h : ¬ k < p.length) : (p.drop k).headD 0 = 0 := by rw [List.drop_eq_nil_of_le (by omega)]; rfl
theorem drop_tail (p : List Int) (k : Nat) : (p.drop k).tail = p.drop (k + 1) := by rw [List.tail_drop]
theorem sliceHighB (a : Option Addr) (L c j : Nat) (q : Int) (hq : q = (j : Int)) (hj : j ≤ c) (W : World) :
    (Instr.slice 30 (.slice a L c) none (some (.int .i64 q)) none).run Try.prog W = .ok (.slice a j c) W := by
  subst hq
  exact sliceHigh a L c j hj W
/-- A round's state: the files that are left so far, in their box. -/
structure CrR (ok : Nat → Prop) (w1 wr : World) (cap : Int) (A' : Option Addr) (c' : Nat) (ys : List FX) (n : Nat) : Prop where
  sh : ShF (fun k => ok k ∨ w1.heap.size + 1 ≤ k) wr (w1.heap.size + 1) (.slice A' n c') ys
  len : ys.length = n
  b6 : BoxC wr w1.heap.size (cellsD cap A' n c') 24
  below : Below w1.heap.size w1 wr
  sz : w1.heap.size + 1 ≤ wr.heap.size
theorem CrR.step {ok : Nat → Prop} {w1 wr W : World} {cap : Int} {A' : Option Addr} {c' : Nat} {ys : List FX} {n : Nat} (h : CrR ok w1 wr cap A' c' ys n) (hok : ∀ k, ok k → k < w1.heap.size) (hn : n ≤ 2000) (hW : Below wr.heap.size wr W) (x : FX) (hx : RdX (fun k => ok k ∨ wr.heap.size ≤ k) W x) :
    ∃ A3 c3 w3, (Builtin.append_ #[22, 22] 22 #[.slice A' n c', .slice (some ⟨W.heap.size, 0, none⟩) 1 1]).run Try.prog (W.alloc (.cells #[.int .i64 x.no, vX x, .int .i64 x.sure] 32)) = .ok (.slice A3 (n + 1) c3) w3 ∧ CrR ok w1 (w3.setCell ⟨w1.heap.size, 1, none⟩ (.slice A3 (n + 1) c3)) cap A3 c3 (ys ++ [x]) (n + 1) ∧ w3.cell? ⟨w1.heap.size, 1, none⟩ = some (.slice A' n c') ∧ w3.frozen? ⟨w1.heap.size, 1, none⟩ = false := by
  have hba := below_alloc (Below.refl W.heap.size W) (.cells #[.int .i64 x.no, vX x, .int .i64 x.sure] 32)
  have hbx := BoxC.new W #[.int .i64 x.no, vX x, .int .i64 x.sure] 32
  have hbb := hW.trans (hba.mono hW.size)
  have hbase : ∀ k, (Value.slice A' n c').ownBlock = some k → w1.heap.size + 1 ≤ k := fun k e => own_base h.sh.1 k e
  have hlt : ∀ k, (Value.slice A' n c').ownBlock = some k → k < wr.heap.size := fun k e => own_lt h.sh.1 k e
  obtain ⟨A3, c3, w3, hr, hs, hb, hfr⟩ := sh_append (h.sh.below hbb) h.len 22 ⟨W.heap.size, 0, none⟩ 1 1 (ys := [x]) rfl (fun j u hu => by
    have hu' : (cellsX x)[j]? = some u := by simpa [flat] using hu
    rw [add_plain, Nat.zero_add]
    exact hbx.c j (by simpa using hu')) (fun y hy => by
      rw [List.mem_singleton] at hy
      rw [hy]
      refine ((hx.moved hba.size (Agree.belowAll hba _)).mono (fun k hk => ⟨hk.1.imp id (fun h9 => by have := h.sz; omega), fun e => ?_⟩))
      rcases hk.1 with h9 | h9
      · have := hok k h9
        have := hbase k e
        omega
      · have := hlt k e
        omega) (by omega) (by have := h.sz; have := hbb.size; omega)
  have hb6 := h.b6.below hbb
  have hb6' : BoxC w3 w1.heap.size (cellsD cap A' n c') 24 := (hb.block w1.heap.size (Nat.lt_succ_self _)).trans hb6
  exact ⟨A3, c3, w3, hr, ⟨hs.moved (by simp) (fun k hk _ => Below.heap_setCell _ _ _ k (fun e => by
      have e' : k = w1.heap.size := e
      rcases hk with hk | hk
      · rcases hk with hk | hk
        · have := hok k hk; omega
        · omega
      · have := own_base hs.1 k hk; omega)), by rw [List.length_append, h.len]; rfl, hb6'.set 1 _, ((h.below.trans (hbb.mono h.below.size)).trans (hb.mono (Nat.le_succ _))).setCell (p := ⟨w1.heap.size, 1, none⟩) (Nat.le_refl _) _, by have := h.sz; have := hbb.size; have := hb.size; simp; omega⟩, hb6'.c 1 rfl, hb6'.f 1⟩
structure CrMid (ok : Nat → Prop) (w1 wr v1 W w3 : World) (cap : Int) (A' : Option Addr) (c' : Nat) (ys : List FX) (n : Nat) (no : Int) (y1 y2 : Value) (A7 : Option Addr) (c7 N : Nat) (ct : List Int) (A3 : Option Addr) (c3 : Nat) : Prop where
  hW : (v1.setCell ⟨wr.heap.size, 1, none⟩ (.slice A7 N c7)).setCell ⟨wr.heap.size, 2, none⟩ (.int .i64 (N : Int)) = W
  p0 : v1.cell? ⟨wr.heap.size, 1, none⟩ = some y1
  p1 : v1.frozen? ⟨wr.heap.size, 1, none⟩ = false
  m1 : (v1.setCell ⟨wr.heap.size, 1, none⟩ (.slice A7 N c7)).cell? ⟨wr.heap.size, 1, none⟩ = some (.slice A7 N c7)
  m2 : (v1.setCell ⟨wr.heap.size, 1, none⟩ (.slice A7 N c7)).cell? ⟨wr.heap.size, 2, none⟩ = some y2
  mf2 : (v1.setCell ⟨wr.heap.size, 1, none⟩ (.slice A7 N c7)).frozen? ⟨wr.heap.size, 2, none⟩ = false
  q0 : W.cell? ⟨wr.heap.size, 0, none⟩ = some (.int .i64 no)
  q1 : W.cell? ⟨wr.heap.size, 1, none⟩ = some (.slice A7 N c7)
  q2 : W.cell? ⟨wr.heap.size, 2, none⟩ = some (.int .i64 (N : Int))
  r6 : W.cell? ⟨w1.heap.size, 1, none⟩ = some (.slice A' n c')
  run : (Builtin.append_ #[22, 22] 22 #[.slice A' n c', .slice (some ⟨W.heap.size, 0, none⟩) 1 1]).run Try.prog (W.alloc (.cells #[.int .i64 no, .slice A7 N c7, .int .i64 (N : Int)] 32)) = .ok (.slice A3 (n + 1) c3) w3
  st : CrR ok w1 (w3.setCell ⟨w1.heap.size, 1, none⟩ (.slice A3 (n + 1) c3)) cap A3 c3 (ys ++ [⟨no, A7, c7, ct, (N : Int)⟩]) (n + 1)
  t1 : w3.cell? ⟨w1.heap.size, 1, none⟩ = some (.slice A' n c')
  tf1 : w3.frozen? ⟨w1.heap.size, 1, none⟩ = false
theorem cr_mid {ok : Nat → Prop} {w1 wr v1 : World} {cap : Int} {A' : Option Addr} {c' : Nat} {ys : List FX} {n : Nat} {no : Int} {y1 y2 : Value} {A7 : Option Addr} {c7 N : Nat} {ct : List Int} {base : Nat} (h : CrR ok w1 wr cap A' c' ys n) (hok : ∀ k, ok k → k < w1.heap.size) (hn : n ≤ 2000) (hv : Below wr.heap.size wr v1) (b9 : BoxC v1 wr.heap.size #[.int .i64 no, y1, y2] 32)
    (hr : Kd.R kB 5 v1 base (fun _ => True) (.slice A7 N c7) ct) (hb : wr.heap.size + 1 ≤ base) (hN : ct.length = N) : ∃ A3 c3 w3 W, CrMid ok w1 wr v1 W w3 cap A' c' ys n no y1 y2 A7 c7 N ct A3 c3 := by
  obtain ⟨W, hWn⟩ : ∃ W, (v1.setCell ⟨wr.heap.size, 1, none⟩ (.slice A7 N c7)).setCell ⟨wr.heap.size, 2, none⟩ (.int .i64 (N : Int)) = W := ⟨_, rfl⟩
  have hbW : Below wr.heap.size wr W := by rw [← hWn]; exact (hv.setCell (p := ⟨wr.heap.size, 1, none⟩) (Nat.le_refl _) _).setCell (p := ⟨wr.heap.size, 2, none⟩) (Nat.le_refl _) _
  have bm := b9.set 1 (.slice A7 N c7)
  have bW : BoxC W wr.heap.size #[.int .i64 no, .slice A7 N c7, .int .i64 (N : Int)] 32 := by rw [← hWn]; exact bm.set 2 _
  have hrW : RdX (fun k => ok k ∨ wr.heap.size ≤ k) W ⟨no, A7, c7, ct, (N : Int)⟩ := rdx_end (y := ⟨no, A7, c7, ct, (N : Int)⟩) (v1 := v1) (base := base) (by unfold vX; dsimp only; rw [hN]; exact hr) (by rw [← hWn]; simp) (fun k hk _ => by
    rw [← hWn]
    exact (Below.heap_setCell _ _ _ k (by show k ≠ wr.heap.size; omega)).trans (Below.heap_setCell _ _ _ k (by show k ≠ wr.heap.size; omega))) (fun k h1 _ => .inr (by omega))
  obtain ⟨A3, c3, w3, hr3, hst3, t1, tf1⟩ := h.step hok hn hbW ⟨no, A7, c7, ct, (N : Int)⟩ hrW
  unfold vX at hr3
  dsimp only at hr3
  rw [hN] at hr3
  exact ⟨A3, c3, w3, W, hWn, b9.c 1 rfl, b9.f 1, bm.c 1 rfl, bm.c 2 rfl, bm.f 2, bW.c 0 rfl, bW.c 1 rfl, bW.c 2 rfl, (h.b6.below hbW).c 1 rfl, hr3, hst3, t1, tf1⟩
theorem rd_drop (p : List Int) (k : Nat) : rd p (k : Int) = (p.drop k).headD 0 := by
  unfold rd
  rw [Int.toNat_natCast]
  by_cases h : k < p.length
  · rw [drop_headD p k h, List.getD_eq_getElem?_getD, List.getElem?_eq_getElem h]
    rfl
  · rw [drop_headD_no p k h, List.getD_eq_getElem?_getD, List.getElem?_eq_none (by omega)]
    rfl
set_option maxRecDepth 100000 in
set_option maxHeartbeats 16000000 in
theorem refCrash_calls (cap : Int) (A : Option Addr) (c : Nat) (xs : List FX) (pA : Option Addr) (pc : Nat) (p : List Int) (ok : Nat → Prop) (w : World) (hC : CX ok w A xs) (hc : xs.length ≤ c) (hl : xs.length ≤ 1000) (hok : ∀ k, ok k → k < w.heap.size) (hu : usedF (xs.map flX) ≤ 4611686018427387904) (hP : Kd.C (Kd.int .i64) w pA p.length p) (hpl : p.length ≤ 1000) (hob : ∀ x ∈ xs, okB x.data) :
    Calls Try.prog 51 #[.agg (cellsD cap A xs.length c), .slice pA p.length pc] w (RefEnd ok cap (crashD ⟨cap, xs.map flX⟩ p).f w) := by
  obtain ⟨w0, hw0⟩ : ∃ w0, (w.alloc (.cells (cellsD cap A xs.length c) 24)).alloc (.cells (cellsD 0 none 0 0) 24) = w0 := ⟨_, rfl⟩
  have hB : Below w.heap.size w w0 := by rw [← hw0]; exact below_alloc (below_alloc (Below.refl _ _) _) _
  have hz0 : w0.heap.size = w.heap.size + 2 := by rw [← hw0]; simp
  have bx : BoxC w0 w.heap.size (cellsD cap A xs.length c) 24 := by rw [← hw0]; exact (BoxC.new w _ _).alloc _
  have bz : BoxC w0 (w.heap.size + 1) (cellsD 0 none 0 0) 24 := by
    rw [← hw0]
    have h9 := BoxC.new (w.alloc (.cells (cellsD cap A xs.length c) 24)) (cellsD 0 none 0 0) 24
    rw [World.size_alloc] at h9
    exact h9
  have hC0 := hC.moved hB.size (Agree.below hB hok)
  have q := refMay_calls cap A c (xs.map flX) w0
  rw [List.length_map] at q
  have q1 := hC0.now
  rw [List.length_map] at q1
  have HQ := Lib.hid (q q1 hc (by omega) hu)
  have HOK := Lib.hid hok
  have HC0 := Lib.hid hC0
  have HZ0 := Lib.hid hz0
  have HP := Lib.hid (Kd.C_below hP hB)
  have HOB := Lib.hid hob
  have x0 := bx.c 0 rfl
  have x1 := bx.c 1 rfl
  have HW0 := Lib.hid hw0
  clear hC0 q q1 hC hok hz0 hP hob
  obtain ⟨r, hr⟩ : ∃ r, (crashD ⟨cap, xs.map flX⟩ p).f = r := ⟨_, rfl⟩
  rw [hr]
  have HR := Lib.hid hr
  clear hr
  go_enter Try.func51, Try.ntmps51
  go_wp2_with (fail)
  refine HQ.out.mono ?_
  rintro e w1 ⟨rfl, hb1⟩
  replace hB := hB.trans (hb1.mono hB.size)
  replace bx := bx.below hb1
  replace bz := bz.below hb1
  have hC1 := HC0.out.moved hb1.size (Agree.belowAll hb1 _)
  have hz1 : w.heap.size + 2 ≤ w1.heap.size := by have := HZ0.out; have := hb1.size; omega
  have HP1 := Lib.hid (Kd.C_below HP.out hb1)
  clear x0 x1 HQ
  have x0 := bx.c 0 rfl
  have x1 := bx.c 1 rfl
  by_cases hm : mayD ⟨cap, xs.map flX⟩
  · rw [decide_eq_true hm]
    have HRE := Lib.hid (show crashL (xs.map flX) p = r by rw [← HR.out, crashD_yes hm])
    have HSU := Lib.hid (show ∀ (k : Nat) (h : k < xs.length), 0 ≤ xs[k].sure ∧ xs[k].sure ≤ (xs[k].data.length : Int) ∧ xs[k].data.length ≤ 65536 from fun k h => by
      have h9 := sure_at hm (i := k) (f := flX xs[k]) (by show (xs.map flX)[k]? = _; rw [List.getElem?_map, List.getElem?_eq_getElem h]; rfl)
      have h1 := (may_small hm).1
      have h2 := usedF_mem (List.mem_map_of_mem (f := flX) (List.getElem_mem h))
      dsimp only at h1 h2
      exact ⟨h9.1, h9.2, by omega⟩)
    have HOK1 := Lib.hid (show ∀ k, ok k → k < w1.heap.size from fun k hk => by have := HOK.out k hk; omega)
    have HC1 := Lib.hid hC1
    have BX := Lib.hid bx
    have BZ := Lib.hid bz
    have HB := Lib.hid hB
    clear hm HR hC1 bx bz hB hb1
    go_wp2_with (fail)
    go_loopw [7, 8] (fun q i wr => ∃ (k nx : Nat) (A' : Option Addr) (c' : Nat) (ys : List FX), k ≤ xs.length ∧ i = .int .i64 (k : Int) ∧ q = .int .i64 (nx : Int) ∧ nx ≤ 2 * k ∧ Hid (crashL (xs.map flX) p = ys.map flX ++ crashL ((xs.drop k).map flX) (p.drop nx)) ∧ Hid (CrR ok w1 wr cap A' c' ys k)) (fun _ i _ => xs.length - (intOf i).toNat)
    case atStart =>
      have hba := below_alloc (Below.refl w1.heap.size w1) (.cells (cellsD cap none 0 0) 24)
      exact ⟨0, 0, none, 0, [], Nat.zero_le _, rfl, rfl, Nat.le_refl _, Lib.hid (by simp), Lib.hid ⟨ShF.nil _ _ _, rfl, BoxC.new w1 _ _, hba, by simp⟩⟩
    case round =>
      clear x0 x1
      obtain ⟨k, nx, A', c', ys, hk, rfl, rfl, hnx, hys, hst⟩ := hrel
      have x0 := (BX.out.below hst.out.below).c 0 rfl
      have x1 := (BX.out.below hst.out.below).c 1 rfl
      by_cases hlt : k < xs.length
      · have hlti : (k : Int) < (xs.length : Int) := by omega
        have hCr := HC1.out.moved hst.out.below.size (Agree.belowAll hst.out.below _)
        obtain ⟨ad, rfl, g0, g1, g2, hrx⟩ := file_atX hCr k hlt
        obtain ⟨hs0, hs1, hxm⟩ := HSU.out k hlt
        have hxo := HOB.out _ (List.getElem_mem hlt)
        have hdrop : (xs.drop k).map flX = flX xs[k] :: (xs.drop (k + 1)).map flX := by rw [List.drop_eq_getElem_cons hlt]; rfl
        have hys2 := hys.out
        rw [hdrop] at hys2
        obtain ⟨x, hx⟩ : ∃ x, xs[k] = x := ⟨_, rfl⟩
        rw [hx] at g0 g1 g2 hrx hs0 hs1 hxm hxo hys2
        obtain ⟨no, xA, xc, data, sure⟩ := x
        unfold vX at g1
        dsimp only at g0 g1 g2 hrx hs0 hs1 hxm hxo
        obtain ⟨s, rfl⟩ := Int.eq_ofNat_of_zero_le hs0
        obtain ⟨m, hm⟩ : ∃ m, data.length = s + m := ⟨data.length - s, by omega⟩
        obtain ⟨L, hL⟩ : ∃ L, data.length = L := ⟨_, rfl⟩
        have hxcl : L ≤ xc := by have := hrx.1; dsimp only at this; omega
        have hrx0 := hrx
        have hCx := hrx.now
        dsimp only at hCx
        rw [hL] at g1 hs1 hxm hm hCx
        have hsub : IntKind.i64.wrap ((L : Int) - (s : Int)) = (m : Int) := by rw [show (L : Int) - (s : Int) = (m : Int) by omega]; exact i64_of (by omega) (by omega)
        obtain ⟨w2, hw2⟩ : ∃ w2, wr.alloc (.cells #[.int .i64 no, .slice xA L xc, .int .i64 (s : Int)] 32) = w2 := ⟨_, rfl⟩
        have hb2 : Below wr.heap.size wr w2 := by rw [← hw2]; exact below_alloc (Below.refl _ _) _
        have hz2 : w2.heap.size = wr.heap.size + 1 := by rw [← hw2]; simp
        have b9 : BoxC w2 wr.heap.size #[.int .i64 no, .slice xA L xc, .int .i64 (s : Int)] 32 := by rw [← hw2]; exact BoxC.new _ _ _
        have d0 := b9.c 0 rfl
        have d1 := b9.c 1 rfl
        have d2 := b9.c 2 rfl
        have df2 := b9.f 2
        have hcon : ∀ nx2 : Nat, True := fun _ => trivial
        by_cases hm0 : m = 0
        · subst hm0
          have hLs : L = s := by omega
          subst hLs
          clear hm hcon
          obtain ⟨W, hWn⟩ : ∃ W, w2.setCell ⟨wr.heap.size, 2, none⟩ (.int .i64 (L : Int)) = W := ⟨_, rfl⟩
          have hbW : Below wr.heap.size wr W := by rw [← hWn]; exact hb2.setCell (p := ⟨wr.heap.size, 2, none⟩) (Nat.le_refl _) _
          have b9W : BoxC W wr.heap.size #[.int .i64 no, .slice xA L xc, .int .i64 (L : Int)] 32 := by rw [← hWn]; exact b9.set 2 _
          have hrW : RdX (fun k => ok k ∨ wr.heap.size ≤ k) W ⟨no, xA, xc, data, (L : Int)⟩ := (hrx0.moved hbW.size (Agree.belowAll hbW _)).mono (fun k hk => .inl hk.1)
          obtain ⟨A3, c3, w3, hr3, hst3, t1, tf1⟩ := hst.out.step HOK1.out (by omega) hbW ⟨no, xA, xc, data, (L : Int)⟩ hrW
          unfold vX at hr3
          dsimp only at hr3
          rw [hL] at hr3
          have HRUN := Lib.hid hr3
          have HST := Lib.hid hst3
          have HYS := Lib.hid (show crashL (xs.map flX) p = (ys ++ [(⟨no, xA, xc, data, (L : Int)⟩ : FX)]).map flX ++ crashL ((xs.drop (k + 1)).map flX) (p.drop nx) by
            rw [hys2]
            show _ ++ (if (L : Int) = (data.length : Int) then _ else _) = _
            rw [if_pos (by rw [hL]), List.map_append, List.append_assoc]
            rfl)
          have u0 := b9W.c 0 rfl
          have u1 := b9W.c 1 rfl
          have u2 := b9W.c 2 rfl
          have r6 := (hst.out.b6.below hbW).c 1 rfl
          have r60 := hst.out.b6.c 0 rfl
          clear hr3 hst3 hys2 hst hys b9 b9W hrx hrx0 hrW hbW hb2 hCr hdrop hx hCx HP1 HOB HC1
          go_wp2_with (at_builtin; refine Lib.wpList_append_run _ rfl _ _ _ _ rfl _ _ rfl rfl _ _ HRUN.out ?_)
          go_roundw
          case rel => exact ⟨k + 1, nx, A3, c3, _, by omega, by go_num, rfl, by omega, Lib.hid HYS.out, Lib.hid HST.out⟩
          case measure => simp [intOf]; omega
        · skip
          have hmp : (0 : Int) < (m : Int) := by omega
          have hmn : m ≤ 65536 := by omega
          have HMM := Lib.hid hm
          have HLL := Lib.hid hL
          have hys3 : crashL (xs.map flX) p = ys.map flX ++ (crashF ⟨no, data, (s : Int)⟩ (p.drop nx) :: crashL ((xs.drop (k + 1)).map flX) (p.drop (nx + 2))) := by
            rw [hys2]
            show _ ++ (if (s : Int) = (data.length : Int) then _ else _) = _
            rw [if_neg (by rw [hL]; omega), List.drop_drop]
          have hcw : ∀ W, Below w2.heap.size w2 W → Kd.C (Kd.int .i64) W pA p.length p := fun W h => Kd.C_below HP1.out ((hst.out.below.trans (hb2.mono hst.out.below.size)).trans (h.mono (by have := hst.out.below.size; omega)))
          have hcf := crashF_eq no data s m
          rw [hL] at hcf
          have HYS3 := Lib.hid hys3
          have HCF := Lib.hid hcf
          have HB2 := Lib.hid hb2
          have HB9 := Lib.hid b9
          have HST := Lib.hid hst.out
          have HXO := Lib.hid hxo
          have HCX := Lib.hid (Kd.C_below hCx hb2)
          have hsl : (s : Int) ≤ 65536 := by omega
          have hml : (m : Int) ≤ 65536 := by omega
          have r60 := hst.out.b6.c 0 rfl
          have HHEAD := Lib.hid (rfl : (p.drop nx).headD 0 = (p.drop nx).headD 0)
          clear hys2 hys3 hcf hb2 b9 hst hys hxo hCx hm hL hrx hrx0 hCr hdrop hx hs0 hs1 hm0 hcon HC1 HOB hz2
          have hz2 : w2.heap.size = wr.heap.size + 1 := by rw [← hw2]; simp
          by_cases hnp : ¬ nx < p.length
          · have hni : ¬ (nx : Int) < (p.length : Int) := by omega
            have hni2 : ¬ (nx : Int) + 1 < (p.length : Int) := by omega
            have HK := Lib.hid (show keepN (p.drop nx) m = 0 by unfold keepN; rw [drop_headD_no _ _ hnp]; rfl)
            obtain ⟨N, hN⟩ : ∃ N, s + 0 = N := ⟨_, rfl⟩
            have hNL : N ≤ L := by have := HMM.out; omega
            have hsN : s ≤ N := by omega
            have hsq : (s : Int) = (N : Int) := by omega
            have hsl2 := fun W => sliceHighB xA L xc N (s : Int) hsq (by omega) W
            have HNK := Lib.hid hN
            obtain ⟨ct, hct⟩ : ∃ ct, data.take N = ct := ⟨_, rfl⟩
            have hcl : ct.length = N := by rw [← hct, List.length_take, HLL.out]; omega
            have HCTE := Lib.hid hct
            have HCT := Lib.hid (show Kd.C kB w2 xA N ct by have h9 := Kd.C_take (xs := data) (m := N) (by rw [HLL.out]; exact HCX.out) (by rw [HLL.out]; exact hNL); rw [hct, hcl] at h9; exact h9)
            have HCO := Lib.hid (show okB ct by rw [← hct]; exact fun y hy => HXO.out y (List.mem_of_mem_take hy))
            clear hsq
            clear hN hct
            have HYS := Lib.hid (show ∀ (A8 : Option Addr) (c8 : Nat), crashL (xs.map flX) p = (ys ++ [(⟨no, A8, c8, ct, (N : Int)⟩ : FX)]).map flX ++ crashL ((xs.drop (k + 1)).map flX) (p.drop (nx + 2)) from fun A8 c8 => by
              rw [HYS3.out, HCF.out _ _ (by exact HMM.out) HK.out, if_neg (by rw [drop_tail, drop_headD_no _ _ (by omega)]; decide), HNK.out, HCTE.out, List.map_append, List.append_assoc]
              rfl)
            have HCL := Lib.hid hcl
            clear hcl
            go_wp2_with (at_builtin; first
              | (have zz := HM; refine Lib.wpList_append_run _ rfl _ _ _ _ rfl _ _ rfl rfl _ _ HM.out.run ?_)
              | (refine Kd.R_append_rows (Kd.int .u8) (Rr := fun x cs => cs = [.int .u8 x]) (w0 := w2) w2.heap.size rfl _ _ 30 5 (.int .u8 0) 1 rfl Try.underlying30 infoU8 rfl (by decide) (by decide) (.slice none 0 0) ([] : List Int) ct xA N xc (fun _ => True) (fun _ => False) rfl rfl (Kd.R_nil _ _ _ _ _) HCT.out (fun _ _ h => h) (fun _ h => h.elim) (fun _ _ => trivial) (Below.refl _ _) (Nat.le_refl _) (by simp; omega) ?_; intro u9 v1 hr1 hb3 hG _; rw [List.nil_append] at hr1; obtain ⟨A7, c7, hu9, -, -⟩ := Kd.R_reads hr1; rw [HCL.out] at hu9; subst hu9; have hvv := HB2.out.trans (hb3.mono (by have := HB2.out.size; omega)); obtain ⟨A3, c3, w3, W, hM⟩ := cr_mid HST.out HOK1.out (by omega) hvv (HB9.out.below hb3) hr1 (Nat.le_of_eq hz2.symm) HCL.out; have HM := Lib.hid hM; have e0 := hM.hW; have e1 := hM.p0; have e2 := hM.p1; have e3 := hM.m1; have e4 := hM.m2; have e5 := hM.mf2; have e6 := hM.q0; have e7 := hM.q1; have e8 := hM.q2; have e9 := hM.r6; have e10 := hM.t1; have e11 := hM.tf1; clear hM hr1 hvv hb3 hG))
            go_roundw
            case rel => exact ⟨k + 1, nx + 2, A3, c3, _, by omega, by go_num, by go_num, by omega, Lib.hid (HYS.out A7 c7), Lib.hid HM.out.st⟩
            case measure => simp [intOf]; omega
          · have hnp : nx < p.length := Classical.not_not.1 hnp
            have hni : (nx : Int) < (p.length : Int) := by omega
            obtain ⟨adp, rfl, hv⟩ := Kd.at_int (hcw w2 (Below.refl _ _)) (nx : Int) (by omega) hni
            rw [Int.toNat_natCast, rd_drop] at hv
            obtain ⟨v1, hv1⟩ : ∃ v1, (p.drop nx).headD 0 = v1 := ⟨_, rfl⟩
            rw [hv1] at hv
            have HV1 := Lib.hid hv1
            clear hv1
            by_cases hnp2 : nx + 1 < p.length
            · have hni2 : (nx : Int) + 1 < (p.length : Int) := by omega
              obtain ⟨adp2, hade, hvv⟩ := Kd.at_int (hcw w2 (Below.refl _ _)) ((nx + 1 : Nat) : Int) (by omega) (by omega)
              injection hade with hade
              subst hade
              rw [Int.toNat_natCast, rd_drop] at hvv
              obtain ⟨v2, hv2⟩ : ∃ v2, (p.drop (nx + 1)).headD 0 = v2 := ⟨_, rfl⟩
              rw [hv2] at hvv
              have hvv2 : w2.cell? ⟨adp.block, adp.off + (nx + 1), none⟩ = some (.int .i64 v2) := by rw [← hvv]; congr 1
              clear hcw
              obtain ⟨od, hod⟩ : ∃ od, (Int.tmod v2 2 != 0) = od := ⟨_, rfl⟩
              have HOD := Lib.hid (show decide (v2 % 2 ≠ 0) = od by rw [← odd_tmod]; exact hod)
              cases od
              · have HODD := Lib.hid (show ¬ (p.drop (nx + 1)).headD 0 % 2 ≠ 0 by rw [hv2]; exact of_decide_eq_false HOD.out)
                clear hv2 HOD
                by_cases hv0 : v1 < 0
                · skip
                  have HK := Lib.hid (show keepN (p.drop nx) m = 0 by unfold keepN; rw [HV1.out]; omega)
                  obtain ⟨N, hN⟩ : ∃ N, s + 0 = N := ⟨_, rfl⟩
                  have hNL : N ≤ L := by have := HMM.out; omega
                  have hsN : s ≤ N := by omega
                  have hsq : (s : Int) = (N : Int) := by omega
                  have hsl2 := fun W => sliceHighB xA L xc N (s : Int) hsq (by omega) W
                  have HNK := Lib.hid hN
                  obtain ⟨ct, hct⟩ : ∃ ct, data.take N = ct := ⟨_, rfl⟩
                  have hcl : ct.length = N := by rw [← hct, List.length_take, HLL.out]; omega
                  have HCTE := Lib.hid hct
                  have HCT := Lib.hid (show Kd.C kB w2 xA N ct by have h9 := Kd.C_take (xs := data) (m := N) (by rw [HLL.out]; exact HCX.out) (by rw [HLL.out]; exact hNL); rw [hct, hcl] at h9; exact h9)
                  have HCO := Lib.hid (show okB ct by rw [← hct]; exact fun y hy => HXO.out y (List.mem_of_mem_take hy))
                  clear hsq
                  clear hN hct
                  
                  have HYS := Lib.hid (show ∀ (A8 : Option Addr) (c8 : Nat), crashL (xs.map flX) p = (ys ++ [(⟨no, A8, c8, ct, (N : Int)⟩ : FX)]).map flX ++ crashL ((xs.drop (k + 1)).map flX) (p.drop (nx + 2)) from fun A8 c8 => by
                    rw [HYS3.out, HCF.out _ _ (by exact HMM.out) HK.out, if_neg (by rw [drop_tail]; exact HODD.out), HNK.out, HCTE.out, List.map_append, List.append_assoc]
                    rfl)
                  have HCL := Lib.hid hcl
                  clear hcl
                  go_wp2_with (at_builtin; first
                    | (have zz := HM; refine Lib.wpList_append_run _ rfl _ _ _ _ rfl _ _ rfl rfl _ _ HM.out.run ?_)
                    | (refine Kd.R_append_rows (Kd.int .u8) (Rr := fun x cs => cs = [.int .u8 x]) (w0 := w2) w2.heap.size rfl _ _ 30 5 (.int .u8 0) 1 rfl Try.underlying30 infoU8 rfl (by decide) (by decide) (.slice none 0 0) ([] : List Int) ct xA N xc (fun _ => True) (fun _ => False) rfl rfl (Kd.R_nil _ _ _ _ _) HCT.out (fun _ _ h => h) (fun _ h => h.elim) (fun _ _ => trivial) (Below.refl _ _) (Nat.le_refl _) (by simp; omega) ?_; intro u9 v1 hr1 hb3 hG _; rw [List.nil_append] at hr1; obtain ⟨A7, c7, hu9, -, -⟩ := Kd.R_reads hr1; rw [HCL.out] at hu9; subst hu9; have hvv := HB2.out.trans (hb3.mono (by have := HB2.out.size; omega)); obtain ⟨A3, c3, w3, W, hM⟩ := cr_mid HST.out HOK1.out (by omega) hvv (HB9.out.below hb3) hr1 (Nat.le_of_eq hz2.symm) HCL.out; have HM := Lib.hid hM; have e0 := hM.hW; have e1 := hM.p0; have e2 := hM.p1; have e3 := hM.m1; have e4 := hM.m2; have e5 := hM.mf2; have e6 := hM.q0; have e7 := hM.q1; have e8 := hM.q2; have e9 := hM.r6; have e10 := hM.t1; have e11 := hM.tf1; clear hM hr1 hvv hb3 hG))
                  go_roundw
                  case rel => exact ⟨k + 1, nx + 2, A3, c3, _, by omega, by go_num, by go_num, by omega, Lib.hid (HYS.out A7 c7), Lib.hid HM.out.st⟩
                  case measure => simp [intOf]; omega
                · by_cases hvm : (m : Int) < v1
                  · skip
                    have HK := Lib.hid (show keepN (p.drop nx) m = m by unfold keepN; rw [HV1.out]; omega)
                    obtain ⟨N, hN⟩ : ∃ N, s + m = N := ⟨_, rfl⟩
                    have hNL : N ≤ L := by have := HMM.out; omega
                    have hsN : s ≤ N := by omega
                    have hsum : IntKind.i64.wrap ((s : Int) + (m : Int)) = (N : Int) := by rw [show (s : Int) + (m : Int) = (N : Int) by omega]; exact i64_of (by omega) (by omega)
                    have hsl2 := fun W => sliceHighB xA L xc N (N : Int) rfl (by omega) W
                    have HNK := Lib.hid hN
                    obtain ⟨ct, hct⟩ : ∃ ct, data.take N = ct := ⟨_, rfl⟩
                    have hcl : ct.length = N := by rw [← hct, List.length_take, HLL.out]; omega
                    have HCTE := Lib.hid hct
                    have HCT := Lib.hid (show Kd.C kB w2 xA N ct by have h9 := Kd.C_take (xs := data) (m := N) (by rw [HLL.out]; exact HCX.out) (by rw [HLL.out]; exact hNL); rw [hct, hcl] at h9; exact h9)
                    have HCO := Lib.hid (show okB ct by rw [← hct]; exact fun y hy => HXO.out y (List.mem_of_mem_take hy))
                    clear hN hct
                    
                    have HYS := Lib.hid (show ∀ (A8 : Option Addr) (c8 : Nat), crashL (xs.map flX) p = (ys ++ [(⟨no, A8, c8, ct, (N : Int)⟩ : FX)]).map flX ++ crashL ((xs.drop (k + 1)).map flX) (p.drop (nx + 2)) from fun A8 c8 => by
                      rw [HYS3.out, HCF.out _ _ (by exact HMM.out) HK.out, if_neg (by rw [drop_tail]; exact HODD.out), HNK.out, HCTE.out, List.map_append, List.append_assoc]
                      rfl)
                    have HCL := Lib.hid hcl
                    clear hcl
                    go_wp2_with (at_builtin; first
                      | (have zz := HM; refine Lib.wpList_append_run _ rfl _ _ _ _ rfl _ _ rfl rfl _ _ HM.out.run ?_)
                      | (refine Kd.R_append_rows (Kd.int .u8) (Rr := fun x cs => cs = [.int .u8 x]) (w0 := w2) w2.heap.size rfl _ _ 30 5 (.int .u8 0) 1 rfl Try.underlying30 infoU8 rfl (by decide) (by decide) (.slice none 0 0) ([] : List Int) ct xA N xc (fun _ => True) (fun _ => False) rfl rfl (Kd.R_nil _ _ _ _ _) HCT.out (fun _ _ h => h) (fun _ h => h.elim) (fun _ _ => trivial) (Below.refl _ _) (Nat.le_refl _) (by simp; omega) ?_; intro u9 v1 hr1 hb3 hG _; rw [List.nil_append] at hr1; obtain ⟨A7, c7, hu9, -, -⟩ := Kd.R_reads hr1; rw [HCL.out] at hu9; subst hu9; have hvv := HB2.out.trans (hb3.mono (by have := HB2.out.size; omega)); obtain ⟨A3, c3, w3, W, hM⟩ := cr_mid HST.out HOK1.out (by omega) hvv (HB9.out.below hb3) hr1 (Nat.le_of_eq hz2.symm) HCL.out; have HM := Lib.hid hM; have e0 := hM.hW; have e1 := hM.p0; have e2 := hM.p1; have e3 := hM.m1; have e4 := hM.m2; have e5 := hM.mf2; have e6 := hM.q0; have e7 := hM.q1; have e8 := hM.q2; have e9 := hM.r6; have e10 := hM.t1; have e11 := hM.tf1; clear hM hr1 hvv hb3 hG))
                    go_roundw
                    case rel => exact ⟨k + 1, nx + 2, A3, c3, _, by omega, by go_num, by go_num, by omega, Lib.hid (HYS.out A7 c7), Lib.hid HM.out.st⟩
                    case measure => simp [intOf]; omega
                  · skip
                    obtain ⟨K, rfl⟩ := Int.eq_ofNat_of_zero_le (show 0 ≤ v1 by omega)
                    have HK := Lib.hid (show keepN (p.drop nx) m = K by unfold keepN; rw [HV1.out]; omega)
                    have hKm : K ≤ m := by omega
                    obtain ⟨N, hN⟩ : ∃ N, s + K = N := ⟨_, rfl⟩
                    have hNL : N ≤ L := by have := HMM.out; omega
                    have hsN : s ≤ N := by omega
                    have hsum : IntKind.i64.wrap ((s : Int) + (K : Int)) = (N : Int) := by rw [show (s : Int) + (K : Int) = (N : Int) by omega]; exact i64_of (by omega) (by omega)
                    have hsl2 := fun W => sliceHighB xA L xc N (N : Int) rfl (by omega) W
                    have HNK := Lib.hid hN
                    obtain ⟨ct, hct⟩ : ∃ ct, data.take N = ct := ⟨_, rfl⟩
                    have hcl : ct.length = N := by rw [← hct, List.length_take, HLL.out]; omega
                    have HCTE := Lib.hid hct
                    have HCT := Lib.hid (show Kd.C kB w2 xA N ct by have h9 := Kd.C_take (xs := data) (m := N) (by rw [HLL.out]; exact HCX.out) (by rw [HLL.out]; exact hNL); rw [hct, hcl] at h9; exact h9)
                    have HCO := Lib.hid (show okB ct by rw [← hct]; exact fun y hy => HXO.out y (List.mem_of_mem_take hy))
                    clear hN hct
                    
                    have HYS := Lib.hid (show ∀ (A8 : Option Addr) (c8 : Nat), crashL (xs.map flX) p = (ys ++ [(⟨no, A8, c8, ct, (N : Int)⟩ : FX)]).map flX ++ crashL ((xs.drop (k + 1)).map flX) (p.drop (nx + 2)) from fun A8 c8 => by
                      rw [HYS3.out, HCF.out _ _ (by exact HMM.out) HK.out, if_neg (by rw [drop_tail]; exact HODD.out), HNK.out, HCTE.out, List.map_append, List.append_assoc]
                      rfl)
                    have HCL := Lib.hid hcl
                    clear hcl
                    go_wp2_with (at_builtin; first
                      | (have zz := HM; refine Lib.wpList_append_run _ rfl _ _ _ _ rfl _ _ rfl rfl _ _ HM.out.run ?_)
                      | (refine Kd.R_append_rows (Kd.int .u8) (Rr := fun x cs => cs = [.int .u8 x]) (w0 := w2) w2.heap.size rfl _ _ 30 5 (.int .u8 0) 1 rfl Try.underlying30 infoU8 rfl (by decide) (by decide) (.slice none 0 0) ([] : List Int) ct xA N xc (fun _ => True) (fun _ => False) rfl rfl (Kd.R_nil _ _ _ _ _) HCT.out (fun _ _ h => h) (fun _ h => h.elim) (fun _ _ => trivial) (Below.refl _ _) (Nat.le_refl _) (by simp; omega) ?_; intro u9 v1 hr1 hb3 hG _; rw [List.nil_append] at hr1; obtain ⟨A7, c7, hu9, -, -⟩ := Kd.R_reads hr1; rw [HCL.out] at hu9; subst hu9; have hvv := HB2.out.trans (hb3.mono (by have := HB2.out.size; omega)); obtain ⟨A3, c3, w3, W, hM⟩ := cr_mid HST.out HOK1.out (by omega) hvv (HB9.out.below hb3) hr1 (Nat.le_of_eq hz2.symm) HCL.out; have HM := Lib.hid hM; have e0 := hM.hW; have e1 := hM.p0; have e2 := hM.p1; have e3 := hM.m1; have e4 := hM.m2; have e5 := hM.mf2; have e6 := hM.q0; have e7 := hM.q1; have e8 := hM.q2; have e9 := hM.r6; have e10 := hM.t1; have e11 := hM.tf1; clear hM hr1 hvv hb3 hG))
                    go_roundw
                    case rel => exact ⟨k + 1, nx + 2, A3, c3, _, by omega, by go_num, by go_num, by omega, Lib.hid (HYS.out A7 c7), Lib.hid HM.out.st⟩
                    case measure => simp [intOf]; omega
              · have HODD := Lib.hid (show (p.drop (nx + 1)).headD 0 % 2 ≠ 0 by rw [hv2]; exact of_decide_eq_true HOD.out)
                clear hv2 HOD
                by_cases hv0 : v1 < 0
                · skip
                  have HK := Lib.hid (show keepN (p.drop nx) m = 0 by unfold keepN; rw [HV1.out]; omega)
                  obtain ⟨N, hN⟩ : ∃ N, s + 0 = N := ⟨_, rfl⟩
                  have hNL : N ≤ L := by have := HMM.out; omega
                  have hsN : s ≤ N := by omega
                  have hsq : (s : Int) = (N : Int) := by omega
                  have hsl2 := fun W => sliceHighB xA L xc N (s : Int) hsq (by omega) W
                  have HNK := Lib.hid hN
                  obtain ⟨ct, hct⟩ : ∃ ct, data.take N = ct := ⟨_, rfl⟩
                  have hcl : ct.length = N := by rw [← hct, List.length_take, HLL.out]; omega
                  have HCTE := Lib.hid hct
                  have HCT := Lib.hid (show Kd.C kB w2 xA N ct by have h9 := Kd.C_take (xs := data) (m := N) (by rw [HLL.out]; exact HCX.out) (by rw [HLL.out]; exact hNL); rw [hct, hcl] at h9; exact h9)
                  have HCO := Lib.hid (show okB ct by rw [← hct]; exact fun y hy => HXO.out y (List.mem_of_mem_take hy))
                  clear hsq
                  clear hN hct
                  
                  have HYS := Lib.hid (show ∀ (A8 : Option Addr) (c8 : Nat), crashL (xs.map flX) p = (ys ++ [(⟨no, A8, c8, tornB s ct, (N : Int)⟩ : FX)]).map flX ++ crashL ((xs.drop (k + 1)).map flX) (p.drop (nx + 2)) from fun A8 c8 => by
                    rw [HYS3.out, HCF.out _ _ (by exact HMM.out) HK.out, if_pos (by rw [drop_tail]; exact HODD.out), HNK.out, HCTE.out, List.map_append, List.append_assoc]
                    rfl)
                  have HCL := Lib.hid hcl
                  clear hcl
                  go_wp2_with (at_builtin; first
                    | (refine Kd.R_append_rows (Kd.int .u8) (Rr := fun x cs => cs = [.int .u8 x]) (w0 := w2) w2.heap.size rfl _ _ 30 5 (.int .u8 0) 1 rfl Try.underlying30 infoU8 rfl (by decide) (by decide) (.slice none 0 0) ([] : List Int) ct xA N xc (fun _ => True) (fun _ => False) rfl rfl (Kd.R_nil _ _ _ _ _) HCT.out (fun _ _ h => h) (fun _ h => h.elim) (fun _ _ => trivial) (Below.refl _ _) (Nat.le_refl _) (by simp; omega) ?_; intro u9 v1 hr1 hb3 hG _; rw [List.nil_append] at hr1; obtain ⟨A7, c7, hu9, -, -⟩ := Kd.R_reads hr1; rw [HCL.out] at hu9; subst hu9; have hvv := HB2.out.trans (hb3.mono (by have := HB2.out.size; omega)); have b9v := HB9.out.below hb3; have b9u := b9v.set 1 (.slice A7 N c7); have f1 := b9v.c 1 rfl; have f2 := b9v.f 1; have f3 := b9u.c 1 rfl; have f4 := b9u.c 2 rfl; obtain ⟨u1, hu1⟩ : ∃ u1, v1.setCell ⟨wr.heap.size, 1, none⟩ (.slice A7 N c7) = u1 := ⟨_, rfl⟩; have hbu := hvv.setCell (p := ⟨wr.heap.size, 1, none⟩) (Nat.le_refl _) (.slice A7 N c7); have hcu := (Kd.R_reads' (Kd.R_far (Kd.R_bound hr1) (p := ⟨wr.heap.size, 1, none⟩) (fun k hk => by show k ≠ wr.heap.size; have := hk.2.1; omega) (.slice A7 N c7))).2.2; rw [HCL.out] at hcu; rw [hu1] at b9u hbu hcu f3 f4; have B9U := Lib.hid b9u; have HBU := Lib.hid hbu; have HCU := Lib.hid hcu; clear hr1 hvv b9v b9u hbu hcu hb3 hG))
                  refine (torn_calls A7 c7 N s ct u1 HCU.out HCL.out (by omega) HCO.out (by omega)).mono ?_
                  rintro e u2 ⟨A8, c8, rfl, hr8, hb8⟩
                  obtain ⟨A3, c3, w3, W, hM⟩ := cr_mid HST.out HOK1.out (by omega) (HBU.out.trans (hb8.mono HBU.out.size)) (B9U.out.below hb8) hr8 (by have := HBU.out.size; have := blk_lt B9U.out; omega) (by rw [tornB_len, HCL.out])
                  have HM := Lib.hid hM
                  have e0 := hM.hW
                  have e1 := hM.p0
                  have e2 := hM.p1
                  have e3 := hM.m1
                  have e4 := hM.m2
                  have e5 := hM.mf2
                  have e6 := hM.q0
                  have e7 := hM.q1
                  have e8 := hM.q2
                  have e9 := hM.r6
                  have e10 := hM.t1
                  have e11 := hM.tf1
                  clear hM hr8 hb8 f1 f2 f3 f4
                  go_wp2_with (at_builtin; (have zz := HM; refine Lib.wpList_append_run _ rfl _ _ _ _ rfl _ _ rfl rfl _ _ HM.out.run ?_))
                  go_roundw
                  case rel => exact ⟨k + 1, nx + 2, A3, c3, _, by omega, by go_num, by go_num, by omega, Lib.hid (HYS.out A8 c8), Lib.hid HM.out.st⟩
                  case measure => simp [intOf]; omega
                · by_cases hvm : (m : Int) < v1
                  · skip
                    have HK := Lib.hid (show keepN (p.drop nx) m = m by unfold keepN; rw [HV1.out]; omega)
                    obtain ⟨N, hN⟩ : ∃ N, s + m = N := ⟨_, rfl⟩
                    have hNL : N ≤ L := by have := HMM.out; omega
                    have hsN : s ≤ N := by omega
                    have hsum : IntKind.i64.wrap ((s : Int) + (m : Int)) = (N : Int) := by rw [show (s : Int) + (m : Int) = (N : Int) by omega]; exact i64_of (by omega) (by omega)
                    have hsl2 := fun W => sliceHighB xA L xc N (N : Int) rfl (by omega) W
                    have HNK := Lib.hid hN
                    obtain ⟨ct, hct⟩ : ∃ ct, data.take N = ct := ⟨_, rfl⟩
                    have hcl : ct.length = N := by rw [← hct, List.length_take, HLL.out]; omega
                    have HCTE := Lib.hid hct
                    have HCT := Lib.hid (show Kd.C kB w2 xA N ct by have h9 := Kd.C_take (xs := data) (m := N) (by rw [HLL.out]; exact HCX.out) (by rw [HLL.out]; exact hNL); rw [hct, hcl] at h9; exact h9)
                    have HCO := Lib.hid (show okB ct by rw [← hct]; exact fun y hy => HXO.out y (List.mem_of_mem_take hy))
                    clear hN hct
                    
                    have HYS := Lib.hid (show ∀ (A8 : Option Addr) (c8 : Nat), crashL (xs.map flX) p = (ys ++ [(⟨no, A8, c8, tornB s ct, (N : Int)⟩ : FX)]).map flX ++ crashL ((xs.drop (k + 1)).map flX) (p.drop (nx + 2)) from fun A8 c8 => by
                      rw [HYS3.out, HCF.out _ _ (by exact HMM.out) HK.out, if_pos (by rw [drop_tail]; exact HODD.out), HNK.out, HCTE.out, List.map_append, List.append_assoc]
                      rfl)
                    have HCL := Lib.hid hcl
                    clear hcl
                    go_wp2_with (at_builtin; first
                      | (refine Kd.R_append_rows (Kd.int .u8) (Rr := fun x cs => cs = [.int .u8 x]) (w0 := w2) w2.heap.size rfl _ _ 30 5 (.int .u8 0) 1 rfl Try.underlying30 infoU8 rfl (by decide) (by decide) (.slice none 0 0) ([] : List Int) ct xA N xc (fun _ => True) (fun _ => False) rfl rfl (Kd.R_nil _ _ _ _ _) HCT.out (fun _ _ h => h) (fun _ h => h.elim) (fun _ _ => trivial) (Below.refl _ _) (Nat.le_refl _) (by simp; omega) ?_; intro u9 v1 hr1 hb3 hG _; rw [List.nil_append] at hr1; obtain ⟨A7, c7, hu9, -, -⟩ := Kd.R_reads hr1; rw [HCL.out] at hu9; subst hu9; have hvv := HB2.out.trans (hb3.mono (by have := HB2.out.size; omega)); have b9v := HB9.out.below hb3; have b9u := b9v.set 1 (.slice A7 N c7); have f1 := b9v.c 1 rfl; have f2 := b9v.f 1; have f3 := b9u.c 1 rfl; have f4 := b9u.c 2 rfl; obtain ⟨u1, hu1⟩ : ∃ u1, v1.setCell ⟨wr.heap.size, 1, none⟩ (.slice A7 N c7) = u1 := ⟨_, rfl⟩; have hbu := hvv.setCell (p := ⟨wr.heap.size, 1, none⟩) (Nat.le_refl _) (.slice A7 N c7); have hcu := (Kd.R_reads' (Kd.R_far (Kd.R_bound hr1) (p := ⟨wr.heap.size, 1, none⟩) (fun k hk => by show k ≠ wr.heap.size; have := hk.2.1; omega) (.slice A7 N c7))).2.2; rw [HCL.out] at hcu; rw [hu1] at b9u hbu hcu f3 f4; have B9U := Lib.hid b9u; have HBU := Lib.hid hbu; have HCU := Lib.hid hcu; clear hr1 hvv b9v b9u hbu hcu hb3 hG))
                    refine (torn_calls A7 c7 N s ct u1 HCU.out HCL.out (by omega) HCO.out (by omega)).mono ?_
                    rintro e u2 ⟨A8, c8, rfl, hr8, hb8⟩
                    obtain ⟨A3, c3, w3, W, hM⟩ := cr_mid HST.out HOK1.out (by omega) (HBU.out.trans (hb8.mono HBU.out.size)) (B9U.out.below hb8) hr8 (by have := HBU.out.size; have := blk_lt B9U.out; omega) (by rw [tornB_len, HCL.out])
                    have HM := Lib.hid hM
                    have e0 := hM.hW
                    have e1 := hM.p0
                    have e2 := hM.p1
                    have e3 := hM.m1
                    have e4 := hM.m2
                    have e5 := hM.mf2
                    have e6 := hM.q0
                    have e7 := hM.q1
                    have e8 := hM.q2
                    have e9 := hM.r6
                    have e10 := hM.t1
                    have e11 := hM.tf1
                    clear hM hr8 hb8 f1 f2 f3 f4
                    go_wp2_with (at_builtin; (have zz := HM; refine Lib.wpList_append_run _ rfl _ _ _ _ rfl _ _ rfl rfl _ _ HM.out.run ?_))
                    go_roundw
                    case rel => exact ⟨k + 1, nx + 2, A3, c3, _, by omega, by go_num, by go_num, by omega, Lib.hid (HYS.out A8 c8), Lib.hid HM.out.st⟩
                    case measure => simp [intOf]; omega
                  · skip
                    obtain ⟨K, rfl⟩ := Int.eq_ofNat_of_zero_le (show 0 ≤ v1 by omega)
                    have HK := Lib.hid (show keepN (p.drop nx) m = K by unfold keepN; rw [HV1.out]; omega)
                    have hKm : K ≤ m := by omega
                    obtain ⟨N, hN⟩ : ∃ N, s + K = N := ⟨_, rfl⟩
                    have hNL : N ≤ L := by have := HMM.out; omega
                    have hsN : s ≤ N := by omega
                    have hsum : IntKind.i64.wrap ((s : Int) + (K : Int)) = (N : Int) := by rw [show (s : Int) + (K : Int) = (N : Int) by omega]; exact i64_of (by omega) (by omega)
                    have hsl2 := fun W => sliceHighB xA L xc N (N : Int) rfl (by omega) W
                    have HNK := Lib.hid hN
                    obtain ⟨ct, hct⟩ : ∃ ct, data.take N = ct := ⟨_, rfl⟩
                    have hcl : ct.length = N := by rw [← hct, List.length_take, HLL.out]; omega
                    have HCTE := Lib.hid hct
                    have HCT := Lib.hid (show Kd.C kB w2 xA N ct by have h9 := Kd.C_take (xs := data) (m := N) (by rw [HLL.out]; exact HCX.out) (by rw [HLL.out]; exact hNL); rw [hct, hcl] at h9; exact h9)
                    have HCO := Lib.hid (show okB ct by rw [← hct]; exact fun y hy => HXO.out y (List.mem_of_mem_take hy))
                    clear hN hct
                    
                    have HYS := Lib.hid (show ∀ (A8 : Option Addr) (c8 : Nat), crashL (xs.map flX) p = (ys ++ [(⟨no, A8, c8, tornB s ct, (N : Int)⟩ : FX)]).map flX ++ crashL ((xs.drop (k + 1)).map flX) (p.drop (nx + 2)) from fun A8 c8 => by
                      rw [HYS3.out, HCF.out _ _ (by exact HMM.out) HK.out, if_pos (by rw [drop_tail]; exact HODD.out), HNK.out, HCTE.out, List.map_append, List.append_assoc]
                      rfl)
                    have HCL := Lib.hid hcl
                    clear hcl
                    go_wp2_with (at_builtin; first
                      | (refine Kd.R_append_rows (Kd.int .u8) (Rr := fun x cs => cs = [.int .u8 x]) (w0 := w2) w2.heap.size rfl _ _ 30 5 (.int .u8 0) 1 rfl Try.underlying30 infoU8 rfl (by decide) (by decide) (.slice none 0 0) ([] : List Int) ct xA N xc (fun _ => True) (fun _ => False) rfl rfl (Kd.R_nil _ _ _ _ _) HCT.out (fun _ _ h => h) (fun _ h => h.elim) (fun _ _ => trivial) (Below.refl _ _) (Nat.le_refl _) (by simp; omega) ?_; intro u9 v1 hr1 hb3 hG _; rw [List.nil_append] at hr1; obtain ⟨A7, c7, hu9, -, -⟩ := Kd.R_reads hr1; rw [HCL.out] at hu9; subst hu9; have hvv := HB2.out.trans (hb3.mono (by have := HB2.out.size; omega)); have b9v := HB9.out.below hb3; have b9u := b9v.set 1 (.slice A7 N c7); have f1 := b9v.c 1 rfl; have f2 := b9v.f 1; have f3 := b9u.c 1 rfl; have f4 := b9u.c 2 rfl; obtain ⟨u1, hu1⟩ : ∃ u1, v1.setCell ⟨wr.heap.size, 1, none⟩ (.slice A7 N c7) = u1 := ⟨_, rfl⟩; have hbu := hvv.setCell (p := ⟨wr.heap.size, 1, none⟩) (Nat.le_refl _) (.slice A7 N c7); have hcu := (Kd.R_reads' (Kd.R_far (Kd.R_bound hr1) (p := ⟨wr.heap.size, 1, none⟩) (fun k hk => by show k ≠ wr.heap.size; have := hk.2.1; omega) (.slice A7 N c7))).2.2; rw [HCL.out] at hcu; rw [hu1] at b9u hbu hcu f3 f4; have B9U := Lib.hid b9u; have HBU := Lib.hid hbu; have HCU := Lib.hid hcu; clear hr1 hvv b9v b9u hbu hcu hb3 hG))
                    refine (torn_calls A7 c7 N s ct u1 HCU.out HCL.out (by omega) HCO.out (by omega)).mono ?_
                    rintro e u2 ⟨A8, c8, rfl, hr8, hb8⟩
                    obtain ⟨A3, c3, w3, W, hM⟩ := cr_mid HST.out HOK1.out (by omega) (HBU.out.trans (hb8.mono HBU.out.size)) (B9U.out.below hb8) hr8 (by have := HBU.out.size; have := blk_lt B9U.out; omega) (by rw [tornB_len, HCL.out])
                    have HM := Lib.hid hM
                    have e0 := hM.hW
                    have e1 := hM.p0
                    have e2 := hM.p1
                    have e3 := hM.m1
                    have e4 := hM.m2
                    have e5 := hM.mf2
                    have e6 := hM.q0
                    have e7 := hM.q1
                    have e8 := hM.q2
                    have e9 := hM.r6
                    have e10 := hM.t1
                    have e11 := hM.tf1
                    clear hM hr8 hb8 f1 f2 f3 f4
                    go_wp2_with (at_builtin; (have zz := HM; refine Lib.wpList_append_run _ rfl _ _ _ _ rfl _ _ rfl rfl _ _ HM.out.run ?_))
                    go_roundw
                    case rel => exact ⟨k + 1, nx + 2, A3, c3, _, by omega, by go_num, by go_num, by omega, Lib.hid (HYS.out A8 c8), Lib.hid HM.out.st⟩
                    case measure => simp [intOf]; omega
            · have hni2 : ¬ (nx : Int) + 1 < (p.length : Int) := by omega
              clear hcw
              by_cases hv0 : v1 < 0
              · skip
                have HK := Lib.hid (show keepN (p.drop nx) m = 0 by unfold keepN; rw [HV1.out]; omega)
                obtain ⟨N, hN⟩ : ∃ N, s + 0 = N := ⟨_, rfl⟩
                have hNL : N ≤ L := by have := HMM.out; omega
                have hsN : s ≤ N := by omega
                have hsq : (s : Int) = (N : Int) := by omega
                have hsl2 := fun W => sliceHighB xA L xc N (s : Int) hsq (by omega) W
                have HNK := Lib.hid hN
                obtain ⟨ct, hct⟩ : ∃ ct, data.take N = ct := ⟨_, rfl⟩
                have hcl : ct.length = N := by rw [← hct, List.length_take, HLL.out]; omega
                have HCTE := Lib.hid hct
                have HCT := Lib.hid (show Kd.C kB w2 xA N ct by have h9 := Kd.C_take (xs := data) (m := N) (by rw [HLL.out]; exact HCX.out) (by rw [HLL.out]; exact hNL); rw [hct, hcl] at h9; exact h9)
                have HCO := Lib.hid (show okB ct by rw [← hct]; exact fun y hy => HXO.out y (List.mem_of_mem_take hy))
                clear hsq
                clear hN hct
                
                have HYS := Lib.hid (show ∀ (A8 : Option Addr) (c8 : Nat), crashL (xs.map flX) p = (ys ++ [(⟨no, A8, c8, ct, (N : Int)⟩ : FX)]).map flX ++ crashL ((xs.drop (k + 1)).map flX) (p.drop (nx + 2)) from fun A8 c8 => by
                  rw [HYS3.out, HCF.out _ _ (by exact HMM.out) HK.out, if_neg (by rw [drop_tail, drop_headD_no _ _ (by omega)]; decide), HNK.out, HCTE.out, List.map_append, List.append_assoc]
                  rfl)
                have HCL := Lib.hid hcl
                clear hcl
                go_wp2_with (at_builtin; first
                  | (have zz := HM; refine Lib.wpList_append_run _ rfl _ _ _ _ rfl _ _ rfl rfl _ _ HM.out.run ?_)
                  | (refine Kd.R_append_rows (Kd.int .u8) (Rr := fun x cs => cs = [.int .u8 x]) (w0 := w2) w2.heap.size rfl _ _ 30 5 (.int .u8 0) 1 rfl Try.underlying30 infoU8 rfl (by decide) (by decide) (.slice none 0 0) ([] : List Int) ct xA N xc (fun _ => True) (fun _ => False) rfl rfl (Kd.R_nil _ _ _ _ _) HCT.out (fun _ _ h => h) (fun _ h => h.elim) (fun _ _ => trivial) (Below.refl _ _) (Nat.le_refl _) (by simp; omega) ?_; intro u9 v1 hr1 hb3 hG _; rw [List.nil_append] at hr1; obtain ⟨A7, c7, hu9, -, -⟩ := Kd.R_reads hr1; rw [HCL.out] at hu9; subst hu9; have hvv := HB2.out.trans (hb3.mono (by have := HB2.out.size; omega)); obtain ⟨A3, c3, w3, W, hM⟩ := cr_mid HST.out HOK1.out (by omega) hvv (HB9.out.below hb3) hr1 (Nat.le_of_eq hz2.symm) HCL.out; have HM := Lib.hid hM; have e0 := hM.hW; have e1 := hM.p0; have e2 := hM.p1; have e3 := hM.m1; have e4 := hM.m2; have e5 := hM.mf2; have e6 := hM.q0; have e7 := hM.q1; have e8 := hM.q2; have e9 := hM.r6; have e10 := hM.t1; have e11 := hM.tf1; clear hM hr1 hvv hb3 hG))
                go_roundw
                case rel => exact ⟨k + 1, nx + 2, A3, c3, _, by omega, by go_num, by go_num, by omega, Lib.hid (HYS.out A7 c7), Lib.hid HM.out.st⟩
                case measure => simp [intOf]; omega
              · by_cases hvm : (m : Int) < v1
                · skip
                  have HK := Lib.hid (show keepN (p.drop nx) m = m by unfold keepN; rw [HV1.out]; omega)
                  obtain ⟨N, hN⟩ : ∃ N, s + m = N := ⟨_, rfl⟩
                  have hNL : N ≤ L := by have := HMM.out; omega
                  have hsN : s ≤ N := by omega
                  have hsum : IntKind.i64.wrap ((s : Int) + (m : Int)) = (N : Int) := by rw [show (s : Int) + (m : Int) = (N : Int) by omega]; exact i64_of (by omega) (by omega)
                  have hsl2 := fun W => sliceHighB xA L xc N (N : Int) rfl (by omega) W
                  have HNK := Lib.hid hN
                  obtain ⟨ct, hct⟩ : ∃ ct, data.take N = ct := ⟨_, rfl⟩
                  have hcl : ct.length = N := by rw [← hct, List.length_take, HLL.out]; omega
                  have HCTE := Lib.hid hct
                  have HCT := Lib.hid (show Kd.C kB w2 xA N ct by have h9 := Kd.C_take (xs := data) (m := N) (by rw [HLL.out]; exact HCX.out) (by rw [HLL.out]; exact hNL); rw [hct, hcl] at h9; exact h9)
                  have HCO := Lib.hid (show okB ct by rw [← hct]; exact fun y hy => HXO.out y (List.mem_of_mem_take hy))
                  clear hN hct
                  
                  have HYS := Lib.hid (show ∀ (A8 : Option Addr) (c8 : Nat), crashL (xs.map flX) p = (ys ++ [(⟨no, A8, c8, ct, (N : Int)⟩ : FX)]).map flX ++ crashL ((xs.drop (k + 1)).map flX) (p.drop (nx + 2)) from fun A8 c8 => by
                    rw [HYS3.out, HCF.out _ _ (by exact HMM.out) HK.out, if_neg (by rw [drop_tail, drop_headD_no _ _ (by omega)]; decide), HNK.out, HCTE.out, List.map_append, List.append_assoc]
                    rfl)
                  have HCL := Lib.hid hcl
                  clear hcl
                  go_wp2_with (at_builtin; first
                    | (have zz := HM; refine Lib.wpList_append_run _ rfl _ _ _ _ rfl _ _ rfl rfl _ _ HM.out.run ?_)
                    | (refine Kd.R_append_rows (Kd.int .u8) (Rr := fun x cs => cs = [.int .u8 x]) (w0 := w2) w2.heap.size rfl _ _ 30 5 (.int .u8 0) 1 rfl Try.underlying30 infoU8 rfl (by decide) (by decide) (.slice none 0 0) ([] : List Int) ct xA N xc (fun _ => True) (fun _ => False) rfl rfl (Kd.R_nil _ _ _ _ _) HCT.out (fun _ _ h => h) (fun _ h => h.elim) (fun _ _ => trivial) (Below.refl _ _) (Nat.le_refl _) (by simp; omega) ?_; intro u9 v1 hr1 hb3 hG _; rw [List.nil_append] at hr1; obtain ⟨A7, c7, hu9, -, -⟩ := Kd.R_reads hr1; rw [HCL.out] at hu9; subst hu9; have hvv := HB2.out.trans (hb3.mono (by have := HB2.out.size; omega)); obtain ⟨A3, c3, w3, W, hM⟩ := cr_mid HST.out HOK1.out (by omega) hvv (HB9.out.below hb3) hr1 (Nat.le_of_eq hz2.symm) HCL.out; have HM := Lib.hid hM; have e0 := hM.hW; have e1 := hM.p0; have e2 := hM.p1; have e3 := hM.m1; have e4 := hM.m2; have e5 := hM.mf2; have e6 := hM.q0; have e7 := hM.q1; have e8 := hM.q2; have e9 := hM.r6; have e10 := hM.t1; have e11 := hM.tf1; clear hM hr1 hvv hb3 hG))
                  go_roundw
                  case rel => exact ⟨k + 1, nx + 2, A3, c3, _, by omega, by go_num, by go_num, by omega, Lib.hid (HYS.out A7 c7), Lib.hid HM.out.st⟩
                  case measure => simp [intOf]; omega
                · skip
                  obtain ⟨K, rfl⟩ := Int.eq_ofNat_of_zero_le (show 0 ≤ v1 by omega)
                  have HK := Lib.hid (show keepN (p.drop nx) m = K by unfold keepN; rw [HV1.out]; omega)
                  have hKm : K ≤ m := by omega
                  obtain ⟨N, hN⟩ : ∃ N, s + K = N := ⟨_, rfl⟩
                  have hNL : N ≤ L := by have := HMM.out; omega
                  have hsN : s ≤ N := by omega
                  have hsum : IntKind.i64.wrap ((s : Int) + (K : Int)) = (N : Int) := by rw [show (s : Int) + (K : Int) = (N : Int) by omega]; exact i64_of (by omega) (by omega)
                  have hsl2 := fun W => sliceHighB xA L xc N (N : Int) rfl (by omega) W
                  have HNK := Lib.hid hN
                  obtain ⟨ct, hct⟩ : ∃ ct, data.take N = ct := ⟨_, rfl⟩
                  have hcl : ct.length = N := by rw [← hct, List.length_take, HLL.out]; omega
                  have HCTE := Lib.hid hct
                  have HCT := Lib.hid (show Kd.C kB w2 xA N ct by have h9 := Kd.C_take (xs := data) (m := N) (by rw [HLL.out]; exact HCX.out) (by rw [HLL.out]; exact hNL); rw [hct, hcl] at h9; exact h9)
                  have HCO := Lib.hid (show okB ct by rw [← hct]; exact fun y hy => HXO.out y (List.mem_of_mem_take hy))
                  clear hN hct
                  
                  have HYS := Lib.hid (show ∀ (A8 : Option Addr) (c8 : Nat), crashL (xs.map flX) p = (ys ++ [(⟨no, A8, c8, ct, (N : Int)⟩ : FX)]).map flX ++ crashL ((xs.drop (k + 1)).map flX) (p.drop (nx + 2)) from fun A8 c8 => by
                    rw [HYS3.out, HCF.out _ _ (by exact HMM.out) HK.out, if_neg (by rw [drop_tail, drop_headD_no _ _ (by omega)]; decide), HNK.out, HCTE.out, List.map_append, List.append_assoc]
                    rfl)
                  have HCL := Lib.hid hcl
                  clear hcl
                  go_wp2_with (at_builtin; first
                    | (have zz := HM; refine Lib.wpList_append_run _ rfl _ _ _ _ rfl _ _ rfl rfl _ _ HM.out.run ?_)
                    | (refine Kd.R_append_rows (Kd.int .u8) (Rr := fun x cs => cs = [.int .u8 x]) (w0 := w2) w2.heap.size rfl _ _ 30 5 (.int .u8 0) 1 rfl Try.underlying30 infoU8 rfl (by decide) (by decide) (.slice none 0 0) ([] : List Int) ct xA N xc (fun _ => True) (fun _ => False) rfl rfl (Kd.R_nil _ _ _ _ _) HCT.out (fun _ _ h => h) (fun _ h => h.elim) (fun _ _ => trivial) (Below.refl _ _) (Nat.le_refl _) (by simp; omega) ?_; intro u9 v1 hr1 hb3 hG _; rw [List.nil_append] at hr1; obtain ⟨A7, c7, hu9, -, -⟩ := Kd.R_reads hr1; rw [HCL.out] at hu9; subst hu9; have hvv := HB2.out.trans (hb3.mono (by have := HB2.out.size; omega)); obtain ⟨A3, c3, w3, W, hM⟩ := cr_mid HST.out HOK1.out (by omega) hvv (HB9.out.below hb3) hr1 (Nat.le_of_eq hz2.symm) HCL.out; have HM := Lib.hid hM; have e0 := hM.hW; have e1 := hM.p0; have e2 := hM.p1; have e3 := hM.m1; have e4 := hM.m2; have e5 := hM.mf2; have e6 := hM.q0; have e7 := hM.q1; have e8 := hM.q2; have e9 := hM.r6; have e10 := hM.t1; have e11 := hM.tf1; clear hM hr1 hvv hb3 hG))
                  go_roundw
                  case rel => exact ⟨k + 1, nx + 2, A3, c3, _, by omega, by go_num, by go_num, by omega, Lib.hid (HYS.out A7 c7), Lib.hid HM.out.st⟩
                  case measure => simp [intOf]; omega
      · have hnl : ¬ ((k : Int) < (xs.length : Int)) := by omega
        obtain rfl : k = xs.length := by omega
        have hre := HRE.out
        rw [hys.out, List.drop_length] at hre
        obtain ⟨hyc, hC3⟩ := hst.out.sh.cx hst.out.len
        have hrf := r_fin (ok := ok) (A := A') (xs := ys) cap xs.length c' (HB.out.trans (hst.out.below.mono HB.out.size)) (show w.heap.size ≤ w.heap.size + 1 by omega) (BZ.out.below hst.out.below) hC3 (fun e => e.elim (fun e => e.elim (fun e => by have := HOK.out _ e; omega) (fun e => by omega)) (fun e => by omega)) (fun k hk => hk.elim (fun hk => hk.imp id (fun h => by omega)) (fun h => .inr (by omega)))
        have z0 := hrf.z0
        have z1 := hrf.z1
        have zf0 := hrf.f0
        have zf1 := hrf.f1
        have HRF := Lib.hid hrf
        have HLEN := Lib.hid hst.out.len
        have HYS := Lib.hid (show ys.map flX = r by rw [← hre]; simp [crashL])
        have r60 := hst.out.b6.c 0 rfl
        have r61 := hst.out.b6.c 1 rfl
        clear hrf hC3 hst hys hre
        go_wp2_with (fail)
        refine bodyPost_ret (results_D (fn := Try.f51) (p := 4) rfl _ _ (w.heap.size + 1) cap (.slice A' xs.length c') rfl HRF.out.box) rfl ?_
        exact ⟨A', c', ys, by rw [HLEN.out], HYS.out, by rw [HLEN.out]; exact hyc, HRF.out.cx, HRF.out.below⟩
  · rw [decide_eq_false hm]
    have hre : xs.map flX = r := by rw [← HR.out]; unfold crashD; rw [if_neg hm]
    have hrf := r_fin (ok := ok) cap xs.length c hB (show w.heap.size ≤ w.heap.size + 1 by omega) bz hC1 (fun e => by have := HOK.out _ e; omega) (fun k hk => .inl hk)
    have z0 := hrf.z0
    have z1 := hrf.z1
    have zf0 := hrf.f0
    have zf1 := hrf.f1
    have HRF := Lib.hid hrf
    have HRE := Lib.hid hre
    clear hrf hre bx bz hC1 hB hb1 hm HR
    go_wp2_with (fail)
    refine bodyPost_ret (results_D (fn := Try.f51) (p := 4) rfl _ _ (w.heap.size + 1) cap (.slice A xs.length c) rfl HRF.out.box) rfl ?_
    exact ⟨A, c, xs, rfl, HRE.out, hc, HRF.out.cx, HRF.out.below⟩
end Go.Proofs.Ytahiigcofgnncaa.H

/-! Layer 6: mooringslaw06.ref, walked. -/
namespace Go.Proofs.Ytahiigcofgnncaa.H
open Go.RowKit Moor Go.Proofs.YtahiigcofgnncaaW.PrintWords Go.Proofs.YtahiigcofgnncaaW.PrintLast Go.Proofs.YtahiigcofgnncaaW.PrintMore
set_option linter.unusedVariables false
set_option linter.unusedSimpArgs false

theorem crashD_cap (d : Dk) (p : List Int) : (crashD d p).cap = d.cap := by unfold crashD; split <;> rfl
/-- The disk that is handed back, by way of two boxes. -/
structure RoFin (ok : Nat → Prop) (w w1 : World) (B7 B4 : Nat) (cap : Int) (A : Option Addr) (n c : Nat) (ys : List FX) : Prop where
  r0 : ((w1.setCell ⟨B7, 0, none⟩ (.int .i64 cap)).setCell ⟨B7, 1, none⟩ (.slice A n c)).cell? ⟨B7, 0, none⟩ = some (.int .i64 cap)
  r1 : ((w1.setCell ⟨B7, 0, none⟩ (.int .i64 cap)).setCell ⟨B7, 1, none⟩ (.slice A n c)).cell? ⟨B7, 1, none⟩ = some (.slice A n c)
  s0 : ((w1.setCell ⟨B7, 0, none⟩ (.int .i64 cap)).setCell ⟨B7, 1, none⟩ (.slice A n c)).cell? ⟨B4, 0, none⟩ = some (.int .i64 0)
  s1 : ((w1.setCell ⟨B7, 0, none⟩ (.int .i64 cap)).setCell ⟨B7, 1, none⟩ (.slice A n c)).cell? ⟨B4, 1, none⟩ = some (.slice none 0 0)
  q0 : ((w1.setCell ⟨B7, 0, none⟩ (.int .i64 cap)).setCell ⟨B7, 1, none⟩ (.slice A n c)).frozen? ⟨B4, 0, none⟩ = false
  q1 : ((w1.setCell ⟨B7, 0, none⟩ (.int .i64 cap)).setCell ⟨B7, 1, none⟩ (.slice A n c)).frozen? ⟨B4, 1, none⟩ = false
  box : BoxC ((((w1.setCell ⟨B7, 0, none⟩ (.int .i64 cap)).setCell ⟨B7, 1, none⟩ (.slice A n c)).setCell ⟨B4, 0, none⟩ (.int .i64 cap)).setCell ⟨B4, 1, none⟩ (.slice A n c)) B4 (cellsD cap A n c) 24
  cx : CX (fun k => ok k ∨ w.heap.size ≤ k) ((((w1.setCell ⟨B7, 0, none⟩ (.int .i64 cap)).setCell ⟨B7, 1, none⟩ (.slice A n c)).setCell ⟨B4, 0, none⟩ (.int .i64 cap)).setCell ⟨B4, 1, none⟩ (.slice A n c)) A ys
  below : Below w.heap.size w ((((w1.setCell ⟨B7, 0, none⟩ (.int .i64 cap)).setCell ⟨B7, 1, none⟩ (.slice A n c)).setCell ⟨B4, 0, none⟩ (.int .i64 cap)).setCell ⟨B4, 1, none⟩ (.slice A n c))
theorem ro_fin {ok : Nat → Prop} {w w0 w1 : World} {B7 B4 : Nat} {cap : Int} {A : Option Addr} {n c : Nat} {ys : List FX} {cs7 : Array Value} (hB0 : Below w.heap.size w w0) (h4 : w.heap.size ≤ B4) (h7 : w.heap.size ≤ B7) (hne : B4 ≠ B7) (h40 : B4 < w0.heap.size) (h70 : B7 < w0.heap.size) (b4 : BoxC w0 B4 (cellsD 0 none 0 0) 24) (b7 : BoxC w0 B7 cs7 24) (h2 : cs7.size = 2) (hok : ∀ k, ok k → k < w.heap.size) (hF : CX (fun k => ok k ∨ w0.heap.size ≤ k) w1 A ys) (hb : Below w0.heap.size w0 w1) : RoFin ok w w1 B7 B4 cap A n c ys := by
  match cs7, h2 with
  | ⟨[v0, v1]⟩, _ =>
    have k7 := b7.below hb
    have k4 := b4.below hb
    have s7 := (k7.set 0 (.int .i64 cap)).set 1 (.slice A n c)
    have s4 := (k4.other ⟨B7, 0, none⟩ (.int .i64 cap) hne).other ⟨B7, 1, none⟩ (.slice A n c) hne
    have hB := hB0.trans (hb.mono hB0.size)
    refine ⟨s7.c 0 rfl, s7.c 1 rfl, s4.c 0 rfl, s4.c 1 rfl, s4.f 0, s4.f 1, (s4.set 0 (.int .i64 cap)).set 1 (.slice A n c), (hF.moved (by simp) (fun k hk _ => ?_)).mono (fun k hk => hk.imp id (fun h => Nat.le_trans hB0.size h)), (((hB.setCell (p := ⟨B7, 0, none⟩) h7 _).setCell (p := ⟨B7, 1, none⟩) h7 _).setCell (p := ⟨B4, 0, none⟩) h4 _).setCell (p := ⟨B4, 1, none⟩) h4 _⟩
    have hk4 : k ≠ B4 := by rcases hk with hk | hk; (have := hok k hk; omega); omega
    have hk7 : k ≠ B7 := by rcases hk with hk | hk; (have := hok k hk; omega); omega
    exact (Below.heap_setCell _ _ _ k hk4).trans ((Below.heap_setCell _ _ _ k hk4).trans ((Below.heap_setCell _ _ _ k hk7).trans (Below.heap_setCell _ _ _ k hk7)))

set_option maxRecDepth 100000 in
set_option maxHeartbeats 16000000 in
theorem refDo_calls (cap : Int) (A : Option Addr) (c : Nat) (xs : List FX) (k no n : Int) (bA : Option Addr) (bc : Nat) (b : List Int) (pA : Option Addr) (pc : Nat) (p : List Int) (ok : Nat → Prop) (w : World) (hC : CX ok w A xs) (hc : xs.length ≤ c) (hl : xs.length ≤ 1000) (hok : ∀ k, ok k → k < w.heap.size) (hu : usedF (xs.map flX) ≤ 4611686018427387904) (hob : ∀ x ∈ xs, okB x.data)
    (hbC : Kd.C kB w bA b.length b) (hbc : b.length ≤ bc) (hbl : b.length ≤ 1000000) (hP : Kd.C (Kd.int .i64) w pA p.length p) (hpl : p.length ≤ 1000) (hpc : p.length ≤ pc) :
    Calls Try.prog 25 #[.agg (cellsD cap A xs.length c), .agg (cellsO k no n bA b.length bc pA p.length pc)] w (RefEEnd ok (doD ⟨cap, xs.map flX⟩ ⟨k, no, n, b, p⟩) w) := by
  obtain ⟨w0, hw0⟩ : ∃ w0, (((w.alloc (.cells (cellsD cap A xs.length c) 24)).alloc (.cells (cellsO k no n bA b.length bc pA p.length pc) 45)).alloc (.cells (cellsD 0 none 0 0) 24)).alloc (.cells (cellsD cap A xs.length c) 24) = w0 := ⟨_, rfl⟩
  have hb0 : Below w.heap.size w w0 := by rw [← hw0]; exact below_alloc (below_alloc (below_alloc (below_alloc (Below.refl _ _) _) _) _) _
  have hz0 : w0.heap.size = w.heap.size + 4 := by rw [← hw0]; simp
  have b0 : BoxC w0 (w.heap.size) (cellsD cap A xs.length c) 24 := by
    rw [← hw0]
    exact (((BoxC.new w _ _).alloc _).alloc _).alloc _
  have b1 : BoxC w0 (w.heap.size + 1) (cellsO k no n bA b.length bc pA p.length pc) 45 := by
    rw [← hw0]
    have h9 := BoxC.new (w.alloc (.cells (cellsD cap A xs.length c) 24)) (cellsO k no n bA b.length bc pA p.length pc) 45
    rw [World.size_alloc] at h9
    exact (h9.alloc _).alloc _
  have b4 : BoxC w0 (w.heap.size + 1 + 1) (cellsD 0 none 0 0) 24 := by
    rw [← hw0]
    have h9 := BoxC.new ((w.alloc (.cells (cellsD cap A xs.length c) 24)).alloc (.cells (cellsO k no n bA b.length bc pA p.length pc) 45)) (cellsD 0 none 0 0) 24
    simp only [World.size_alloc] at h9
    exact h9.alloc _
  have b7 : BoxC w0 (w.heap.size + 1 + 1 + 1) (cellsD cap A xs.length c) 24 := by
    rw [← hw0]
    have h9 := BoxC.new (((w.alloc (.cells (cellsD cap A xs.length c) 24)).alloc (.cells (cellsO k no n bA b.length bc pA p.length pc) 45)).alloc (.cells (cellsD 0 none 0 0) 24)) (cellsD cap A xs.length c) 24
    simp only [World.size_alloc] at h9
    exact h9
  have d0 := b0.c 0 rfl
  have d1 := b0.c 1 rfl
  have e0 := b1.c 0 rfl
  have e1 := b1.c 1 rfl
  have e2 := b1.c 2 rfl
  have e3 := b1.c 3 rfl
  have e4 := b1.c 4 rfl
  have HC := Lib.hid (hC.moved hb0.size (Agree.below hb0 hok))
  have HOK0 := Lib.hid (show ∀ k, ok k → k < w0.heap.size from fun k hk => by have := hok k hk; omega)
  have HBC := Lib.hid (Kd.C_below hbC hb0)
  have HPC := Lib.hid (Kd.C_below hP hb0)
  have HO := Lib.hid hob
  have HW0 := Lib.hid hw0
  have HX := Lib.hid (show ∀ (w1 : World) (cp : Int) (A1 : Option Addr) (n1 c1 : Nat) (ys : List FX), CX (fun k => ok k ∨ w0.heap.size ≤ k) w1 A1 ys → Below w0.heap.size w0 w1 → RoFin ok w w1 (w.heap.size + 1 + 1 + 1) (w.heap.size + 1 + 1) cp A1 n1 c1 ys from fun w1 cp A1 n1 c1 ys hF hb => ro_fin hb0 (by omega) (by omega) (by omega) (by omega) (by omega) b4 b7 rfl hok hF hb)
  have HY := Lib.hid (show ∀ (w1 : World), Below w0.heap.size w0 w1 → (w1.cell? ⟨w.heap.size + 1 + 1 + 1, 0, none⟩ = some (.int .i64 cap) ∧ w1.cell? ⟨w.heap.size + 1 + 1 + 1, 1, none⟩ = some (.slice A xs.length c)) ∧ w1.frozen? ⟨w.heap.size + 1 + 1 + 1, 0, none⟩ = false ∧ w1.frozen? ⟨w.heap.size + 1 + 1 + 1, 1, none⟩ = false from fun w1 hb => ⟨⟨(b7.below hb).c 0 rfl, (b7.below hb).c 1 rfl⟩, (b7.below hb).f 0, (b7.below hb).f 1⟩)
  clear hC hbC hP hob b0 b1 b4 b7 hb0 hz0 hok
  by_cases hk0 : k = 0
  · go_enter Try.func25, Try.ntmps25
    have hdo : doD ⟨cap, xs.map flX⟩ ⟨k, no, n, b, p⟩ = makeD ⟨cap, xs.map flX⟩ no := by unfold doD; dsimp only; rw [if_pos hk0]
    have q := refMake_calls cap no A c xs ok w0 HC.out hc hl HOK0.out hu
    rw [hdo]
    clear hdo
    generalize makeD ⟨cap, xs.map flX⟩ no = r at *
    obtain ⟨⟨cp, m⟩, er⟩ := r
    have Q := Lib.hid q
    clear q
    subst hk0
    go_wp2_with (fail)
    refine Q.out.mono ?_
    rintro e w1 ⟨A1, c1, ys, rfl, hys, hc1, hF1, hb1⟩
    dsimp only at hys hc1 hF1 ⊢
    have hX := HX.out w1 cp A1 ys.length c1 ys hF1 hb1
    have hY := HY.out w1 hb1
    have y0 := hY.1.1
    have y1 := hY.1.2
    have y2 := hY.2.1
    have y3 := hY.2.2
    have x0 := hX.r0
    have x1 := hX.r1
    have x2 := hX.s0
    have x3 := hX.s1
    have x4 := hX.q0
    have x5 := hX.q1
    have HXX := Lib.hid hX
    have HYS := Lib.hid hys
    clear hX hY hF1 hb1 d0 d1 e0 e1 e2 e3 e4 Q hys
    go_wp2_with (fail)
    refine bodyPost_ret (results_DE (fn := Try.f25) (p := 4) (t := 5) rfl _ _ (w.heap.size + 1 + 1) cp (.slice A1 ys.length c1) rfl HXX.out.box) rfl ?_
    exact ⟨A1, c1, ys, rfl, HYS.out, hc1, HXX.out.cx, HXX.out.below⟩
  by_cases hk1 : k = 1
  · go_enter Try.func25, Try.ntmps25
    have hdo : doD ⟨cap, xs.map flX⟩ ⟨k, no, n, b, p⟩ = writeD ⟨cap, xs.map flX⟩ no b := by unfold doD; dsimp only; rw [if_neg hk0, if_pos hk1]
    have q := refWrite_calls cap no A c xs bA bc b ok w0 HC.out hc hl HOK0.out hu HBC.out hbc hbl
    rw [hdo]
    clear hdo
    generalize writeD ⟨cap, xs.map flX⟩ no b = r at *
    obtain ⟨⟨cp, m⟩, er⟩ := r
    have Q := Lib.hid q
    clear q
    subst hk1
    clear hk0
    go_wp2_with (fail)
    refine Q.out.mono ?_
    rintro e w1 ⟨A1, c1, ys, rfl, hys, hc1, hF1, hb1⟩
    dsimp only at hys hc1 hF1 ⊢
    have hX := HX.out w1 cp A1 ys.length c1 ys hF1 hb1
    have hY := HY.out w1 hb1
    have y0 := hY.1.1
    have y1 := hY.1.2
    have y2 := hY.2.1
    have y3 := hY.2.2
    have x0 := hX.r0
    have x1 := hX.r1
    have x2 := hX.s0
    have x3 := hX.s1
    have x4 := hX.q0
    have x5 := hX.q1
    have HXX := Lib.hid hX
    have HYS := Lib.hid hys
    clear hX hY hF1 hb1 d0 d1 e0 e1 e2 e3 e4 Q hys
    go_wp2_with (fail)
    refine bodyPost_ret (results_DE (fn := Try.f25) (p := 4) (t := 5) rfl _ _ (w.heap.size + 1 + 1) cp (.slice A1 ys.length c1) rfl HXX.out.box) rfl ?_
    exact ⟨A1, c1, ys, rfl, HYS.out, hc1, HXX.out.cx, HXX.out.below⟩
  by_cases hk2 : k = 2
  · go_enter Try.func25, Try.ntmps25
    have hdo : doD ⟨cap, xs.map flX⟩ ⟨k, no, n, b, p⟩ = syncD ⟨cap, xs.map flX⟩ no := by unfold doD; dsimp only; rw [if_neg hk0, if_neg hk1, if_pos hk2]
    have q := refSync_calls cap no A c xs ok w0 HC.out hc hl HOK0.out hu
    rw [hdo]
    clear hdo
    generalize syncD ⟨cap, xs.map flX⟩ no = r at *
    obtain ⟨⟨cp, m⟩, er⟩ := r
    have Q := Lib.hid q
    clear q
    subst hk2
    clear hk0 hk1
    go_wp2_with (fail)
    refine Q.out.mono ?_
    rintro e w1 ⟨A1, c1, ys, rfl, hys, hc1, hF1, hb1⟩
    dsimp only at hys hc1 hF1 ⊢
    have hX := HX.out w1 cp A1 ys.length c1 ys hF1 hb1
    have hY := HY.out w1 hb1
    have y0 := hY.1.1
    have y1 := hY.1.2
    have y2 := hY.2.1
    have y3 := hY.2.2
    have x0 := hX.r0
    have x1 := hX.r1
    have x2 := hX.s0
    have x3 := hX.s1
    have x4 := hX.q0
    have x5 := hX.q1
    have HXX := Lib.hid hX
    have HYS := Lib.hid hys
    clear hX hY hF1 hb1 d0 d1 e0 e1 e2 e3 e4 Q hys
    go_wp2_with (fail)
    refine bodyPost_ret (results_DE (fn := Try.f25) (p := 4) (t := 5) rfl _ _ (w.heap.size + 1 + 1) cp (.slice A1 ys.length c1) rfl HXX.out.box) rfl ?_
    exact ⟨A1, c1, ys, rfl, HYS.out, hc1, HXX.out.cx, HXX.out.below⟩
  by_cases hk3 : k = 3
  · go_enter Try.func25, Try.ntmps25
    have hdo : doD ⟨cap, xs.map flX⟩ ⟨k, no, n, b, p⟩ = cutD ⟨cap, xs.map flX⟩ no n := by unfold doD; dsimp only; rw [if_neg hk0, if_neg hk1, if_neg hk2, if_pos hk3]
    have q := refCut_calls cap no A c xs n ok w0 HC.out hc hl HOK0.out hu
    rw [hdo]
    clear hdo
    generalize cutD ⟨cap, xs.map flX⟩ no n = r at *
    obtain ⟨⟨cp, m⟩, er⟩ := r
    have Q := Lib.hid q
    clear q
    subst hk3
    clear hk0 hk1 hk2
    go_wp2_with (fail)
    refine Q.out.mono ?_
    rintro e w1 ⟨A1, c1, ys, rfl, hys, hc1, hF1, hb1⟩
    dsimp only at hys hc1 hF1 ⊢
    have hX := HX.out w1 cp A1 ys.length c1 ys hF1 hb1
    have hY := HY.out w1 hb1
    have y0 := hY.1.1
    have y1 := hY.1.2
    have y2 := hY.2.1
    have y3 := hY.2.2
    have x0 := hX.r0
    have x1 := hX.r1
    have x2 := hX.s0
    have x3 := hX.s1
    have x4 := hX.q0
    have x5 := hX.q1
    have HXX := Lib.hid hX
    have HYS := Lib.hid hys
    clear hX hY hF1 hb1 d0 d1 e0 e1 e2 e3 e4 Q hys
    go_wp2_with (fail)
    refine bodyPost_ret (results_DE (fn := Try.f25) (p := 4) (t := 5) rfl _ _ (w.heap.size + 1 + 1) cp (.slice A1 ys.length c1) rfl HXX.out.box) rfl ?_
    exact ⟨A1, c1, ys, rfl, HYS.out, hc1, HXX.out.cx, HXX.out.below⟩
  by_cases hk4 : k = 4
  · go_enter Try.func25, Try.ntmps25
    have hdo : doD ⟨cap, xs.map flX⟩ ⟨k, no, n, b, p⟩ = dropD ⟨cap, xs.map flX⟩ no := by unfold doD; dsimp only; rw [if_neg hk0, if_neg hk1, if_neg hk2, if_neg hk3, if_pos hk4]
    have q := refDrop_calls cap no A c xs ok w0 HC.out hc hl HOK0.out hu
    rw [hdo]
    clear hdo
    generalize dropD ⟨cap, xs.map flX⟩ no = r at *
    obtain ⟨⟨cp, m⟩, er⟩ := r
    have Q := Lib.hid q
    clear q
    subst hk4
    clear hk0 hk1 hk2 hk3
    go_wp2_with (fail)
    refine Q.out.mono ?_
    rintro e w1 ⟨A1, c1, ys, rfl, hys, hc1, hF1, hb1⟩
    dsimp only at hys hc1 hF1 ⊢
    have hX := HX.out w1 cp A1 ys.length c1 ys hF1 hb1
    have hY := HY.out w1 hb1
    have y0 := hY.1.1
    have y1 := hY.1.2
    have y2 := hY.2.1
    have y3 := hY.2.2
    have x0 := hX.r0
    have x1 := hX.r1
    have x2 := hX.s0
    have x3 := hX.s1
    have x4 := hX.q0
    have x5 := hX.q1
    have HXX := Lib.hid hX
    have HYS := Lib.hid hys
    clear hX hY hF1 hb1 d0 d1 e0 e1 e2 e3 e4 Q hys
    go_wp2_with (fail)
    refine bodyPost_ret (results_DE (fn := Try.f25) (p := 4) (t := 5) rfl _ _ (w.heap.size + 1 + 1) cp (.slice A1 ys.length c1) rfl HXX.out.box) rfl ?_
    exact ⟨A1, c1, ys, rfl, HYS.out, hc1, HXX.out.cx, HXX.out.below⟩
  go_enter Try.func25, Try.ntmps25
  have hdo : doD ⟨cap, xs.map flX⟩ ⟨k, no, n, b, p⟩ = (crashD ⟨cap, xs.map flX⟩ p, 0) := by unfold doD; dsimp only; rw [if_neg hk0, if_neg hk1, if_neg hk2, if_neg hk3, if_neg hk4]
  have q := refCrash_calls cap A c xs pA pc p ok w0 HC.out hc hl HOK0.out hu HPC.out hpl HO.out
  rw [hdo]
  clear hdo
  have hcp := crashD_cap ⟨cap, xs.map flX⟩ p
  generalize crashD ⟨cap, xs.map flX⟩ p = r at *
  obtain ⟨cp, m⟩ := r
  dsimp only at hcp q
  rw [← hcp] at q
  have HCP := Lib.hid hcp
  clear hcp
  have Q := Lib.hid q
  clear q
  go_wp2_with (fail)
  have q2 := Q.out
  rw [HCP.out] at q2
  refine q2.mono ?_
  rintro e w1 ⟨A1, c1, ys, rfl, hys, hc1, hF1, hb1⟩
  rw [show cap = cp from HCP.out.symm]
  dsimp only at hys hc1 hF1 ⊢
  have hX := HX.out w1 cp A1 ys.length c1 ys hF1 hb1
  have hY := HY.out w1 hb1
  have y0 := hY.1.1
  have y1 := hY.1.2
  have y2 := hY.2.1
  have y3 := hY.2.2
  have x0 := hX.r0
  have x1 := hX.r1
  have x2 := hX.s0
  have x3 := hX.s1
  have x4 := hX.q0
  have x5 := hX.q1
  have HXX := Lib.hid hX
  have HYS := Lib.hid hys
  clear hX hY hF1 hb1 d0 d1 e0 e1 e2 e3 e4 Q hys
  go_wp2_with (fail)
  refine bodyPost_ret (results_DE (fn := Try.f25) (p := 4) (t := 5) rfl _ _ (w.heap.size + 1 + 1) cp (.slice A1 ys.length c1) rfl HXX.out.box) rfl ?_
  exact ⟨A1, c1, ys, rfl, HYS.out, hc1, HXX.out.cx, HXX.out.below⟩
end Go.Proofs.Ytahiigcofgnncaa.H
