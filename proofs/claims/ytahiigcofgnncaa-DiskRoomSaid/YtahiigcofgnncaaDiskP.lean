import Derived.Test.YtahiigcofgnncaaDiskO
import Derived.IntWalk
/-! Layer 6: the reference's used, May, walked. -/
namespace Go.Proofs.Ytahiigcofgnncaa.H
open Go.RowKit Moor Go.Proofs.YtahiigcofgnncaaW.PrintWords Go.Proofs.YtahiigcofgnncaaW.PrintLast Go.Proofs.YtahiigcofgnncaaW.PrintMore
set_option linter.unusedVariables false
set_option linter.unusedSimpArgs false

set_option maxRecDepth 100000 in
set_option maxHeartbeats 4000000 in
theorem refUsed_calls (A : Option Addr) (c : Nat) (l : List Fl) (w : World) (hR : Kd.C kF w A l.length l) (hc : l.length ≤ c) (hu : usedF l ≤ 4611686018427387904) :
    Calls Try.prog 40 #[.slice A l.length c] w fun e w' => e = .returned (.int .i64 (usedF l)) ∧ Below w.heap.size w w' := by
  have hll : l.length ≤ 9223372036854775807 := Kd.C_max hR
  go_enter Try.func40, Try.ntmps40
  go_wp2_with (fail)
  go_loopw [3, 4] (fun s i wr => ∃ k : Nat, k ≤ l.length ∧ i = .int .i64 (k : Int) ∧ s = .int .i64 (usedF (l.take k) : Int) ∧ Below w.heap.size w wr) (fun _ i _ => l.length - (intOf i).toNat)
  case atStart => exact ⟨0, Nat.zero_le _, rfl, rfl, Below.refl _ _⟩
  case round =>
    obtain ⟨k, hk, rfl, rfl, hB⟩ := hrel
    by_cases hlt : k < l.length
    · have hlti : (k : Int) < (l.length : Int) := by omega
      obtain ⟨ad, A1, c1, rfl, h0, h1, h2, -, -⟩ := file_at (Kd.C_below hR hB) k hlt
      have hs := usedF_take_succ l k hlt
      have hle := usedF_take_le l (k + 1)
      generalize usedF (l.take k) = u at *
      obtain ⟨u2, hu2⟩ : ∃ u2, usedF (l.take (k + 1)) = u2 := ⟨_, rfl⟩
      rw [hu2] at hs hle
      generalize l[k].data.length = n at *
      have HS := Lib.hid (hu2.trans hs)
      have hun : u + n ≤ 4611686018427387904 := by omega
      clear hs hle hu2
      go_wp2_with (fail)
      go_roundw
      case rel => exact ⟨k + 1, by omega, by go_num, by rw [HS.out]; go_num, hB⟩
      case measure => simp [intOf]; omega
    · have hnl : ¬ ((k : Int) < (l.length : Int)) := by omega
      obtain rfl : k = l.length := by omega
      rw [List.take_length] at *
      go_wp2_with (fail)
      go_ret
      exact ⟨rfl, hB⟩
set_option maxRecDepth 100000 in
set_option maxHeartbeats 8000000 in
theorem refMay_calls (cap : Int) (A : Option Addr) (c : Nat) (l : List Fl) (w : World) (hR : Kd.C kF w A l.length l) (hc : l.length ≤ c) (hll : l.length ≤ 1000000) (hu : usedF l ≤ 4611686018427387904) :
    Calls Try.prog 17 #[.agg (cellsD cap A l.length c)] w fun e w' => e = .returned (.bool (decide (mayD ⟨cap, l⟩))) ∧ Below w.heap.size w w' := by
  have bD := BoxC.new w (cellsD cap A l.length c) 24
  have hb0 := below_alloc (Below.refl w.heap.size w) (.cells (cellsD cap A l.length c) 24)
  obtain ⟨b, hbb⟩ : ∃ b, decide (mayD ⟨cap, l⟩) = b := ⟨_, rfl⟩
  rw [hbb]
  have HB := Lib.hid hbb
  have HR := Lib.hid hR
  have d0 := bD.c 0 rfl
  have d1 := bD.c 1 rfl
  clear hbb hR
  go_enter Try.func17, Try.ntmps17
  go_wp2_with (fail)
  go_loopw [3] (fun i wr => ∃ (k : Nat) (p : Int), k ≤ l.length ∧ i = .int .i64 (k : Int) ∧ 0 ≤ p ∧ Hid ((k = 0 → p = 0) ∧ (∀ h : k - 1 < l.length, 0 < k → l[k - 1].no = p)) ∧ Hid (risF 0 l ↔ risF p (l.drop k)) ∧ BoxC wr w.heap.size (cellsD cap A l.length c) 24 ∧ Below w.heap.size w wr) (fun i _ => l.length - (intOf i).toNat)
  case atStart => exact ⟨0, 0, Nat.zero_le _, rfl, by omega, Lib.hid ⟨fun _ => rfl, fun _ h => absurd h (by omega)⟩, Lib.hid Iff.rfl, bD, hb0⟩
  case round =>
    clear bD hb0 d0 d1
    obtain ⟨k, p, hk, rfl, hp0, hpk, hs, bD, hB⟩ := hrel
    by_cases hlt : k < l.length
    · have hlti : (k : Int) < (l.length : Int) := by omega
      obtain ⟨ad, A1, c1, rfl, h0, h1, h2, -, -⟩ := file_at (Kd.C_below HR.out hB) k hlt
      have hst := hs.out.trans (risF_drop l p k hlt)
      obtain ⟨w1, hw1⟩ : ∃ w1, wr.alloc (.cells #[.int .i64 l[k].no, .slice A1 l[k].data.length c1, .int .i64 l[k].sure] 32) = w1 := ⟨_, rfl⟩
      have hb1 : Below wr.heap.size wr w1 := by rw [← hw1]; exact below_alloc (Below.refl _ _) _
      have b1 : BoxC w1 wr.heap.size #[.int .i64 l[k].no, .slice A1 l[k].data.length c1, .int .i64 l[k].sure] 32 := by rw [← hw1]; exact BoxC.new _ _ _
      have hB1 : Below w.heap.size w w1 := hB.trans (hb1.mono hB.size)
      have bD1 := bD.below hb1
      have e0 := bD.c 0 rfl
      have e1 := bD.c 1 rfl
      have f0 := b1.c 0 rfl
      have f1 := b1.c 1 rfl
      have f2 := b1.c 2 rfl
      have g0 := bD1.c 0 rfl
      have g1 := bD1.c 1 rfl
      have hnk : ∀ h : k + 1 - 1 < l.length, 0 < k + 1 → l[k + 1 - 1].no = l[k].no := fun _ _ => rfl
      have HPREV := Lib.hid (show 0 < k → w1.cell? (ad.add ((k - 1) * 3)) = some (.int .i64 p) from fun h => by
        have hk1 : k - 1 < l.length := by omega
        obtain ⟨ad2, A2, c2, e, q0, -⟩ := file_at (Kd.C_below HR.out hB1) (k - 1) hk1
        cases e
        rw [q0, hpk.out.2 hk1 h])
      obtain ⟨no, hno⟩ : ∃ no, l[k].no = no := ⟨_, rfl⟩
      have HNK := Lib.hid (show ∀ h : k + 1 - 1 < l.length, 0 < k + 1 → l[k + 1 - 1].no = no from fun h h2 => hno)
      rw [hno] at hst hw1 b1 f0 h0
      clear hno
      generalize l[k].sure = sr at *
      generalize l[k].data.length = dn at *
      have HST := Lib.hid hst
      have BD1 := Lib.hid bD1
      have hdn : (dn : Int) ≤ 9223372036854775807 ∨ True := .inr trivial
      clear hst hs bD bD1 hb1 b1 hnk hdn
      have bad : (¬ (p < no ∧ no ≤ 1073741824 ∧ 0 ≤ sr ∧ sr ≤ (dn : Int))) → b = false := fun h => by
        rw [← HB.out]
        exact decide_eq_false (fun g => h (by obtain ⟨a1, a2, a3, a4, a5⟩ := HST.out.1 g.1; exact ⟨a1, a2, a3, a4⟩))
      have BAD := Lib.hid bad
      clear bad
      by_cases hk0 : k = 0
      · have hpz : p = 0 := hpk.out.1 hk0
        subst hpz
        have hk1 : ¬ (0 : Int) < (k : Int) := by omega
        have hk2 : decide ((0 : Int) < (k : Int)) = false := decide_eq_false hk1
        have hk3 : ¬ 0 < k := by omega
        have hk4 : decide (0 < k) = false := decide_eq_false hk3
        clear hk0
        by_cases g4 : no < (1 : Int)
        · have d14 := decide_eq_true g4
          go_wp2_with (fail)
          go_quiet (fail)
          all_goals
            go_wp2_with (fail)
            go_ret
            exact ⟨by rw [BAD.out (by omega)]; rfl, pw_below_drewN hB1 _⟩
        · have d14 := decide_eq_false g4
          by_cases g3 : (1073741824 : Int) < no
          · have d13 := decide_eq_true g3
            go_wp2_with (fail)
            go_quiet (fail)
            all_goals
              go_wp2_with (fail)
              go_ret
              exact ⟨by rw [BAD.out (by omega)]; rfl, pw_below_drewN hB1 _⟩
          · have d13 := decide_eq_false g3
            by_cases g2 : sr < (0 : Int)
            · have d12 := decide_eq_true g2
              go_wp2_with (fail)
              go_quiet (fail)
              all_goals
                go_wp2_with (fail)
                go_ret
                exact ⟨by rw [BAD.out (by omega)]; rfl, pw_below_drewN hB1 _⟩
            · have d12 := decide_eq_false g2
              by_cases g1 : (dn : Int) < sr
              · have d11 := decide_eq_true g1
                go_wp2_with (fail)
                go_quiet (fail)
                all_goals
                  go_wp2_with (fail)
                  go_ret
                  exact ⟨by rw [BAD.out (by omega)]; rfl, pw_below_drewN hB1 _⟩
              · have d11 := decide_eq_false g1
                go_wp2_with (fail)
                go_quiet (fail)
                all_goals
                  go_wp2_with (fail)
                  go_roundw
                  case rel => exact ⟨k + 1, no, by omega, by go_num, by omega, Lib.hid ⟨fun h => absurd h (by omega), HNK.out⟩, Lib.hid (HST.out.trans ⟨fun h => h.2.2.2.2, fun h => ⟨by omega, by omega, by omega, by omega, h⟩⟩), BD1.out, pw_below_drewN hB1 _⟩
                  case measure => simp [intOf]; omega
      · obtain ⟨j, rfl⟩ : ∃ j, k = j + 1 := ⟨k - 1, by omega⟩
        have hj0 : (0 : Int) < (j : Int) + 1 := by omega
        have hjl : (j : Int) < (l.length : Int) := by omega
        have hpr : w1.cell? (ad.add (j * 3)) = some (.int .i64 p) := HPREV.out (by omega)
        have hwj : IntKind.i64.wrap (j : Int) = (j : Int) := i64_of (by omega) (by omega)
        have hwj2 : IntKind.i64.wrap ((j : Int) + 1 - 1) = (j : Int) := i64_of (by omega) (by omega) |>.trans (by omega)
        by_cases g5 : no < (1 : Int)
        · have d15 := decide_eq_true g5
          go_wp2_with (fail)
          go_quiet (fail)
          all_goals
            go_wp2_with (fail)
            go_ret
            exact ⟨by rw [BAD.out (by omega)]; rfl, pw_below_drewN hB1 _⟩
        · have d15 := decide_eq_false g5
          by_cases g4 : (1073741824 : Int) < no
          · have d14 := decide_eq_true g4
            go_wp2_with (fail)
            go_quiet (fail)
            all_goals
              go_wp2_with (fail)
              go_ret
              exact ⟨by rw [BAD.out (by omega)]; rfl, pw_below_drewN hB1 _⟩
          · have d14 := decide_eq_false g4
            by_cases g3 : no ≤ p
            · have d13 := decide_eq_true g3
              go_wp2_with (fail)
              go_quiet (fail)
              all_goals
                go_wp2_with (fail)
                go_ret
                exact ⟨by rw [BAD.out (by omega)]; rfl, pw_below_drewN hB1 _⟩
            · have d13 := decide_eq_false g3
              by_cases g2 : sr < (0 : Int)
              · have d12 := decide_eq_true g2
                go_wp2_with (fail)
                go_quiet (fail)
                all_goals
                  go_wp2_with (fail)
                  go_ret
                  exact ⟨by rw [BAD.out (by omega)]; rfl, pw_below_drewN hB1 _⟩
              · have d12 := decide_eq_false g2
                by_cases g1 : (dn : Int) < sr
                · have d11 := decide_eq_true g1
                  go_wp2_with (fail)
                  go_quiet (fail)
                  all_goals
                    go_wp2_with (fail)
                    go_ret
                    exact ⟨by rw [BAD.out (by omega)]; rfl, pw_below_drewN hB1 _⟩
                · have d11 := decide_eq_false g1
                  go_wp2_with (fail)
                  go_quiet (fail)
                  all_goals
                    go_wp2_with (fail)
                    go_roundw
                    case rel => exact ⟨(j + 1) + 1, no, by omega, by go_num, by omega, Lib.hid ⟨fun h => absurd h (by omega), HNK.out⟩, Lib.hid (HST.out.trans ⟨fun h => h.2.2.2.2, fun h => ⟨by omega, by omega, by omega, by omega, h⟩⟩), BD1.out, pw_below_drewN hB1 _⟩
                    case measure => simp [intOf]; omega
    · have hnl : ¬ ((k : Int) < (l.length : Int)) := by omega
      obtain rfl : k = l.length := by omega
      have d0 := bD.c 0 rfl
      have d1 := bD.c 1 rfl
      have hris : risF 0 l := hs.out.2 (by rw [List.drop_length]; trivial)
      have hf : (0 ≤ cap ∧ cap ≤ 65536 ∧ l.length ≤ 12 ∧ (usedF l : Int) ≤ cap) ↔ b = true := by
        rw [← HB.out, decide_eq_true_iff, mayD_iff]
        exact ⟨fun h => ⟨hris, h⟩, fun h => h.2⟩
      have HF := Lib.hid hf
      have BD := Lib.hid bD
      clear hf hris hs bD
      have no : ∀ h : ¬ (0 ≤ cap ∧ cap ≤ 65536 ∧ l.length ≤ 12 ∧ (usedF l : Int) ≤ cap), b = false := fun h => by
        cases b with
        | false => rfl
        | true => exact absurd (HF.out.2 rfl) h
      have NO := Lib.hid no
      clear no
      by_cases g1 : cap < 0
      · have n1 : decide ((0 : Int) ≤ cap) = false := decide_eq_false (by omega)
        go_wp2_with (fail)
        go_quiet (fail)
        all_goals
          go_wp2_with (fail)
          go_ret
          exact ⟨by rw [NO.out (by omega)]; rfl, pw_below_drewN hB _⟩
      · have n1 : (0 : Int) ≤ cap := by omega
        by_cases g2 : 65536 < cap
        · have n2 : decide (cap ≤ (65536 : Int)) = false := decide_eq_false (by omega)
          go_wp2_with (fail)
          go_quiet (fail)
          all_goals
            go_wp2_with (fail)
            go_ret
            exact ⟨by rw [NO.out (by omega)]; rfl, pw_below_drewN hB _⟩
        · have n2 : cap ≤ 65536 := by omega
          by_cases g3 : 12 < l.length
          · have g3i : decide ((l.length : Int) ≤ 12) = false := decide_eq_false (by omega)
            go_wp2_with (fail)
            go_quiet (fail)
            all_goals
              go_wp2_with (fail)
              go_ret
              exact ⟨by rw [NO.out (by omega)]; rfl, pw_below_drewN hB _⟩
          · have g3i : (l.length : Int) ≤ 12 := by omega
            have HU := Lib.hid (Kd.C_below HR.out hB)
            have HSS := Lib.hid (show ∀ W, Below wr.heap.size wr W → Below wr.heap.size wr W ∧ W.cell? ⟨w.heap.size, 0, none⟩ = some (.int .i64 cap) ∧ W.cell? ⟨w.heap.size, 1, none⟩ = some (.slice A l.length c) from fun W h => ⟨h, (BD.out.below h).c 0 rfl, (BD.out.below h).c 1 rfl⟩)
            have D0 := Lib.hid (show Below wr.heap.size wr wr.drew from (Below.refl _ wr).drew)
            obtain ⟨u, hu1⟩ : ∃ u, usedF l = u := ⟨_, rfl⟩
            rw [hu1] at HF NO
            have HU1 := Lib.hid hu1
            clear hu1
            by_cases g4 : (u : Int) ≤ cap
            · have hbt : b = true := HF.out.1 ⟨by omega, by omega, by omega, g4⟩
              subst hbt
              go_wp2_with (fail)
              go_region_held3 (fun W => Below wr.heap.size wr W ∧ W.cell? ⟨w.heap.size, 0, none⟩ = some (.int .i64 cap) ∧ W.cell? ⟨w.heap.size, 1, none⟩ = some (.slice A l.length c))
                (first | (with_reducible exact HSS.out _ D0.out) | (with_reducible exact HSS.out _ D1.out))
                ((go_at_call 40; refine (refUsed_calls A c l _ (Kd.C_below HU.out D0.out) hc hu).mono ?_; rintro e v1 ⟨rfl, hq1⟩; rw [HU1.out]; have D1 := Lib.hid (below_onR hq1 D0.out)))
              all_goals
                go_wp2_with (fail)
                go_ret
                exact ⟨rfl, hB.trans (D1.out.mono hB.size)⟩
            · have hbt : b = false := NO.out (by omega)
              subst hbt
              go_wp2_with (fail)
              go_region_held3 (fun W => Below wr.heap.size wr W ∧ W.cell? ⟨w.heap.size, 0, none⟩ = some (.int .i64 cap) ∧ W.cell? ⟨w.heap.size, 1, none⟩ = some (.slice A l.length c))
                (first | (with_reducible exact HSS.out _ D0.out) | (with_reducible exact HSS.out _ D1.out))
                ((go_at_call 40; refine (refUsed_calls A c l _ (Kd.C_below HU.out D0.out) hc hu).mono ?_; rintro e v1 ⟨rfl, hq1⟩; rw [HU1.out]; have D1 := Lib.hid (below_onR hq1 D0.out)))
              all_goals
                go_wp2_with (fail)
                go_ret
                exact ⟨by simp [g4], hB.trans (D1.out.mono hB.size)⟩
end Go.Proofs.Ytahiigcofgnncaa.H
