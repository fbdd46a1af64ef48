import Derived.Test.YtajofhjlkaenhaaPoolT
import Derived.Deep.RegionHeld
import Derived.Deep.QuietTactic
import Derived.BigQuiet
/-! Layer 11: the reference's Add and Drain, walked. -/
namespace Go.Proofs.Ytajofhjlkaenhaa.H
open Go.RowKit Go.Proofs.YtajofhjlkaenhaaW.PrintWords Go.Proofs.YtajofhjlkaenhaaW.PrintLast Go.Proofs.YtajofhjlkaenhaaW.PrintMore
set_option linter.unusedVariables false
set_option linter.unusedSimpArgs false

theorem poolEnd_mk {r : List Pl × Int} {A : Option Addr} {c : Nat} {l : List Pl} {w w' : World} {x : Int} (hr : r = (l, x)) (hc : l.length ≤ c) (hC : Kd.C kP w' A l.length l) (hb : Below w.heap.size w w') :
    PoolEnd r w (.returned (.tuple #[.slice A l.length c, .int .i64 x])) w' := by
  subst hr
  exact ⟨A, c, rfl, hc, hC, hb⟩
theorem BoxP.grown {w3 w4 : World} {B0 : Nat} {p : Pl} {o : Option Nat} (h : w3.grownBy w4 o) (hb : BoxP w3 B0 p) (ho : some B0 ≠ o) : BoxP w4 B0 p := (h.block B0 (blk_lt hb) ho).trans hb
theorem one_pool (w : World) (p : Pl) : Kd.C kP (w.alloc (.cells #[.int .i64 p.f0, .int .i64 p.f1, .int .i64 p.f2] 27)) (some ⟨w.heap.size, 0, none⟩) ([p] : List Pl).length [p] := by
  refine ⟨rfl, by simp, fun _ => ⟨_, rfl, fun j q hj => ?_⟩⟩
  cases j with
  | zero =>
    obtain rfl : p = q := by simpa using hj
    refine ⟨encP p, rfl, B.k27_mk _ _, fun i u hu => ?_⟩
    rw [add_plain, blk_cell (heap_alloc_new w _)]
    simpa using hu
  | succ j => simp at hj

set_option maxRecDepth 100000 in
set_option maxHeartbeats 8000000 in
theorem refAdd_calls (A : Option Addr) (c : Nat) (l : List Pl) (out from_ n : Int) (w : World) (hR : Kd.C kP w A l.length l) (hc : l.length ≤ c) (hl : l.length ≤ 1000) :
    Calls Try.prog 17 #[.slice A l.length c, .int .i64 out, .int .i64 from_, .int .i64 n] w (PoolEnd (addR out ⟨from_, n, 0⟩ l) w) := by
  have HR := Lib.hid hR
  clear hR
  go_enter Try.func17, Try.ntmps17
  go_wp2_with (fail)
  have q := B.mooringsref11_May.calls 100 A c l out _ w HR.out hc (refMay_tells l out)
  refine q.mono ?_
  clear q
  rintro e w1 ⟨rfl, hb1⟩
  have hB1 : Below w.heap.size w w1 := hb1
  clear hb1
  have hB1a : Below w.heap.size w (w1.alloc (.cells #[.int .i64 from_, .int .i64 n, .int .i64 0] 27)) := below_alloc hB1 _
  have BP := Lib.hid (BoxP.new w1 ⟨from_, n, 0⟩)
  obtain ⟨rf, hrf⟩ := refFits_some ⟨from_, n, 0⟩ out
  have HRF := Lib.hid hrf
  clear hrf
  go_wp2_with (fail)
  refine (B.mooringsref11_fits.calls from_ n 0 out rf _ HRF.out).mono ?_
  rintro e w2 ⟨rfl, hb2⟩
  have hB2 : Below w.heap.size w w2 := hB1a.trans (hb2.mono hB1a.size)
  have bP2 : BoxP w2 w1.heap.size ⟨from_, n, 0⟩ := BP.out.below hb2
  have hC2 := Kd.C_below HR.out hB2
  clear hb2 BP hB1a
  cases hm : maysP l out with
  | false =>
    have HE := Lib.hid (show addR out ⟨from_, n, 0⟩ l = (l, 1) by unfold addR wrongAdd; rw [hm]; rfl)
    clear hm
    go_wp2_with (fail)
    refine bodyPost_ret (results_tmp2 (fn := Try.f17) (t := 8) (u := 9) rfl _ _ _) rfl ?_
    exact poolEnd_mk HE.out hc hC2 hB2
  | true =>
    have ho := mays_out hm
    have hff : rf = fitsP ⟨from_, n, 0⟩ out := by
      have h1 := refFits_tells ⟨from_, n, 0⟩ out ho.2.1
      have h2 := HRF.out
      rw [h1] at h2
      exact (Option.some.inj h2).symm
    have hw0 : wrongAdd out ⟨from_, n, 0⟩ l = roomP out l (-1) ⟨from_, n, 0⟩ := by unfold wrongAdd; rw [hm]; rfl
    cases hf : fitsP ⟨from_, n, 0⟩ out with
    | false =>
      rw [hf] at hff
      subst hff
      have HE := Lib.hid (show addR out ⟨from_, n, 0⟩ l = (l, 1) by
        have : wrongAdd out ⟨from_, n, 0⟩ l = 1 := by rw [hw0]; unfold roomP; rw [if_pos hf]
        unfold addR
        rw [if_neg (by rw [this]; decide), this])
      clear hm hf hw0 HRF
      go_wp2_with (fail)
      refine bodyPost_ret (results_tmp2 (fn := Try.f17) (t := 8) (u := 9) rfl _ _ _) rfl ?_
      exact poolEnd_mk HE.out hc hC2 hB2
    | true =>
      rw [hf] at hff
      subst hff
      have HO := Lib.hid (refOthers_tells hm (-1) hf)
      have k0 := bP2.c0
      have k1 := bP2.c1
      have k2 := bP2.c2
      have B2 := Lib.hid bP2
      have HW := Lib.hid hw0
      have HF := Lib.hid hf
      have HM := Lib.hid hm
      dsimp only at k0 k1 k2
      clear hm hf hw0 HRF bP2
      go_wp2_with (fail)
      have q := B.mooringsref11_others.calls 100 A c l (-1) from_ n 0 _ w2 hC2 hc HO.out
      refine q.mono ?_
      clear q
      rintro e w3 ⟨rfl, hb3⟩
      have hB3 : Below w.heap.size w w3 := hB2.trans (hb3.mono hB2.size)
      have hC3 := Kd.C_below HR.out hB3
      have B3 := Lib.hid (B2.out.below hb3)
      clear hb3 k0 k1 k2 B2 hC2
      cases hoth : othersP ⟨from_, n, 0⟩ (-1) l 0 with
      | true =>
        have HE := Lib.hid (show addR out ⟨from_, n, 0⟩ l = (l, 11) by
          have : wrongAdd out ⟨from_, n, 0⟩ l = 11 := by rw [HW.out]; unfold roomP; rw [if_neg (by rw [HF.out]; decide), if_pos hoth]
          unfold addR
          rw [if_neg (by rw [this]; decide), this])
        clear hoth HO
        go_wp2_with (fail)
        refine bodyPost_ret (results_tmp2 (fn := Try.f17) (t := 8) (u := 9) rfl _ _ _) rfl ?_
        exact poolEnd_mk HE.out hc hC3 hB3
      | false =>
        by_cases h3 : l.length = 3
        · have HE := Lib.hid (show addR out ⟨from_, n, 0⟩ l = (l, 9) by
            have : wrongAdd out ⟨from_, n, 0⟩ l = 9 := by rw [HW.out]; unfold roomP; rw [if_neg (by rw [HF.out]; decide), if_neg (by rw [hoth]; decide), if_pos ⟨rfl, h3⟩]
            unfold addR
            rw [if_neg (by rw [this]; decide), this])
          have hlb : ((l.length : Int) == 3) = true := by rw [beq_iff_eq]; omega
          clear hoth HO h3
          go_wp2_with (fail)
          refine bodyPost_ret (results_tmp2 (fn := Try.f17) (t := 8) (u := 9) rfl _ _ _) rfl ?_
          exact poolEnd_mk HE.out hc hC3 hB3
        · have HE := Lib.hid (show addR out ⟨from_, n, 0⟩ l = (l ++ [⟨from_, n, 0⟩], 0) by
            have : wrongAdd out ⟨from_, n, 0⟩ l = 0 := by rw [HW.out]; unfold roomP; rw [if_neg (by rw [HF.out]; decide), if_neg (by rw [hoth]; decide), if_neg (fun h => h3 h.2)]
            unfold addR
            rw [if_pos this])
          have hlb : ((l.length : Int) == 3) = false := by rw [beq_eq_false_iff_ne]; omega
          clear hoth HO h3
          have HC3 := Lib.hid hC3
          have hs3 : w.heap.size ≤ w3.heap.size := hB3.size
          clear hC3
          go_wp2_with (first | (at_builtin; refine Kd.R_append_rows kP (Rr := fun x cs => kP.K w3 x cs) (w0 := w) w.heap.size rfl _ _ 22 27 (.agg #[(.int .i64 0), (.int .i64 0), (.int .i64 0)]) 24 rfl Try.underlying22 infoP rfl (by decide) (by decide) (.slice none 0 0) [] l A l.length c (fun _ => True) (fun _ => False) rfl rfl (Kd.R_nil _ _ _ _ _) HC3.out (fun _ _ h => kP_KM h) (fun _ h => h.elim) (fun _ _ => trivial) hB3 hs3 (by simp; omega) ?_; intro v4 w4 hR4 hB4 hG4 _; have B4 := BoxP.grown hG4 B3.out (by simp [Value.ownBlock]); have z0 := B4.c0; have z1 := B4.c1; have z2 := B4.c2; have HRA := Lib.hid (Kd.R_alloc hR4 (.cells #[.int .i64 from_, .int .i64 n, .int .i64 0] 27)); have HCA := Lib.hid (one_pool w4 ⟨from_, n, 0⟩); have hBa := below_alloc hB4 (.cells #[.int .i64 from_, .int .i64 n, .int .i64 0] 27); have hsz := hBa.size; dsimp only at z0 z1 z2; clear hR4 B4 HC3) | (at_builtin; refine Kd.R_append_rows kP (Rr := fun x cs => kP.K _ x cs) (w0 := w) w.heap.size rfl _ _ 22 27 (.agg #[(.int .i64 0), (.int .i64 0), (.int .i64 0)]) 24 rfl Try.underlying22 infoP rfl (by decide) (by decide) v4 ([] ++ l) [⟨from_, n, 0⟩] (some ⟨w4.heap.size, 0, none⟩) 1 1 (fun _ => True) (fun _ => False) rfl rfl HRA.out HCA.out (fun _ _ h => kP_KM h) (fun _ h => h.elim) (fun _ _ => trivial) hBa hsz (by simp; omega) ?_; intro v5 w5 hR5 hB5 hG5 _))
          obtain ⟨A5, q5, rfl, hq5, hC5⟩ := Kd.R_reads hR5
          refine bodyPost_ret (results_tmp2 (fn := Try.f17) (t := 8) (u := 9) rfl _ _ _) rfl ?_
          exact poolEnd_mk HE.out hq5 hC5 hB5

/-- The list that is copied, and a field of it stored. -/
theorem copied_field {w w4 : World} {v : Value} {l : List Pl} {k i : Nat} (hR : Kd.R kP 27 w4 w.heap.size (fun _ => True) v ([] ++ l)) (hB : Below w.heap.size w w4) (hk : k < l.length) (hi : i < 3) :
    ∃ g cap, v = .slice (some ⟨g, 0, none⟩) l.length cap ∧ l.length ≤ cap ∧ (∃ u, w4.cell? ⟨g, k * 3 + i, none⟩ = some u) ∧ w4.frozen? ⟨g, k * 3 + i, none⟩ = false ∧
      (∀ u, Below w.heap.size w (w4.setCell ⟨g, k * 3 + i, none⟩ u)) ∧ Kd.C kP w4 (some ⟨g, 0, none⟩) l.length l := by
  rw [List.nil_append] at hR
  obtain ⟨g, cap, rfl, hg1, hg2⟩ := own_form hR (by omega)
  obtain ⟨_, hcap, hC⟩ := Kd.R_reads' hR
  have hcs := own_cells hR (k * 3 + i) (by omega)
  exact ⟨g, cap, rfl, hcap, Option.isSome_iff_exists.1 hcs.1, hcs.2, fun u => hB.setCell (p := ⟨g, k * 3 + i, none⟩) hg1 _, hC⟩

set_option maxRecDepth 100000 in
set_option maxHeartbeats 8000000 in
theorem refDrain_calls (A : Option Addr) (c : Nat) (l : List Pl) (out k : Int) (w : World) (hR : Kd.C kP w A l.length l) (hc : l.length ≤ c) (hl : l.length ≤ 1000) :
    Calls Try.prog 19 #[.slice A l.length c, .int .i64 out, .int .i64 k] w (PoolEnd (drainR out k l) w) := by
  have HR := Lib.hid hR
  clear hR
  go_enter Try.func19, Try.ntmps19
  go_wp2_with (fail)
  have q := B.mooringsref11_May.calls 100 A c l out _ w HR.out hc (refMay_tells l out)
  refine q.mono ?_
  clear q
  rintro e w1 ⟨rfl, hb1⟩
  have hB1 : Below w.heap.size w w1 := hb1
  have hC1 := Kd.C_below HR.out hB1
  clear hb1
  cases hm : maysP l out with
  | false =>
    have HE := Lib.hid (show drainR out k l = (l, 1) by unfold drainR wrongDrain; rw [hm]; rfl)
    clear hm
    go_wp2_with (fail)
    refine bodyPost_ret (results_tmp2 (fn := Try.f19) (t := 6) (u := 7) rfl _ _ _) rfl ?_
    exact poolEnd_mk HE.out hc hC1 hB1
  | true =>
    have hw0 : wrongDrain out k l = if k < 0 ∨ (l.length : Int) ≤ k then 5 else if (getP l k).f2 = 1 then 11 else 0 := by unfold wrongDrain; rw [hm]; rfl
    by_cases hk0 : k < 0
    · have HE := Lib.hid (show drainR out k l = (l, 5) by
        have : wrongDrain out k l = 5 := by rw [hw0, if_pos (.inl hk0)]
        unfold drainR
        rw [if_neg (by rw [this]; decide), this])
      clear hm hw0
      go_wp2_with (fail)
      refine bodyPost_ret (results_tmp2 (fn := Try.f19) (t := 6) (u := 7) rfl _ _ _) rfl ?_
      exact poolEnd_mk HE.out hc hC1 hB1
    · by_cases hk1 : (l.length : Int) ≤ k
      · have HE := Lib.hid (show drainR out k l = (l, 5) by
          have : wrongDrain out k l = 5 := by rw [hw0, if_pos (.inr hk1)]
          unfold drainR
          rw [if_neg (by rw [this]; decide), this])
        clear hm hw0
        go_wp2_with (fail)
        refine bodyPost_ret (results_tmp2 (fn := Try.f19) (t := 6) (u := 7) rfl _ _ _) rfl ?_
        exact poolEnd_mk HE.out hc hC1 hB1
      · obtain ⟨kk, rfl⟩ := Int.eq_ofNat_of_zero_le (show 0 ≤ k by omega)
        have hkk : kk < l.length := by omega
        have hki : (kk : Int) < (l.length : Int) := by omega
        obtain ⟨ad, rfl, z0, z1, z2⟩ := at_pool hC1 kk hkk
        rw [if_neg (by omega), getP_nat l kk hkk] at hw0
        by_cases h1 : l[kk].f2 = 1
        · have HE := Lib.hid (show drainR out kk l = (l, 11) by
            have : wrongDrain out kk l = 11 := by rw [hw0, if_pos h1]
            unfold drainR
            rw [if_neg (by rw [this]; decide), this])
          rw [h1] at z2
          clear hm hw0 hk0 hk1 h1 z0 z1
          go_wp2_with (fail)
          refine bodyPost_ret (results_tmp2 (fn := Try.f19) (t := 6) (u := 7) rfl _ _ _) rfl ?_
          exact poolEnd_mk HE.out hc hC1 hB1
        · have HE := Lib.hid (show drainR out kk l = (l.set kk ⟨l[kk].f0, l[kk].f1, 1⟩, 0) by
            have : wrongDrain out kk l = 0 := by rw [hw0, if_neg h1]
            unfold drainR
            rw [if_pos this, getP_nat l kk hkk, Int.toNat_natCast])
          have HG := Lib.hid (show ∀ (w' : World) (g : Nat), Kd.C kP w' (some ⟨g, 0, none⟩) l.length l → Kd.C kP (w'.setCell ⟨g, kk * 3 + 2, none⟩ (.int .i64 1)) (some ⟨g, 0, none⟩) (l.set kk ⟨l[kk].f0, l[kk].f1, 1⟩).length (l.set kk ⟨l[kk].f0, l[kk].f1, 1⟩) from fun w' g hC => C_field hC kk 2 hkk (by omega) (⟨l[kk].f0, l[kk].f1, 1⟩) (.int .i64 1) rfl)
          have hb : (l[kk].f2 == 1) = false := by simpa using h1
          generalize l[kk] = p at *
          have HC1 := Lib.hid hC1
          have hs1 := hB1.size
          clear hm hw0 hk0 hk1 h1 z0 z1 hC1
          go_wp2_with (at_builtin; refine Kd.R_append_rows kP (Rr := fun x cs => kP.K w1 x cs) (w0 := w) w.heap.size rfl _ _ 22 27 (.agg #[(.int .i64 0), (.int .i64 0), (.int .i64 0)]) 24 rfl Try.underlying22 infoP rfl (by decide) (by decide) (.slice none 0 0) [] l (some ad) l.length c (fun _ => True) (fun _ => False) rfl rfl (Kd.R_nil _ _ _ _ _) HC1.out (fun _ _ h => kP_KM h) (fun _ h => h.elim) (fun _ _ => trivial) hB1 hs1 (by simp; omega) ?_; intro v4 w4 hR4 hB4 hG4 _; obtain ⟨g, cap, rfl, hcap, ⟨u0, hu0⟩, hfz, hBs, hCs⟩ := copied_field (i := 2) hR4 hB4 hkk (by omega); have HBS := Lib.hid (hBs (.int .i64 1)); have HCS := Lib.hid (HG.out _ _ hCs); clear hR4 hG4 hBs hCs HG)
          refine bodyPost_ret (results_tmp2 (fn := Try.f19) (t := 6) (u := 7) rfl _ _ _) rfl ?_
          exact ⟨some ⟨g, 0, none⟩, cap, by rw [HE.out]; simp, by rw [HE.out]; simpa using hcap, by rw [HE.out]; simpa using HCS.out, HBS.out⟩

end Go.Proofs.Ytajofhjlkaenhaa.H
