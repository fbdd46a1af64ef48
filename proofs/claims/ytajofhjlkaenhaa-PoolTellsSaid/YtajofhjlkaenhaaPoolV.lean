import Derived.Test.YtajofhjlkaenhaaPoolU
/-! Layer 11: the reference's Size, walked. -/
namespace Go.Proofs.Ytajofhjlkaenhaa.H
open Go.RowKit Go.Proofs.YtajofhjlkaenhaaW.PrintWords Go.Proofs.YtajofhjlkaenhaaW.PrintLast Go.Proofs.YtajofhjlkaenhaaW.PrintMore
set_option linter.unusedVariables false
set_option linter.unusedSimpArgs false

theorem below_onV {w8 W0 W1 : World} (h : Below W0.heap.size W0 W1) (g : Below w8.heap.size w8 W0) : Below w8.heap.size w8 W1 := g.trans (h.mono g.size)
theorem lostP_drop (y q : Pl) (busy : List Int) (j : Nat) (h : j < busy.length) : lostP y (busy.drop j) q = ((hasP y busy[j] && !hasP q busy[j]) || lostP y (busy.drop (j + 1)) q) := by
  unfold lostP
  rw [List.drop_eq_getElem_cons h, List.any_cons]
theorem cellI_is {w : World} {ad : Addr} {l : List Int} (h : Kd.C (Kd.int .i64) w (some ad) l.length l) (k : Nat) (hk : k < l.length) : w.cell? (ad.add k) = some (.int .i64 l[k]) := by
  obtain ⟨ad', e, q⟩ := cell_ofI h k hk
  cases e
  exact q
theorem copied_all {w w4 : World} {v : Value} {l : List Pl} {k : Nat} (hR : Kd.R kP 27 w4 w.heap.size (fun _ => True) v ([] ++ l)) (hB : Below w.heap.size w w4) (hk : k < l.length) :
    ∃ g cap, v = .slice (some ⟨g, 0, none⟩) l.length cap ∧ l.length ≤ cap ∧ w.heap.size ≤ g ∧ (∃ u, w4.cell? ⟨g, k * 3, none⟩ = some u) ∧ w4.frozen? ⟨g, k * 3, none⟩ = false ∧ (∃ u, w4.cell? ⟨g, k * 3 + 1, none⟩ = some u) ∧ w4.frozen? ⟨g, k * 3 + 1, none⟩ = false ∧
      (∃ u, w4.cell? ⟨g, k * 3 + 2, none⟩ = some u) ∧ w4.frozen? ⟨g, k * 3 + 2, none⟩ = false ∧ Kd.C kP w4 (some ⟨g, 0, none⟩) l.length l := by
  rw [List.nil_append] at hR
  obtain ⟨g, cap, rfl, hg1, hg2⟩ := own_form hR (by omega)
  obtain ⟨_, hcap, hC⟩ := Kd.R_reads' hR
  have q0 := own_cells hR (k * 3) (by omega)
  have q1 := own_cells hR (k * 3 + 1) (by omega)
  have q2 := own_cells hR (k * 3 + 2) (by omega)
  exact ⟨g, cap, rfl, hcap, hg1, Option.isSome_iff_exists.1 q0.1, q0.2, Option.isSome_iff_exists.1 q1.1, q1.2, Option.isSome_iff_exists.1 q2.1, q2.2, hC⟩
theorem at_pool_all {w : World} {ad : Addr} {xs : List Pl} (h : Kd.C kP w (some ad) xs.length xs) (k : Nat) (hk : k < xs.length) :
    w.cell? (ad.add (k * 3)) = some (.int .i64 xs[k].f0) ∧ w.cell? ⟨(ad.add (k * 3)).block, (ad.add (k * 3)).off + 1, none⟩ = some (.int .i64 xs[k].f1) ∧ w.cell? ⟨(ad.add (k * 3)).block, (ad.add (k * 3)).off + 2, none⟩ = some (.int .i64 xs[k].f2) := by
  obtain ⟨ad', e, q0, q1, q2⟩ := at_pool h k hk
  cases e
  exact ⟨q0, q1, q2⟩
theorem C_whole {w : World} {g : Nat} {xs : List Pl} (h : Kd.C kP w (some ⟨g, 0, none⟩) xs.length xs) (k : Nat) (hk : k < xs.length) (n : Int) :
    Kd.C kP (((w.setCell ⟨g, k * 3 + 0, none⟩ (.int .i64 xs[k].f0)).setCell ⟨g, k * 3 + 1, none⟩ (.int .i64 n)).setCell ⟨g, k * 3 + 2, none⟩ (.int .i64 xs[k].f2)) (some ⟨g, 0, none⟩) (xs.set k (sizedP xs[k] n)).length (xs.set k (sizedP xs[k] n)) := by
  have h0 := C_field h k 0 hk (by omega) xs[k] (.int .i64 xs[k].f0) rfl
  rw [List.set_getElem_self] at h0
  have h1 := C_field h0 k 1 hk (by omega) (sizedP xs[k] n) (.int .i64 n) rfl
  have hk2 : k < (xs.set k (sizedP xs[k] n)).length := by simpa using hk
  have h2 := C_field h1 k 2 hk2 (by omega) (sizedP xs[k] n) (.int .i64 xs[k].f2) (by rw [List.getElem_set_self]; rfl)
  rw [List.set_set] at h2
  exact h2

set_option maxRecDepth 100000 in
set_option maxHeartbeats 8000000 in
theorem refSize_calls (A : Option Addr) (c : Nat) (l : List Pl) (out k n : Int) (A6 : Option Addr) (c6 : Nat) (busy : List Int) (w : World) (hR : Kd.C kP w A l.length l) (hc : l.length ≤ c) (hl : l.length ≤ 1000) (hR6 : Kd.C (Kd.int .i64) w A6 busy.length busy) (hc6 : busy.length ≤ c6) (hl6 : busy.length ≤ 1000) :
    Calls Try.prog 20 #[.slice A l.length c, .int .i64 out, .int .i64 k, .int .i64 n, .slice A6 busy.length c6] w (PoolEnd (sizeR out k n busy l) w) := by
  have HR := Lib.hid hR
  have HR6 := Lib.hid hR6
  clear hR hR6
  go_enter Try.func20, Try.ntmps20
  go_wp2_with (fail)
  have q := B.mooringsref11_May.calls 100 A c l out _ w HR.out hc (refMay_tells l out)
  refine q.mono ?_
  clear q
  rintro e w1 ⟨rfl, hb1⟩
  have hB1 : Below w.heap.size w w1 := hb1
  have hC1 := Kd.C_below HR.out hB1
  clear hb1
  cases hm : maysP l out with
  | false =>
    have HE := Lib.hid (show sizeR out k n busy l = (l, 1) by unfold sizeR wrongSize; rw [hm]; rfl)
    clear hm
    go_wp2_with (fail)
    refine bodyPost_ret (results_tmp2 (fn := Try.f20) (t := 10) (u := 11) rfl _ _ _) rfl ?_
    exact poolEnd_mk HE.out hc hC1 hB1
  | true =>
    have ho := mays_out hm
    have hw0 : wrongSize out k n busy l = if k < 0 ∨ (l.length : Int) ≤ k then 5 else if roomP out l k (sizedP (getP l k) n) = 0 then (if lostP (getP l k) busy (sizedP (getP l k) n) = true then 12 else 0) else roomP out l k (sizedP (getP l k) n) := by unfold wrongSize; rw [hm]; rfl
    by_cases hk0 : k < 0
    · have HE := Lib.hid (show sizeR out k n busy l = (l, 5) by
        have : wrongSize out k n busy l = 5 := by rw [hw0, if_pos (.inl hk0)]
        unfold sizeR
        rw [if_neg (by rw [this]; decide), this])
      clear hm hw0
      go_wp2_with (fail)
      refine bodyPost_ret (results_tmp2 (fn := Try.f20) (t := 10) (u := 11) rfl _ _ _) rfl ?_
      exact poolEnd_mk HE.out hc hC1 hB1
    · by_cases hk1 : (l.length : Int) ≤ k
      · have HE := Lib.hid (show sizeR out k n busy l = (l, 5) by
          have : wrongSize out k n busy l = 5 := by rw [hw0, if_pos (.inr hk1)]
          unfold sizeR
          rw [if_neg (by rw [this]; decide), this])
        clear hm hw0
        go_wp2_with (fail)
        refine bodyPost_ret (results_tmp2 (fn := Try.f20) (t := 10) (u := 11) rfl _ _ _) rfl ?_
        exact poolEnd_mk HE.out hc hC1 hB1
      · obtain ⟨kk, rfl⟩ := Int.eq_ofNat_of_zero_le (show 0 ≤ k by omega)
        have hkk : kk < l.length := by omega
        have hki : (kk : Int) < (l.length : Int) := by omega
        obtain ⟨ad, rfl, z0, z1, z2⟩ := at_pool hC1 kk hkk
        rw [if_neg (by omega), getP_nat l kk hkk] at hw0
        have hsr : sizeR out kk n busy l = if wrongSize out kk n busy l = 0 then (l.set kk (sizedP l[kk] n), 0) else (l, wrongSize out kk n busy l) := by unfold sizeR; rw [getP_nat l kk hkk, Int.toNat_natCast]
        have HW := Lib.hid hw0
        have HS := Lib.hid hsr
        have HAT := Lib.hid (fun (W : World) (h : Kd.C kP W (some ad) l.length l) => at_pool_all h kk hkk)
        have HCF := Lib.hid (fun (w' : World) (g : Nat) (hC : Kd.C kP w' (some ⟨g, 0, none⟩) l.length l) => C_whole hC kk hkk n)
        have HM := Lib.hid hm
        have HOT := Lib.hid (fun (hf : fitsP (sizedP l[kk] n) out = true) => refOthers_tells (p := sizedP l[kk] n) hm (kk : Int) hf)
        have HFI := Lib.hid (refFits_tells (sizedP l[kk] n) out ho.2.1)
        generalize l[kk] = p at *
        have hB1a : Below w.heap.size w (w1.alloc (.cells #[.int .i64 p.f0, .int .i64 n, .int .i64 p.f2] 27)) := below_alloc hB1 _
        have BP := Lib.hid (BoxP.new w1 (sizedP p n))
        clear hm hw0 hsr hk0 hk1 hC1
        go_wp2_with (fail)
        refine (B.mooringsref11_fits.calls p.f0 n p.f2 out _ _ HFI.out).mono ?_
        rintro e w2 ⟨rfl, hb2⟩
        have hB2 : Below w.heap.size w w2 := hB1a.trans (hb2.mono hB1a.size)
        have bP2 : BoxP w2 w1.heap.size (sizedP p n) := BP.out.below hb2
        have hC2 := Kd.C_below HR.out hB2
        clear hb2 BP hB1a z0 z1 z2
        cases hf : fitsP (sizedP p n) out with
        | false =>
          have HE := Lib.hid (show sizeR out kk n busy l = (l, 1) by
            have hrm : roomP out l kk (sizedP p n) = 1 := by unfold roomP; rw [if_pos hf]
            have : wrongSize out kk n busy l = 1 := by rw [HW.out, hrm, if_neg (by decide)]
            rw [HS.out, if_neg (by rw [this]; decide), this])
          clear hf
          go_wp2_with (fail)
          refine bodyPost_ret (results_tmp2 (fn := Try.f20) (t := 10) (u := 11) rfl _ _ _) rfl ?_
          exact poolEnd_mk HE.out hc hC2 hB2
        | true =>
          have k0 := bP2.c0
          have k1 := bP2.c1
          have k2 := bP2.c2
          dsimp only [sizedP] at k0 k1 k2
          have B2 := Lib.hid bP2
          have HF := Lib.hid hf
          clear hf bP2
          go_wp2_with (fail)
          have q := B.mooringsref11_others.calls 100 (some ad) c l kk p.f0 n p.f2 _ w2 hC2 hc (HOT.out HF.out)
          refine q.mono ?_
          clear q
          rintro e w3 ⟨rfl, hb3⟩
          have hB3 : Below w.heap.size w w3 := hB2.trans (hb3.mono hB2.size)
          have hC3 := Kd.C_below HR.out hB3
          have B3 := Lib.hid (B2.out.below hb3)
          clear hb3 k0 k1 k2 B2 hC2
          cases hoth : othersP (sizedP p n) kk l 0 with
          | true =>
            have HE := Lib.hid (show sizeR out kk n busy l = (l, 11) by
              have hrm : roomP out l kk (sizedP p n) = 11 := by unfold roomP; rw [if_neg (by rw [HF.out]; decide), if_pos hoth]
              have : wrongSize out kk n busy l = 11 := by rw [HW.out, hrm, if_neg (by decide)]
              rw [HS.out, if_neg (by rw [this]; decide), this])
            clear hoth
            go_wp2_with (fail)
            refine bodyPost_ret (results_tmp2 (fn := Try.f20) (t := 10) (u := 11) rfl _ _ _) rfl ?_
            exact poolEnd_mk HE.out hc hC3 hB3
          | false =>
            have HW2 := Lib.hid (show wrongSize out kk n busy l = if lostP p busy (sizedP p n) = true then 12 else 0 by
              have hrm : roomP out l kk (sizedP p n) = 0 := by unfold roomP; rw [if_neg (by rw [HF.out]; decide), if_neg (by rw [hoth]; decide), if_neg (by omega)]
              rw [HW.out, if_pos hrm])
            clear hoth HW HFI HOT HM HF hC3
            go_wp2_with (fail)
            go_loopw [16] (fun i wr => ∃ j : Nat, j ≤ busy.length ∧ i = .int .i64 (j : Int) ∧ Hid (lostP p busy (sizedP p n) = lostP p (busy.drop j) (sizedP p n)) ∧ Below w3.heap.size w3 wr) (fun i _ => busy.length - (intOf i).toNat)
            case atStart => exact ⟨0, Nat.zero_le _, rfl, Lib.hid (by rw [List.drop_zero]), Below.refl _ _⟩
            case round =>
              obtain ⟨j, hj, rfl, hs, hb⟩ := hrel
              have hBr : Below w.heap.size w wr := hB3.trans (hb.mono hB3.size)
              by_cases hlt : j < busy.length
              · have hlti : (j : Int) < (busy.length : Int) := by omega
                obtain ⟨ad6, rfl, hx⟩ := cell_ofI (Kd.C_below HR6.out hBr) j hlt
                have hnx := lostP_drop p (sizedP p n) busy j hlt
                have HS1 := Lib.hid (show ∀ W, Below wr.heap.size wr W → Below wr.heap.size wr W ∧ W.cell? (ad.add (kk * 3)) = some (.int .i64 p.f0) ∧ W.cell? ⟨(ad.add (kk * 3)).block, (ad.add (kk * 3)).off + 1, none⟩ = some (.int .i64 p.f1) ∧ W.cell? ⟨(ad.add (kk * 3)).block, (ad.add (kk * 3)).off + 2, none⟩ = some (.int .i64 p.f2) ∧ W.cell? (ad6.add j) = some (.int .i64 busy[j]) from
                  fun W h => ⟨h, (HAT.out W (Kd.C_below HR.out (hBr.trans (h.mono hBr.size)))).1, (HAT.out W (Kd.C_below HR.out (hBr.trans (h.mono hBr.size)))).2.1, (HAT.out W (Kd.C_below HR.out (hBr.trans (h.mono hBr.size)))).2.2, cellI_is (Kd.C_below HR6.out (hBr.trans (h.mono hBr.size))) j hlt⟩)
                have HXX := Lib.hid (fun (W : World) (h : Below w.heap.size w W) => cellI_is (Kd.C_below HR6.out h) j hlt)
                have DR := Lib.hid (show Below wr.heap.size wr wr.drew from (Below.refl _ wr).drew)
                have BR := Lib.hid (B3.out.below hb)
                generalize busy[j] = x at *
                have HN := Lib.hid hnx
                clear hnx hx
                go_wp2_with (fail)
                go_region_held (fun W => Below wr.heap.size wr W ∧ W.cell? (ad.add (kk * 3)) = some (.int .i64 p.f0) ∧ W.cell? ⟨(ad.add (kk * 3)).block, (ad.add (kk * 3)).off + 1, none⟩ = some (.int .i64 p.f1) ∧ W.cell? ⟨(ad.add (kk * 3)).block, (ad.add (kk * 3)).off + 2, none⟩ = some (.int .i64 p.f2) ∧ W.cell? (ad6.add j) = some (.int .i64 x))
                  (first | exact HS1.out _ DR.out | exact HS1.out _ D4)
                  (first
                    | (go_at_call 38; refine (B.mooringsref11_Has.calls p.f0 p.f1 p.f2 x _ _ (refHas_tells p x)).mono ?_; rintro e w4 ⟨rfl, hb4⟩; have D4 := below_onV hb4 DR.out))
                all_goals
                  have hB4 : Below w.heap.size w w4 := hBr.trans (D4.mono hBr.size)
                  have hb4w : Below w3.heap.size w3 w4 := hb.trans (D4.mono hb.size)
                  have B4 : BoxP w4 w1.heap.size (sizedP p n) := BR.out.below D4
                  have HS2 := Lib.hid (show ∀ W, Below w4.heap.size w4 W → Below w4.heap.size w4 W ∧ W.cell? ⟨w1.heap.size, 0, none⟩ = some (.int .i64 p.f0) ∧ W.cell? ⟨w1.heap.size, 1, none⟩ = some (.int .i64 n) ∧ W.cell? ⟨w1.heap.size, 2, none⟩ = some (.int .i64 p.f2) ∧ W.cell? (ad6.add j) = some (.int .i64 x) from fun W h => ⟨h, (B4.below h).c0, (B4.below h).c1, (B4.below h).c2, HXX.out W (hB4.trans (h.mono hB4.size))⟩)
                  have DR2 := Lib.hid (show Below w4.heap.size w4 w4.drew from (Below.refl _ w4).drew)
                  clear D4 DR B4 hb4
                  go_wp2_with (fail)
                  go_region_held (fun W => Below w4.heap.size w4 W ∧ W.cell? ⟨w1.heap.size, 0, none⟩ = some (.int .i64 p.f0) ∧ W.cell? ⟨w1.heap.size, 1, none⟩ = some (.int .i64 n) ∧ W.cell? ⟨w1.heap.size, 2, none⟩ = some (.int .i64 p.f2) ∧ W.cell? (ad6.add j) = some (.int .i64 x))
                    (first | exact HS2.out _ DR2.out | exact HS2.out _ D5)
                    (first
                      | (go_at_call 38; refine (B.mooringsref11_Has.calls p.f0 n p.f2 x _ _ (refHas_tells (sizedP p n) x)).mono ?_; rintro e w5 ⟨rfl, hb5⟩; have D5 := below_onV hb5 DR2.out))
                  all_goals
                    have hB5 : Below w.heap.size w w5 := hB4.trans (D5.mono hB4.size)
                    have hb5w : Below w3.heap.size w3 w5 := hb4w.trans (D5.mono hb4w.size)
                    clear D5 DR2 hb5
                    cases hwas : hasP p x with
                    | true =>
                      cases hhas : hasP (sizedP p n) x with
                      | false =>
                        have HE := Lib.hid (show sizeR out kk n busy l = (l, 12) by
                          have hlo : lostP p busy (sizedP p n) = true := by rw [hs.out, HN.out, hwas, hhas]; rfl
                          have : wrongSize out kk n busy l = 12 := by rw [HW2.out, if_pos hlo]
                          rw [HS.out, if_neg (by rw [this]; decide), this])
                        clear hs HN hwas hhas
                        go_wp2_with (fail)
                        (try rw [Exit.noGoto_ret])
                        refine bodyPost_ret (results_tmp2 (fn := Try.f20) (t := 10) (u := 11) rfl _ _ _) rfl ?_
                        exact poolEnd_mk HE.out hc (Kd.C_below HR.out hB5) hB5
                      | true =>
                        have HV := Lib.hid (show lostP p busy (sizedP p n) = lostP p (busy.drop (j + 1)) (sizedP p n) by rw [hs.out, HN.out, hwas, hhas]; rfl)
                        clear hs HN hwas hhas
                        go_wp2_with (fail)
                        go_roundw
                        case rel => exact ⟨j + 1, by omega, by go_num, HV, hb5w⟩
                        case measure => simp [intOf]; omega
                    | false =>
                      have HV := Lib.hid (show lostP p busy (sizedP p n) = lostP p (busy.drop (j + 1)) (sizedP p n) by rw [hs.out, HN.out, hwas]; rfl)
                      clear hs HN hwas
                      go_wp2_with (fail)
                      go_roundw
                      case rel => exact ⟨j + 1, by omega, by go_num, HV, hb5w⟩
                      case measure => simp [intOf]; omega
              · obtain rfl : j = busy.length := by omega
                have hnl : ¬ ((busy.length : Int) < (busy.length : Int)) := by omega
                have hl0 : lostP p busy (sizedP p n) = false := by rw [hs.out, List.drop_length]; rfl
                have HE := Lib.hid (show sizeR out kk n busy l = (l.set kk (sizedP p n), 0) by
                  have : wrongSize out kk n busy l = 0 := by rw [HW2.out, hl0]; rfl
                  rw [HS.out, if_pos this])
                have HC := Lib.hid (Kd.C_below HR.out hBr)
                have BR := Lib.hid (B3.out.below hb)
                have hs1 := hBr.size
                clear hs hl0 HS HW2
                go_wp2_with (at_builtin; refine Kd.R_append_rows kP (Rr := fun x cs => kP.K wr x cs) (w0 := w) w.heap.size rfl _ _ 22 27 (.agg #[(.int .i64 0), (.int .i64 0), (.int .i64 0)]) 24 rfl Try.underlying22 infoP rfl (by decide) (by decide) (.slice none 0 0) [] l (some ad) l.length c (fun _ => True) (fun _ => False) rfl rfl (Kd.R_nil _ _ _ _ _) HC.out (fun _ _ h => kP_KM h) (fun _ h => h.elim) (fun _ _ => trivial) hBr hs1 (by simp; omega) ?_; intro v4 w4 hR4 hB4 hG4 _; have B4 := BoxP.grown hG4 BR.out (by simp [Value.ownBlock]); have y0 := B4.c0; have y1 := B4.c1; have y2 := B4.c2; dsimp only [sizedP] at y0 y1 y2; obtain ⟨g, cap, rfl, hcap, hg, ⟨u0, hu0⟩, f0, ⟨u1, hu1⟩, f1, ⟨u2, hu2⟩, f2, hCs⟩ := copied_all hR4 hB4 hkk; have HCS := Lib.hid hCs; clear hR4 hG4 B4 hCs)
                refine bodyPost_ret (results_tmp2 (fn := Try.f20) (t := 10) (u := 11) rfl _ _ _) rfl ?_
                exact ⟨some ⟨g, 0, none⟩, cap, by rw [HE.out]; simp, by rw [HE.out]; simpa using hcap, by rw [HE.out]; exact HCF.out w4 g HCS.out, ((hB4.setCell (p := ⟨g, kk * 3, none⟩) hg _).setCell (p := ⟨g, kk * 3 + 1, none⟩) hg _).setCell (p := ⟨g, kk * 3 + 2, none⟩) hg _⟩

end Go.Proofs.Ytajofhjlkaenhaa.H
