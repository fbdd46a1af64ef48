import Derived.Test.YtajofhjlkaenhaaPoolV
/-! Layer 11: the reference's Gone, walked. -/
namespace Go.Proofs.Ytajofhjlkaenhaa.H
open Go.RowKit Go.Proofs.YtajofhjlkaenhaaW.PrintWords Go.Proofs.YtajofhjlkaenhaaW.PrintLast Go.Proofs.YtajofhjlkaenhaaW.PrintMore
set_option linter.unusedVariables false
set_option linter.unusedSimpArgs false

theorem addr_add (a : Addr) (m n : Nat) (h : a.add m = a.add m) : (a.add m).add n = a.add (m + n) := by
  unfold Addr.add
  by_cases hm : m = 0
  · subst hm; simp
  · by_cases hn : n = 0
    · subst hn; simp
    · simp [hm, hn, Nat.add_assoc]
/-- The rest of a slice of pools. -/
theorem dropP (ad : Addr) (c : Nat) (l : List Pl) (j : Nat) (hm : j ≤ l.length) (hc : l.length ≤ c) :
    ∃ A' : Option Addr, (∀ W : World, (Instr.slice 22 (.slice (some ad) l.length c) (some (.int .i64 (j : Int))) none none).run Try.prog W = .ok (.slice A' (l.drop j).length (c - j)) W) ∧
      (∀ w : World, Kd.C kP w (some ad) l.length l → Kd.C kP w A' (l.drop j).length (l.drop j)) ∧ (l.drop j).length ≤ c - j := by
  have hel : Try.prog.elem 22 = 27 := by simp [Program.elem, Try.underlying22]
  have hu : Try.prog.underlying 22 = some (.slice (Try.prog.elem 22)) := by rw [hel]; exact Try.underlying22
  obtain ⟨i0, hi, hz0, hz1, hz2⟩ := info_parts infoP
  have hdl : (l.drop j).length = l.length - j := by simp
  refine ⟨if c = j then some ad else (some ad).map (·.add (j * 3)), fun W => ?_, fun w h => ?_, by omega⟩
  · rw [run_slice_l W 22 (some ad) l.length c hu .i64 (j : Int) (by omega) (by omega), hel, hdl]
    simp [sizeOf, typeInfo, hi, hz1, sliced, Result.andThen]
  · refine ⟨rfl, by have := h.2.1; omega, fun hn => ?_⟩
    have hcj : ¬ c = j := by omega
    rw [if_neg hcj]
    obtain ⟨ad', e, hcell⟩ := h.2.2 (by omega)
    cases e
    refine ⟨ad.add (j * 3), rfl, fun i p hp => ?_⟩
    rw [List.getElem?_drop] at hp
    obtain ⟨cs, hs, hK, hcs⟩ := hcell (j + i) p hp
    refine ⟨cs, hs, hK, fun q u hq => ?_⟩
    have := hcs q u hq
    have hz : kP.sz = 3 := rfl
    rw [hz] at this ⊢
    rw [addr_add _ _ _ rfl]
    have e1 : j * 3 + (i * 3 + q) = (j + i) * 3 + q := by omega
    rw [e1]
    exact this
theorem lostP_all (y : Pl) (busy : List Int) : lostP y busy ⟨0, 0, 0⟩ = busy.any (hasP y) := by
  unfold lostP
  congr 1
  funext x
  rw [has_zero]
  simp
theorem erase_split (l : List Pl) (k : Nat) : l.eraseIdx k = l.take k ++ l.drop (k + 1) := List.eraseIdx_eq_take_drop_succ l k

set_option maxRecDepth 100000 in
set_option maxHeartbeats 8000000 in
theorem refGone_calls (A : Option Addr) (c : Nat) (l : List Pl) (out k : Int) (A6 : Option Addr) (c6 : Nat) (busy : List Int) (w : World) (hR : Kd.C kP w A l.length l) (hc : l.length ≤ c) (hl : l.length ≤ 1000) (hR6 : Kd.C (Kd.int .i64) w A6 busy.length busy) (hc6 : busy.length ≤ c6) (hl6 : busy.length ≤ 1000) :
    Calls Try.prog 22 #[.slice A l.length c, .int .i64 out, .int .i64 k, .slice A6 busy.length c6] w (PoolEnd (goneR out k busy l) w) := by
  have HR := Lib.hid hR
  have HR6 := Lib.hid hR6
  clear hR hR6
  go_enter Try.func22, Try.ntmps22
  go_wp2_with (fail)
  have q := B.mooringsref11_May.calls 100 A c l out _ w HR.out hc (refMay_tells l out)
  refine q.mono ?_
  clear q
  rintro e w1 ⟨rfl, hb1⟩
  have hB1 : Below w.heap.size w w1 := hb1
  have hC1 := Kd.C_below HR.out hB1
  clear hb1
  cases hm : maysP l out with
  | false =>
    have HE := Lib.hid (show goneR out k busy l = (l, 1) by unfold goneR wrongGone; rw [hm]; rfl)
    clear hm
    go_wp2_with (fail)
    refine bodyPost_ret (results_tmp2 (fn := Try.f22) (t := 8) (u := 9) rfl _ _ _) rfl ?_
    exact poolEnd_mk HE.out hc hC1 hB1
  | true =>
    have hw0 : wrongGone out k busy l = if k < 0 ∨ (l.length : Int) ≤ k then 5 else if (getP l k).f2 = 0 then 12 else if lostP (getP l k) busy ⟨0, 0, 0⟩ = true then 12 else 0 := by unfold wrongGone; rw [hm]; rfl
    by_cases hk0 : k < 0
    · have HE := Lib.hid (show goneR out k busy l = (l, 5) by
        have : wrongGone out k busy l = 5 := by rw [hw0, if_pos (.inl hk0)]
        unfold goneR
        rw [if_neg (by rw [this]; decide), this])
      clear hm hw0
      go_wp2_with (fail)
      refine bodyPost_ret (results_tmp2 (fn := Try.f22) (t := 8) (u := 9) rfl _ _ _) rfl ?_
      exact poolEnd_mk HE.out hc hC1 hB1
    · by_cases hk1 : (l.length : Int) ≤ k
      · have HE := Lib.hid (show goneR out k busy l = (l, 5) by
          have : wrongGone out k busy l = 5 := by rw [hw0, if_pos (.inr hk1)]
          unfold goneR
          rw [if_neg (by rw [this]; decide), this])
        clear hm hw0
        go_wp2_with (fail)
        refine bodyPost_ret (results_tmp2 (fn := Try.f22) (t := 8) (u := 9) rfl _ _ _) rfl ?_
        exact poolEnd_mk HE.out hc hC1 hB1
      · obtain ⟨kk, rfl⟩ := Int.eq_ofNat_of_zero_le (show 0 ≤ k by omega)
        have hkk : kk < l.length := by omega
        have hki : (kk : Int) < (l.length : Int) := by omega
        obtain ⟨ad, rfl, z0, z1, z2⟩ := at_pool hC1 kk hkk
        rw [if_neg (by omega), getP_nat l kk hkk, lostP_all] at hw0
        have hsr : goneR out kk busy l = if wrongGone out kk busy l = 0 then (l.eraseIdx kk, 0) else (l, wrongGone out kk busy l) := by unfold goneR; rw [Int.toNat_natCast]
        have HW := Lib.hid hw0
        have HS := Lib.hid hsr
        have HAT := Lib.hid (fun (W : World) (h : Kd.C kP W (some ad) l.length l) => at_pool_all h kk hkk)
        generalize l[kk] = p at *
        clear hm hw0 hsr hk0 hk1 hC1
        have hnk : ¬ l.length ≤ kk := by omega
        go_wp2_with (fail)
        (try simp only [hnk, decide_false, Bool.or_false])
        clear hnk
        go_loopw [12, 11] (fun i v wr => ∃ (j : Nat) (u : Bool), j ≤ busy.length ∧ i = .int .i64 (j : Int) ∧ v = .bool u ∧ Hid ((decide (p.f2 = 0) || busy.any (hasP p)) = (u || (busy.drop j).any (hasP p))) ∧ Below w1.heap.size w1 wr) (fun i _ _ => busy.length - (intOf i).toNat)
        case atStart => exact ⟨0, _, Nat.zero_le _, rfl, rfl, Lib.hid (by rw [List.drop_zero]; by_cases h : p.f2 = 0 <;> simp [h]), Below.refl _ _⟩
        case round =>
          obtain ⟨j, u, hj, rfl, rfl, hs, hb⟩ := hrel
          have hBr : Below w.heap.size w wr := hB1.trans (hb.mono hB1.size)
          by_cases hlt : j < busy.length
          · have hlti : (j : Int) < (busy.length : Int) := by omega
            obtain ⟨ad6, rfl, hx⟩ := cell_ofI (Kd.C_below HR6.out hBr) j hlt
            have hnx : (busy.drop j).any (hasP p) = (hasP p busy[j] || (busy.drop (j + 1)).any (hasP p)) := by rw [List.drop_eq_getElem_cons hlt, List.any_cons]
            have HS1 := Lib.hid (show ∀ W, Below wr.heap.size wr W → Below wr.heap.size wr W ∧ W.cell? (ad.add (kk * 3)) = some (.int .i64 p.f0) ∧ W.cell? ⟨(ad.add (kk * 3)).block, (ad.add (kk * 3)).off + 1, none⟩ = some (.int .i64 p.f1) ∧ W.cell? ⟨(ad.add (kk * 3)).block, (ad.add (kk * 3)).off + 2, none⟩ = some (.int .i64 p.f2) ∧ W.cell? (ad6.add j) = some (.int .i64 busy[j]) from
              fun W h => ⟨h, (HAT.out W (Kd.C_below HR.out (hBr.trans (h.mono hBr.size)))).1, (HAT.out W (Kd.C_below HR.out (hBr.trans (h.mono hBr.size)))).2.1, (HAT.out W (Kd.C_below HR.out (hBr.trans (h.mono hBr.size)))).2.2, cellI_is (Kd.C_below HR6.out (hBr.trans (h.mono hBr.size))) j hlt⟩)
            have DR := Lib.hid (show Below wr.heap.size wr wr.drew from (Below.refl _ wr).drew)
            generalize busy[j] = x at *
            have HN := Lib.hid hnx
            clear hnx hx z0 z1 z2
            go_wp2_with (fail)
            go_region_held (fun W => Below wr.heap.size wr W ∧ W.cell? (ad.add (kk * 3)) = some (.int .i64 p.f0) ∧ W.cell? ⟨(ad.add (kk * 3)).block, (ad.add (kk * 3)).off + 1, none⟩ = some (.int .i64 p.f1) ∧ W.cell? ⟨(ad.add (kk * 3)).block, (ad.add (kk * 3)).off + 2, none⟩ = some (.int .i64 p.f2) ∧ W.cell? (ad6.add j) = some (.int .i64 x))
              (first | exact HS1.out _ DR.out | exact HS1.out _ D4)
              (first
                | (go_at_call 38; refine (B.mooringsref11_Has.calls p.f0 p.f1 p.f2 x _ _ (refHas_tells p x)).mono ?_; rintro e w4 ⟨rfl, hb4⟩; have D4 := below_onV hb4 DR.out))
            all_goals
              have hB4 : Below w.heap.size w w4 := hBr.trans (D4.mono hBr.size)
              have hb4w : Below w1.heap.size w1 w4 := hb.trans (D4.mono hb.size)
              clear D4 DR hb4
              cases u with
              | true =>
                have HV := Lib.hid (show (decide (p.f2 = 0) || busy.any (hasP p)) = (true || (busy.drop (j + 1)).any (hasP p)) by rw [hs.out]; rfl)
                clear hs HN
                go_wp2_with (fail)
                go_roundw
                case rel => exact ⟨j + 1, true, by omega, by go_num, rfl, HV, hb4w⟩
                case measure => simp [intOf]; omega
              | false =>
                have HV := Lib.hid (show (decide (p.f2 = 0) || busy.any (hasP p)) = (hasP p x || (busy.drop (j + 1)).any (hasP p)) by rw [hs.out, HN.out]; rfl)
                generalize hasP p x = hh at *
                clear hs HN
                go_wp2_with (fail)
                go_roundw
                case rel => exact ⟨j + 1, hh, by omega, by go_num, rfl, HV, hb4w⟩
                case measure => simp [intOf]; omega
          · obtain rfl : j = busy.length := by omega
            have hnl : ¬ ((busy.length : Int) < (busy.length : Int)) := by omega
            have hu : (decide (p.f2 = 0) || busy.any (hasP p)) = u := by rw [hs.out, List.drop_length]; simp
            have hwu : wrongGone out kk busy l = if u = true then 12 else 0 := by
              rw [HW.out, ← hu]
              by_cases h0 : p.f2 = 0
              · simp [h0]
              · rw [if_neg h0, decide_eq_false h0, Bool.false_or]
            have HC := Lib.hid (Kd.C_below HR.out hBr)
            have hs1 := hBr.size
            clear hs HW hu z0 z1 z2
            cases u with
            | true =>
              have HE := Lib.hid (show goneR out kk busy l = (l, 12) by rw [HS.out, hwu]; rfl)
              clear hwu HS
              go_wp2_with (fail)
              refine bodyPost_ret (results_tmp2 (fn := Try.f22) (t := 8) (u := 9) rfl _ _ _) rfl ?_
              exact poolEnd_mk HE.out hc HC.out hBr
            | false =>
              have HE := Lib.hid (show goneR out kk busy l = (l.take kk ++ l.drop (kk + 1), 0) by rw [HS.out, hwu, erase_split]; rfl)
              have hl9 : l.length ≤ 1000 := hl
              obtain ⟨t1, t2, t3⟩ := takeP (some ad) c l kk (by omega) hc
              obtain ⟨A9, d1, d2, d3⟩ := dropP ad c l (kk + 1) (by omega) hc
              have hlt1 : (l.take kk).length ≤ 1000 := by simp; omega
              have hlt2 : (l.drop (kk + 1)).length ≤ 1000 := by simp; omega
              have HC1 := Lib.hid (t2 wr HC.out)
              have HD2 := Lib.hid d2
              rw [show ((kk + 1 : Nat) : Int) = (kk : Int) + 1 by omega] at d1
              generalize l.take kk = tk at *
              generalize l.drop (kk + 1) = dk at *
              have HT3 := Lib.hid t3
              have HD3 := Lib.hid d3
              clear hwu HS t2 d2 hj
              go_wp2_with (first
                | (at_builtin; refine Kd.R_append_rows kP (Rr := fun x cs => kP.K wr x cs) (w0 := w) w.heap.size rfl _ _ 22 27 (.agg #[(.int .i64 0), (.int .i64 0), (.int .i64 0)]) 24 rfl Try.underlying22 infoP rfl (by decide) (by decide) (.slice none 0 0) [] tk (some ad) tk.length c (fun _ => True) (fun _ => False) rfl rfl (Kd.R_nil _ _ _ _ _) HC1.out (fun _ _ h => kP_KM h) (fun _ h => h.elim) (fun _ _ => trivial) hBr hs1 (by simp; omega) ?_; intro v4 w4 hR4 hB4 hG4 _)
                | (at_builtin; have HR4 := Lib.hid hR4; have HD4 := Lib.hid (HD2.out w4 (Kd.C_below HR.out hB4)); have hs4 := hB4.size; refine Kd.R_append_rows kP (Rr := fun x cs => kP.K w4 x cs) (w0 := w) w.heap.size rfl _ _ 22 27 (.agg #[(.int .i64 0), (.int .i64 0), (.int .i64 0)]) 24 rfl Try.underlying22 infoP rfl (by decide) (by decide) v4 ([] ++ tk) dk A9 dk.length (c - (kk + 1)) (fun _ => True) (fun _ => False) rfl rfl HR4.out HD4.out (fun _ _ h => kP_KM h) (fun _ h => h.elim) (fun _ _ => trivial) hB4 hs4 (by simp; omega) ?_; intro v5 w5 hR5 hB5 hG5 _))
              obtain ⟨A5, q5, rfl, hq5, hC5⟩ := Kd.R_reads hR5
              refine bodyPost_ret (results_tmp2 (fn := Try.f22) (t := 8) (u := 9) rfl _ _ _) rfl ?_
              exact poolEnd_mk HE.out hq5 hC5 hB5

end Go.Proofs.Ytajofhjlkaenhaa.H
