import Derived.Test.YtiopafdndlodoaaWireAw
import Derived.Test.YtiopafdndlodoaaRowS
import Derived.Deep.RegionHeld3
import Derived.Deep.RegionHeldLaw
import Derived.Deep.QuietTactic
import Derived.BigQuiet
import Derived.OpenShut
import Derived.Test.YtiopafdndlodoaaWireR
/-! The law WireSplit, walked. -/
namespace Go.Proofs.Ytiopafdndlodoaa.H
open Go.RowKit Moor Go.Proofs.YtiopafdndlodoaaW.PrintWords Go.Proofs.YtiopafdndlodoaaW.PrintLast Go.Proofs.YtiopafdndlodoaaW.PrintMore
set_option linter.unusedVariables false
set_option linter.unusedSimpArgs false

theorem okB_flatP (l : List Rq) : okB (l.flatMap (fun x => (wPut x).1)) := fun x hx => by
  obtain ⟨r, _, hr⟩ := List.mem_flatMap.1 hx
  exact (wPut_long r).1 x hr
theorem flat_take {y : List (List Int)} {lf b : List Int} (h : y.flatten ++ lf = b) (j : Nat) : ((y.take j).flatten).length + lf.length ≤ b.length := by
  have e : y.flatten = (y.take j).flatten ++ (y.drop j).flatten := by rw [← List.flatten_append, List.take_append_drop]
  rw [← h, e, List.length_append, List.length_append]
  omega
theorem flat_len : ∀ l : List Rq, (l.flatMap (fun x => (wPut x).1)).length ≤ 30 * l.length
  | [] => by simp
  | r :: l => by
    rw [List.flatMap_cons, List.length_append, List.length_cons]
    have h1 := flat_len l
    have h2 := (wPut_long r).2.2
    omega
theorem all_grown {W W1 : World} {base base' : Nat} {ok : Nat → Prop} {v rv : Value} {l : List Int} {m : List (List Int)} (h : Kd.R (Kd.int .u8) 5 W base (fun _ => True) v l) (hr : Kd.R kBB 29 W base' ok rv m) (hg : W.grownBy W1 rv.ownBlock) : Kd.R (Kd.int .u8) 5 W1 base (fun _ => True) v l := by
  obtain ⟨inner, ho⟩ := Kd.R_own hr
  refine Kd.R_mono (Kd.R_grown (Kd.R_mono (Kd.R_bound h) (ok' := fun k => some k ≠ rv.ownBlock) ?_) hg (fun k hk => hk)) (fun _ _ => trivial)
  rintro k ⟨_, _, _, q, hq, cells, hc⟩ e
  obtain ⟨cells', hc'⟩ := own_typed ho k e.symm
  rw [hc] at hc'
  injection hc' with hc'
  injection hc' with _ hc'
  have hq5 : q = 5 := by simpa [Kd.int, Kd.scalar] using hq
  rw [hq5] at hc'
  exact absurd hc' (by decide)
theorem rows_grown {W W1 : World} {base : Nat} {rv av v1 : Value} {m : List (List Int)} (hr : Kd.R kBB 29 W base (fun k => some k ≠ av.ownBlock) rv m) (hg : W.grownBy W1 av.ownBlock) (ha : v1.ownBlock = av.ownBlock ∨ ∃ b, v1.ownBlock = some b ∧ W.heap.size ≤ b) : Kd.R kBB 29 W1 base (fun k => some k ≠ v1.ownBlock) rv m := by
  refine Kd.R_mono (Kd.R_grown (Kd.R_mono (Kd.R_bound hr) (ok' := fun k => some k ≠ av.ownBlock ∧ some k ≠ v1.ownBlock) ?_) hg (fun k hk => hk.1)) (fun _ hk => hk.2)
  rintro k ⟨h1, _, h3, _⟩
  refine ⟨h1, ?_⟩
  rcases ha with e | ⟨b, e, hb⟩
  · rw [e]; exact h1
  · rw [e]; intro e'; injection e' with e'; omega
theorem row_Q {W : World} {A : Option Addr} {l : List Rq} (h : RowQ W A l) (j : Nat) (hj : j < l.length) : ∃ ad, A = some ad ∧ W.cell? (ad.add (j * 9)) = some (.int .i64 l[j].kind) ∧ W.cell? ⟨(ad.add (j * 9)).block, (ad.add (j * 9)).off + 1, none⟩ = some (.int .i64 l[j].sub) ∧ W.cell? ⟨(ad.add (j * 9)).block, (ad.add (j * 9)).off + 2, none⟩ = some (.int .i64 l[j].addr) ∧ W.cell? ⟨(ad.add (j * 9)).block, (ad.add (j * 9)).off + 3, none⟩ = some (.int .i64 l[j].blk) ∧ W.cell? ⟨(ad.add (j * 9)).block, (ad.add (j * 9)).off + 4, none⟩ = some (.int .i64 l[j].n) ∧ W.cell? ⟨(ad.add (j * 9)).block, (ad.add (j * 9)).off + 5, none⟩ = some (.int .i64 l[j].q) ∧ W.cell? ⟨(ad.add (j * 9)).block, (ad.add (j * 9)).off + 6, none⟩ = some (.int .i64 l[j].i) ∧ W.cell? ⟨(ad.add (j * 9)).block, (ad.add (j * 9)).off + 7, none⟩ = some (.int .i64 l[j].h) ∧ W.cell? ⟨(ad.add (j * 9)).block, (ad.add (j * 9)).off + 8, none⟩ = some (.bool l[j].pair) := by
  obtain ⟨ad, e, hc⟩ := h.2 (by omega)
  have q := hc j l[j] (List.getElem?_eq_getElem hj)
  refine ⟨ad, e, q 0 _ rfl, ?_, ?_, ?_, ?_, ?_, ?_, ?_, ?_⟩
  · have z := q 1 _ rfl; rw [add_field ad (j * 9) 1 (by decide)] at z; exact z
  · have z := q 2 _ rfl; rw [add_field ad (j * 9) 2 (by decide)] at z; exact z
  · have z := q 3 _ rfl; rw [add_field ad (j * 9) 3 (by decide)] at z; exact z
  · have z := q 4 _ rfl; rw [add_field ad (j * 9) 4 (by decide)] at z; exact z
  · have z := q 5 _ rfl; rw [add_field ad (j * 9) 5 (by decide)] at z; exact z
  · have z := q 6 _ rfl; rw [add_field ad (j * 9) 6 (by decide)] at z; exact z
  · have z := q 7 _ rfl; rw [add_field ad (j * 9) 7 (by decide)] at z; exact z
  · have z := q 8 _ rfl; rw [add_field ad (j * 9) 8 (by decide)] at z; exact z

set_option maxRecDepth 100000 in
set_option maxHeartbeats 32000000 in
theorem wireSplit_walk (A0 : Option Addr) (c0 : Nat) (l0 : List Rq) (e1 : Rq) (a2 : Int) (A3 : Option Addr) (c3 : Nat) (l3 : List Int) (w : World) (hr0 : RowQ w A0 l0) (hc0 : l0.length ≤ c0) (hw2 : (Lit.int .i64 a2).wf = true) (hr3 : Kd.C (Kd.int .u8) w A3 l3.length l3) (hc3 : l3.length ≤ c3) (ho3 : okB l3) (hs3 : l3.length ≤ 140737488351232) :
    Calls Try.prog 5 #[.slice A0 l0.length c0, .agg (cellsQ e1), .int .i64 a2, .slice A3 l3.length c3] w fun e w' => e = .returned (.bool true) ∧ Below w.heap.size w w' := by
  go_enter Try.func5, Try.ntmps5
  go_wp2_with (fail)
  have hbx1 := QC.new w (cellsQ e1)
  have hBa0 : Below w.heap.size w (w.alloc (.cells (cellsQ e1) 25)) := below_alloc (Below.refl _ _) _
  refine (awake_true _).mono ?_
  rintro e w10 ⟨rfl, hb10⟩
  have hB10 : Below w.heap.size w w10 := hBa0.trans (hb10.mono hBa0.size)
  replace hbx1 := hbx1.below hb10
  clear hb10 hBa0
  obtain ⟨x1_0, x1_1, x1_2, x1_3, x1_4, x1_5, x1_6, x1_7, x1_8⟩ := hbx1.nine
  have HR0 := Lib.hid (RowQ_below hr0 hB10)
  clear hr0
  have HR3 := Lib.hid (Kd.C_below hr3 hB10)
  clear hr3
  by_cases g0 : l0.length ≤ 12
  · skip
    have gi0 : ¬ (12 : Int) < (l0.length : Int) := by omega
    by_cases g3 : l3.length ≤ 1500
    · skip
      have gi3 : ¬ (1500 : Int) < (l3.length : Int) := by omega
      have hrl : l0.length ≤ 12 := g0
      have hsz : w.heap.size < w10.heap.size := hbx1.lt
      have HX1 := Lib.hid hbx1
      have HB0 := Lib.hid hB10
      clear hbx1 x1_0 x1_1 x1_2 x1_3 x1_4 x1_5 x1_6 x1_7 x1_8
      go_wp2_with (fail)
      go_loopw [10, 11, 12] (fun rv av i wr => ∃ j : Nat, j ≤ l0.length ∧ i = .int .i64 (j : Int) ∧ Hid (Kd.R kBB 29 wr w10.heap.size (fun k => some k ≠ av.ownBlock) rv ((l0.take j).map (fun x => (wPut x).1))) ∧ Hid (Kd.R (Kd.int .u8) 5 wr w10.heap.size (fun _ => True) av ((l0.take j).flatMap (fun x => (wPut x).1))) ∧ Hid (∀ x ∈ l0.take j, (wPut x).2 = true) ∧ Hid (Below w10.heap.size w10 wr)) (fun _ _ i _ => l0.length - (intOf i).toNat)
      case atStart => exact ⟨0, Nat.zero_le _, rfl, Lib.hid (Kd.R_nil _ _ _ _ _), Lib.hid (Kd.R_nil _ _ _ _ _), Lib.hid (fun x hx => by simp at hx), Lib.hid (Below.refl _ _)⟩
      case round =>
        obtain ⟨j, hj, rfl, HRV, HAV, HOK, HB⟩ := hrel
        by_cases hlt : j < l0.length
        · skip
          have hlti : (j : Int) < (l0.length : Int) := by omega
          obtain ⟨ad, rfl, hce⟩ := row_Q (RowQ_below HR0.out HB.out) j hlt
          generalize hrr : l0[j] = rr at *
          obtain ⟨y0, y1, y2, y3, y4, y5, y6, y7, y8⟩ := hce
          have HTM := Lib.hid (show l0.take (j + 1) = l0.take j ++ [rr] from by rw [List.take_succ_eq_append_getElem hlt, hrr])
          clear hrr
          go_wp2_with (fail)
          refine (wPutR_calls rr wr).mono ?_
          rintro e w2 ⟨pv, rfl, hrp, hbp⟩
          have HPO := Lib.hid (wPut_long rr)
          generalize hpp : wPut rr = pp at *
          have HPP := Lib.hid hpp
          clear hpp
          obtain ⟨P, is_⟩ := pp
          dsimp only at *
          obtain ⟨AP, cP, hv, hcP, -⟩ := Kd.R_reads hrp
          subst hv
          cases is_
          · skip
            have HB2 := Lib.hid (HB.out.trans (hbp.mono HB.out.size))
            clear hrp hbp
            go_wp2_with (fail)
            go_ret
            exact ⟨rfl, HB0.out.trans (HB2.out.mono HB0.out.size)⟩
          · skip
            have hPl : P.length ≤ 30 := HPO.out.2.2
            have HXT := Lib.hid (show (l0.take (j + 1)).map (fun x => (wPut x).1) = (l0.take j).map (fun x => (wPut x).1) ++ [P] from by rw [HTM.out, List.map_append, List.map_singleton, HPP.out])
            have HYT := Lib.hid (show (l0.take (j + 1)).flatMap (fun x => (wPut x).1) = (l0.take j).flatMap (fun x => (wPut x).1) ++ P from by rw [HTM.out, List.flatMap_append, List.flatMap_singleton, HPP.out])
            have HOK2 := Lib.hid (show ∀ x ∈ l0.take (j + 1), (wPut x).2 = true from fun x hx => by
              rw [HTM.out, List.mem_append] at hx
              rcases hx with h | h
              · exact HOK.out x h
              · rw [List.mem_singleton.1 h, HPP.out])
            have hdl : ((l0.take j).map (fun x => (wPut x).1)).length ≤ 12 := by rw [List.length_map, List.length_take]; omega
            have hal := flat_len (l0.take j)
            have hal2 : ((l0.take j).flatMap (fun x => (wPut x).1)).length ≤ 360 := by rw [List.length_take] at hal; omega
            clear HOK HTM HPP hal
            generalize (l0.take j).map (fun x => (wPut x).1) = done at *
            generalize (l0.take j).flatMap (fun x => (wPut x).1) = all at *
            generalize hd' : (l0.take (j + 1)).map (fun x => (wPut x).1) = done' at *
            generalize ha' : (l0.take (j + 1)).flatMap (fun x => (wPut x).1) = all' at *
            have hRL := fun k hk => ((Kd.R_bound HRV.out).1 k hk).2.2.1
            have hAL := fun k hk => ((Kd.R_bound HAV.out).1 k hk).2.2.1
            have HP3 := Lib.hid (Kd.R_mono (Kd.R_bound hrp) (ok' := fun k => wr.heap.size ≤ k) (fun k hk => hk.2.1))
            have HB2 := Lib.hid (HB.out.trans (hbp.mono HB.out.size))
            have HR2 := Lib.hid (Kd.R_below HRV.out hbp)
            have HA2 := Lib.hid (Kd.R_below HAV.out hbp)
            have hsz2 := hbp.size
            clear hrp hbp HRV HAV
            have HR4 := Lib.hid (lit_rowM (t := 29) (Kd.R_lower HP3.out HB.out.size))
            have HB4 := Lib.hid (below_alloc HB2.out (.cells #[.slice AP P.length cP] 29))
            go_wp2_with (at_builtin; first | (have zz := hr5; refine Kd.R_append_rows (Kd.int .u8) (Rr := fun x cs => cs = [.int .u8 x]) (w0 := w10) w10.heap.size rfl _ _ 29 5 (.int .u8 0) 1 rfl Try.underlying29 infoU8 rfl (by decide) (by decide) u11 all P AP P.length cP (fun _ => True) (fun _ => False) rfl rfl hA5 hC5 (fun _ _ h => h) (fun _ h => h.elim) (fun _ _ => trivial) hb5 hb5.size (by omega) ?_; intro v6 w6 hr6 hb6 hG6 hat6) | (refine Kd.R_append_rows kBB (Rr := fun x cs => kBB.M (w2.alloc (.cells #[.slice AP P.length cP] 29)) w10.heap.size (fun k => wr.heap.size ≤ k) x cs) (w0 := w10) w10.heap.size rfl _ _ 38 29 (.slice none 0 0) 24 rfl Try.underlying38 infoBB rfl Nat.one_pos (by decide) u10 done [P] (some ⟨w2.heap.size, 0, none⟩) 1 1 (fun k => some k ≠ u11.ownBlock) (fun k => wr.heap.size ≤ k) rfl rfl (Kd.R_alloc HR2.out _) HR4.out (fun _ _ h => h) (fun k hk => ⟨fun e => by have := hAL k e.symm; omega, fun e => by have := hRL k e.symm; omega⟩) (fun k hk e => by have := hAL k e.symm; have := (below_alloc (Below.refl _ w2) (.cells #[.slice AP P.length cP] 29)).size; omega) HB4.out HB4.out.size (by omega) ?_; intro v5 w5 hr5 hb5 hG5 _; have hA5 := all_grown (Kd.R_alloc HA2.out (.cells #[.slice AP P.length cP] 29)) (Kd.R_alloc HR2.out (.cells #[.slice AP P.length cP] 29)) hG5; have hP5 := Kd.R_grown (Kd.R_alloc HP3.out (.cells #[.slice AP P.length cP] 29)) hG5 (fun k hk e => by have := hRL k e.symm; omega); obtain ⟨A5, c5, e5, q5, hC5⟩ := Kd.R_reads hP5; cases e5))
            have HR6 := Lib.hid (rows_grown hr5 hG6 hat6)
            have HA6 := Lib.hid hr6
            have HB6 := Lib.hid hb6
            clear hr5 hG5 hG6 hat6 hr6 hb6 hA5 hP5 hC5 hb5 HR4 HB4 HP3 HB2 HR2 HA2
            go_wp2_with (fail)
            go_roundw
            case rel => exact ⟨j + 1, by omega, by go_num, Lib.hid (by rw [hd', HXT.out]; exact HR6.out), Lib.hid (by rw [ha', HYT.out]; exact HA6.out), HOK2, HB6⟩
            case measure => simp [intOf]; omega
        · skip
          have hlti : ¬ (j : Int) < (l0.length : Int) := by omega
          obtain rfl : j = l0.length := by omega
          have hRV := HRV.out
          have hAV := HAV.out
          have hok := HOK.out
          rw [List.take_length] at hRV hAV hok
          obtain ⟨A30, c30, hv, hc30, hC30⟩ := Kd.R_reads hRV
          subst hv
          obtain ⟨A31, c31, hv, hc31, hC31⟩ := Kd.R_reads hAV
          subst hv
          have HC30 := Lib.hid hC30
          have HC31 := Lib.hid hC31
          have HM := Lib.hid (show ∀ x ∈ l0.map (fun x => (wPut x).1), okB x from fun x hx => by
            obtain ⟨r, _, rfl⟩ := List.mem_map.1 hx
            exact (wPut_long r).1)
          have HMF := Lib.hid (okB_flatP l0)
          have HTN := Lib.hid (fun k hk hr => wSplit_torn l0 hok (r := e1) hr (k := k) hk)
          have hal := flat_len l0
          have hal2 : (l0.flatMap (fun x => (wPut x).1)).length ≤ 360 := by omega
          have hdl : (l0.map (fun x => (wPut x).1)).length ≤ 12 := by rw [List.length_map]; omega
          clear hok HRV HAV HOK hRV hAV hC30 hC31 hal
          generalize l0.map (fun x => (wPut x).1) = done at *
          generalize l0.flatMap (fun x => (wPut x).1) = all at *
          have hb11 := HB.out
          clear HB
          generalize wr = w11 at *
          have hbx1 := HX1.out
          obtain ⟨x1_0, x1_1, x1_2, x1_3, x1_4, x1_5, x1_6, x1_7, x1_8⟩ := hbx1.nine
          replace hbx1 := hbx1.below hb11
          clear x1_0 x1_1 x1_2 x1_3 x1_4 x1_5 x1_6 x1_7 x1_8
          obtain ⟨x1_0, x1_1, x1_2, x1_3, x1_4, x1_5, x1_6, x1_7, x1_8⟩ := hbx1.nine
          replace HR3 := Lib.hid (Kd.C_below HR3.out hb11)
          have hB11 : Below w.heap.size w w11 := hB10.trans (hb11.mono hB10.size)
          clear hb11
          obtain ⟨P, hP⟩ : ∃ P, wPut e1 = P := ⟨_, rfl⟩
          have hPo := wPut_long e1
          have hTn := HTN.out
          rw [hP] at hPo hTn
          have HP := Lib.hid hP
          have HPO := Lib.hid hPo
          clear hP hPo HTN
          have HTN := Lib.hid hTn
          clear hTn
          go_wp2_with (fail)
          have q := wPut_calls e1 w11
          rw [HP.out] at q
          refine q.mono ?_
          clear q
          rintro e w12 ⟨A12, c12, rfl, hc12, hC12, hb12⟩
          dsimp only at hc12 hC12 ⊢
          replace hbx1 := hbx1.below hb12
          clear x1_0 x1_1 x1_2 x1_3 x1_4 x1_5 x1_6 x1_7 x1_8
          obtain ⟨x1_0, x1_1, x1_2, x1_3, x1_4, x1_5, x1_6, x1_7, x1_8⟩ := hbx1.nine
          replace HR3 := Lib.hid (Kd.C_below HR3.out hb12)
          replace HC30 := Lib.hid (Kd.C_below HC30.out hb12)
          replace HC31 := Lib.hid (Kd.C_below HC31.out hb12)
          have hB12 : Below w.heap.size w w12 := hB11.trans (hb12.mono hB11.size)
          clear hb12
          have HC12 := Lib.hid hC12
          clear hC12
          clear HP hbx1 x1_0 x1_1 x1_2 x1_3 x1_4 x1_5 x1_6 x1_7 x1_8
          obtain ⟨P, is_⟩ := P
          dsimp only at *
          cases is_ with
          | true =>
              by_cases hk0 : a2 ≥ 0
              · skip
                by_cases hk1 : a2 < (P.length : Int)
                · skip
                  obtain ⟨kk, rfl⟩ := Int.eq_ofNat_of_zero_le hk0
                  have hkk : kk < P.length := by omega
                  have hsp := HTN.out kk hkk rfl
                  have hPo := HPO.out.1
                  have hPl := HPO.out.2.2
                  have hto : okB (P.take kk) := okB_take hPo _
                  have htl : (P.take kk).length ≤ 30 := by rw [List.length_take]; omega
                  obtain ⟨t1, t2, t3⟩ := takeB A12 c12 P (kk : Int) (by omega) (by omega) hc12
                  rw [Int.toNat_natCast] at t1 t2 t3
                  generalize P.take kk = yt at *
                  obtain ⟨X, hX⟩ : ∃ X, all ++ yt = X := ⟨_, rfl⟩
                  have hXl : X.length ≤ 1000 := by rw [← hX, List.length_append]; omega
                  have hXo : okB X := by rw [← hX]; exact okB_append HMF.out hto
                  rw [hX] at hsp
                  have HSP := Lib.hid hsp
                  have HT2 := Lib.hid t2
                  have HX := Lib.hid hX
                  clear hsp t2 hX HTN
                  go_wp2_with (fail)
                  have D0 := Lib.hid (show Below w12.heap.size w12 w12.drew from (Below.refl _ w12).drew)
                  go_region_held3 (fun W => Below w12.heap.size w12 W) (first | exact D0.out | exact D1 | exact D2 | exact D3)
                    ((first | (go_at_call 19; have zz := D2; have q := wsplit_calls A6 c6 X u2 hC6 hc6 hXo (by omega); rw [HSP.out] at q; refine q.mono ?_; clear q; rintro e v3 ⟨A7, c7, A7', c7', rfl, hc7, hc7', hC7, hC7', hq3⟩; dsimp only at hc7 hc7' hC7 hC7'; have D3 := D2.trans (hq3.mono D2.size)) | (have zz := D1; refine Kd.R_append_rows_step (Kd.int .u8) (Rr := fun x cs => cs = [.int .u8 x]) (w0 := w12) w12.heap.size (by rfl) _ _ 29 5 (.int .u8 0) 1 (by rfl) Try.underlying29 infoU8 rfl (by decide) (by decide) v1 all yt A12 yt.length c12 (fun _ => True) (fun _ => False) (by rfl) (by rfl) hr1' (HT2.out _ (Kd.C_below HC12.out D1)) (fun _ _ h => h) (fun _ h => h.elim) (fun _ _ => trivial) D1 D1.size (by first | omega | (simp; done) | (simp; omega)) ?_; intro v2 u2 hr2' D2 hG2 _; rw [HX.out] at hr2'; obtain ⟨A6, c6, rfl, hc6, hC6⟩ := Kd.R_reads hr2') | (refine Kd.R_append_rows_step (Kd.int .u8) (Rr := fun x cs => cs = [.int .u8 x]) (w0 := w12) w12.heap.size (by rfl) _ _ 29 5 (.int .u8 0) 1 (by rfl) Try.underlying29 infoU8 rfl (by decide) (by decide) (.slice none 0 0) ([] : List Int) all A31 all.length c31 (fun _ => True) (fun _ => False) (by rfl) (by rfl) (Kd.R_nil _ _ _ _ _) (Kd.C_drew HC31.out) (fun _ _ h => h) (fun _ h => h.elim) (fun _ _ => trivial) D0.out D0.out.size (by first | omega | (simp; done) | (simp; omega)) ?_; intro v1 u1 hr1' D1 hG1 _; replace hr1' : Kd.R (Kd.int .u8) 5 u1 w12.heap.size (fun _ => True) v1 all := (by simpa using hr1'))))
                  all_goals
                    have hb13 := D3
                    clear D3
                    generalize v3 = w13 at *
                    replace HR3 := Lib.hid (Kd.C_below HR3.out hb13)
                    replace HC30 := Lib.hid (Kd.C_below HC30.out hb13)
                    replace HC31 := Lib.hid (Kd.C_below HC31.out hb13)
                    replace HC12 := Lib.hid (Kd.C_below HC12.out hb13)
                    have hB13 : Below w.heap.size w w13 := hB12.trans (hb13.mono hB12.size)
                    clear hb13
                    have HC7 := Lib.hid hC7
                    have HC7' := Lib.hid hC7'
                    clear hC7 hC7'
                    go_wp2_with (fail)
                    have q := rows_calls done done A7 c7 A30 c30 w13 HC7.out hc7 HC30.out hc30 HM.out HM.out (by omega) true (decide_eq_true rfl)
                    refine q.mono ?_
                    clear q
                    rintro e w14 ⟨rfl, hb14⟩
                    replace HR3 := Lib.hid (Kd.C_below HR3.out hb14)
                    replace HC30 := Lib.hid (Kd.C_below HC30.out hb14)
                    replace HC31 := Lib.hid (Kd.C_below HC31.out hb14)
                    replace HC12 := Lib.hid (Kd.C_below HC12.out hb14)
                    replace HC7 := Lib.hid (Kd.C_below HC7.out hb14)
                    replace HC7' := Lib.hid (Kd.C_below HC7'.out hb14)
                    have hB14 : Below w.heap.size w w14 := hB13.trans (hb14.mono hB13.size)
                    clear hb14
                    have hv1 := fun n => Kd.C_string (P := Try.prog) (c := c7') Try.underlying29 Try.underlying5 Try.underlying9 (Kd.C_drewN HC7'.out n)
                    have hv2 := fun n => Kd.C_string (P := Try.prog) (c := c12) Try.underlying29 Try.underlying5 Try.underlying9 (Kd.C_drewN (HT2.out _ HC12.out) n)
                    have hse1 : ((strOfNums yt).toList == (strOfNums yt).toList) = true := beq_self_eq_true _
                    go_wp2_with (fail)
                    go_quiet (fail)
                    all_goals
                      go_wp2_with (fail)
                      have hb15 : Below w14.heap.size w14 (w14.drewN nq) := pw_below_drewN (Below.refl _ _) _
                      clear hv1 hv2
                      generalize w14.drewN nq = w15 at *
                      replace HR3 := Lib.hid (Kd.C_below HR3.out hb15)
                      replace HC30 := Lib.hid (Kd.C_below HC30.out hb15)
                      replace HC31 := Lib.hid (Kd.C_below HC31.out hb15)
                      replace HC12 := Lib.hid (Kd.C_below HC12.out hb15)
                      replace HC7 := Lib.hid (Kd.C_below HC7.out hb15)
                      replace HC7' := Lib.hid (Kd.C_below HC7'.out hb15)
                      have hB15 : Below w.heap.size w w15 := hB14.trans (hb15.mono hB14.size)
                      clear hb15
                      obtain ⟨S, hS⟩ : ∃ S, wSplit l3 = S := ⟨_, rfl⟩
                      have hSJ := wSplit_join ho3
                      have hSL := wSplit_len ho3
                      rw [hS] at hSJ hSL
                      have HS := Lib.hid hS
                      have HSJ := Lib.hid hSJ
                      have HSL := Lib.hid hSL
                      clear hS hSJ hSL
                      have q := wsplit_calls A3 c3 l3 w15 HR3.out hc3 ho3 (by omega)
                      rw [HS.out] at q
                      refine q.mono ?_
                      clear q
                      rintro e w16 ⟨A16, c16, A16', c16', rfl, hc16, hc16', hC16, hC16', hb16⟩
                      dsimp only at hc16 hc16' hC16 hC16' ⊢
                      replace HR3 := Lib.hid (Kd.C_below HR3.out hb16)
                      replace HC30 := Lib.hid (Kd.C_below HC30.out hb16)
                      replace HC31 := Lib.hid (Kd.C_below HC31.out hb16)
                      replace HC12 := Lib.hid (Kd.C_below HC12.out hb16)
                      replace HC7 := Lib.hid (Kd.C_below HC7.out hb16)
                      replace HC7' := Lib.hid (Kd.C_below HC7'.out hb16)
                      have hB16 : Below w.heap.size w w16 := hB15.trans (hb16.mono hB15.size)
                      clear hb16
                      have HC16 := Lib.hid hC16
                      have HC16' := Lib.hid hC16'
                      clear hC16 hC16'
                      clear HS
                      obtain ⟨y, lf⟩ := S
                      dsimp only at *
                      have hyl : y.length ≤ 1500 := by have := HSL.out.1; omega
                      go_wp2_with (fail)
                      go_loopw [22, 23] (fun jv i wr => ∃ j : Nat, j ≤ y.length ∧ i = .int .i64 (j : Int) ∧ Hid (Kd.R (Kd.int .u8) 5 wr w16.heap.size (fun _ => True) jv ((y.take j).flatten)) ∧ Hid (Below w16.heap.size w16 wr)) (fun _ i _ => y.length - (intOf i).toNat)
                      case atStart => exact ⟨0, Nat.zero_le _, rfl, Lib.hid (Kd.R_nil _ _ _ _ _), Lib.hid (Below.refl _ _)⟩
                      case round =>
                        obtain ⟨j, hj, rfl, HJV, HB⟩ := hrel
                        have HJL := Lib.hid (flat_take HSJ.out j)
                        by_cases hlt : j < y.length
                        · skip
                          have hlti : (j : Int) < (y.length : Int) := by omega
                          obtain ⟨ad, A9, c9, rfl, hce, q9, C9⟩ := row_at (Kd.C_below HC16.out HB.out) j hlt
                          have HXT := Lib.hid (show (y.take (j + 1)).flatten = (y.take j).flatten ++ y[j] from by rw [List.take_succ_eq_append_getElem hlt, List.flatten_append, List.flatten_singleton])
                          have hjl := HJL.out
                          have hjl2 : y[j].length ≤ 1500 := by
                            have q := flat_take HSJ.out (j + 1)
                            rw [HXT.out, List.length_append] at q
                            omega
                          generalize (y.take j).flatten = xs at *
                          generalize hxx : (y.take (j + 1)).flatten = xs' at *
                          generalize y[j] = yj at *
                          have hjv := HJV.out
                          have hbj := HB.out
                          go_wp2_with (at_builtin; refine Kd.R_append_rows (Kd.int .u8) (Rr := fun x cs => cs = [.int .u8 x]) (w0 := w16) w16.heap.size rfl _ _ 29 5 (.int .u8 0) 1 rfl Try.underlying29 infoU8 rfl (by decide) (by decide) u22 xs yj A9 yj.length c9 (fun _ => True) (fun _ => False) rfl rfl hjv C9 (fun _ _ h => h) (fun _ h => h.elim) (fun _ _ => trivial) hbj hbj.size (by omega) ?_; intro v6 w6 hr6 hb6 hG6 _)
                          go_wp2_with (fail)
                          go_roundw
                          case rel => exact ⟨j + 1, by omega, by go_num, Lib.hid (by rw [hxx, HXT.out]; exact hr6), Lib.hid hb6⟩
                          case measure => simp [intOf]; omega
                        · skip
                          have hlti : ¬ (j : Int) < (y.length : Int) := by omega
                          obtain rfl : j = y.length := by omega
                          have hJV := HJV.out
                          have hJL := HJL.out
                          rw [List.take_length] at hJV hJL
                          obtain ⟨A8, c8, hv, hc8, hC8⟩ := Kd.R_reads hJV
                          subst hv
                          have hb17 := HB.out
                          clear hJV HJV HJL HB
                          have hJO := Lib.hid HSJ.out
                          generalize y.flatten = jo at *
                          generalize wr = w17 at *
                          replace HR3 := Lib.hid (Kd.C_below HR3.out hb17)
                          replace HC30 := Lib.hid (Kd.C_below HC30.out hb17)
                          replace HC31 := Lib.hid (Kd.C_below HC31.out hb17)
                          replace HC12 := Lib.hid (Kd.C_below HC12.out hb17)
                          replace HC7 := Lib.hid (Kd.C_below HC7.out hb17)
                          replace HC7' := Lib.hid (Kd.C_below HC7'.out hb17)
                          replace HC16 := Lib.hid (Kd.C_below HC16.out hb17)
                          replace HC16' := Lib.hid (Kd.C_below HC16'.out hb17)
                          have hB17 : Below w.heap.size w w17 := hB16.trans (hb17.mono hB16.size)
                          clear hb17
                          have hcj := Kd.C_string (P := Try.prog) (c := c8) Try.underlying29 Try.underlying5 Try.underlying9 hC8
                          have hcl := Kd.C_string (P := Try.prog) (c := c16') Try.underlying29 Try.underlying5 Try.underlying9 HC16'.out
                          have hcb := Kd.C_string (P := Try.prog) (c := c3) Try.underlying29 Try.underlying5 Try.underlying9 HR3.out
                          have hss : (strOfNums jo).size + (strOfNums lf).size ≤ 9223372036854775807 := by rw [str_size, str_size]; omega
                          go_wp2_with (fail)
                          go_ret
                          exact ⟨by simp [hJO.out, str_append], hB17⟩
                · skip
                  obtain ⟨S, hS⟩ : ∃ S, wSplit l3 = S := ⟨_, rfl⟩
                  have hSJ := wSplit_join ho3
                  have hSL := wSplit_len ho3
                  rw [hS] at hSJ hSL
                  have HS := Lib.hid hS
                  have HSJ := Lib.hid hSJ
                  have HSL := Lib.hid hSL
                  clear hS hSJ hSL
                  go_wp2_with (fail)
                  have q := wsplit_calls A3 c3 l3 w12 HR3.out hc3 ho3 (by omega)
                  rw [HS.out] at q
                  refine q.mono ?_
                  clear q
                  rintro e w13 ⟨A13, c13, A13', c13', rfl, hc13, hc13', hC13, hC13', hb13⟩
                  dsimp only at hc13 hc13' hC13 hC13' ⊢
                  replace HR3 := Lib.hid (Kd.C_below HR3.out hb13)
                  replace HC30 := Lib.hid (Kd.C_below HC30.out hb13)
                  replace HC31 := Lib.hid (Kd.C_below HC31.out hb13)
                  replace HC12 := Lib.hid (Kd.C_below HC12.out hb13)
                  have hB13 : Below w.heap.size w w13 := hB12.trans (hb13.mono hB12.size)
                  clear hb13
                  have HC13 := Lib.hid hC13
                  have HC13' := Lib.hid hC13'
                  clear hC13 hC13'
                  clear HS
                  obtain ⟨y, lf⟩ := S
                  dsimp only at *
                  have hyl : y.length ≤ 1500 := by have := HSL.out.1; omega
                  go_wp2_with (fail)
                  go_loopw [22, 23] (fun jv i wr => ∃ j : Nat, j ≤ y.length ∧ i = .int .i64 (j : Int) ∧ Hid (Kd.R (Kd.int .u8) 5 wr w13.heap.size (fun _ => True) jv ((y.take j).flatten)) ∧ Hid (Below w13.heap.size w13 wr)) (fun _ i _ => y.length - (intOf i).toNat)
                  case atStart => exact ⟨0, Nat.zero_le _, rfl, Lib.hid (Kd.R_nil _ _ _ _ _), Lib.hid (Below.refl _ _)⟩
                  case round =>
                    obtain ⟨j, hj, rfl, HJV, HB⟩ := hrel
                    have HJL := Lib.hid (flat_take HSJ.out j)
                    by_cases hlt : j < y.length
                    · skip
                      have hlti : (j : Int) < (y.length : Int) := by omega
                      obtain ⟨ad, A9, c9, rfl, hce, q9, C9⟩ := row_at (Kd.C_below HC13.out HB.out) j hlt
                      have HXT := Lib.hid (show (y.take (j + 1)).flatten = (y.take j).flatten ++ y[j] from by rw [List.take_succ_eq_append_getElem hlt, List.flatten_append, List.flatten_singleton])
                      have hjl := HJL.out
                      have hjl2 : y[j].length ≤ 1500 := by
                        have q := flat_take HSJ.out (j + 1)
                        rw [HXT.out, List.length_append] at q
                        omega
                      generalize (y.take j).flatten = xs at *
                      generalize hxx : (y.take (j + 1)).flatten = xs' at *
                      generalize y[j] = yj at *
                      have hjv := HJV.out
                      have hbj := HB.out
                      go_wp2_with (at_builtin; refine Kd.R_append_rows (Kd.int .u8) (Rr := fun x cs => cs = [.int .u8 x]) (w0 := w13) w13.heap.size rfl _ _ 29 5 (.int .u8 0) 1 rfl Try.underlying29 infoU8 rfl (by decide) (by decide) u22 xs yj A9 yj.length c9 (fun _ => True) (fun _ => False) rfl rfl hjv C9 (fun _ _ h => h) (fun _ h => h.elim) (fun _ _ => trivial) hbj hbj.size (by omega) ?_; intro v6 w6 hr6 hb6 hG6 _)
                      go_wp2_with (fail)
                      go_roundw
                      case rel => exact ⟨j + 1, by omega, by go_num, Lib.hid (by rw [hxx, HXT.out]; exact hr6), Lib.hid hb6⟩
                      case measure => simp [intOf]; omega
                    · skip
                      have hlti : ¬ (j : Int) < (y.length : Int) := by omega
                      obtain rfl : j = y.length := by omega
                      have hJV := HJV.out
                      have hJL := HJL.out
                      rw [List.take_length] at hJV hJL
                      obtain ⟨A8, c8, hv, hc8, hC8⟩ := Kd.R_reads hJV
                      subst hv
                      have hb14 := HB.out
                      clear hJV HJV HJL HB
                      have hJO := Lib.hid HSJ.out
                      generalize y.flatten = jo at *
                      generalize wr = w14 at *
                      replace HR3 := Lib.hid (Kd.C_below HR3.out hb14)
                      replace HC30 := Lib.hid (Kd.C_below HC30.out hb14)
                      replace HC31 := Lib.hid (Kd.C_below HC31.out hb14)
                      replace HC12 := Lib.hid (Kd.C_below HC12.out hb14)
                      replace HC13 := Lib.hid (Kd.C_below HC13.out hb14)
                      replace HC13' := Lib.hid (Kd.C_below HC13'.out hb14)
                      have hB14 : Below w.heap.size w w14 := hB13.trans (hb14.mono hB13.size)
                      clear hb14
                      have hcj := Kd.C_string (P := Try.prog) (c := c8) Try.underlying29 Try.underlying5 Try.underlying9 hC8
                      have hcl := Kd.C_string (P := Try.prog) (c := c13') Try.underlying29 Try.underlying5 Try.underlying9 HC13'.out
                      have hcb := Kd.C_string (P := Try.prog) (c := c3) Try.underlying29 Try.underlying5 Try.underlying9 HR3.out
                      have hss : (strOfNums jo).size + (strOfNums lf).size ≤ 9223372036854775807 := by rw [str_size, str_size]; omega
                      go_wp2_with (fail)
                      go_ret
                      exact ⟨by simp [hJO.out, str_append], hB14⟩
              · skip
                obtain ⟨S, hS⟩ : ∃ S, wSplit l3 = S := ⟨_, rfl⟩
                have hSJ := wSplit_join ho3
                have hSL := wSplit_len ho3
                rw [hS] at hSJ hSL
                have HS := Lib.hid hS
                have HSJ := Lib.hid hSJ
                have HSL := Lib.hid hSL
                clear hS hSJ hSL
                go_wp2_with (fail)
                have q := wsplit_calls A3 c3 l3 w12 HR3.out hc3 ho3 (by omega)
                rw [HS.out] at q
                refine q.mono ?_
                clear q
                rintro e w13 ⟨A13, c13, A13', c13', rfl, hc13, hc13', hC13, hC13', hb13⟩
                dsimp only at hc13 hc13' hC13 hC13' ⊢
                replace HR3 := Lib.hid (Kd.C_below HR3.out hb13)
                replace HC30 := Lib.hid (Kd.C_below HC30.out hb13)
                replace HC31 := Lib.hid (Kd.C_below HC31.out hb13)
                replace HC12 := Lib.hid (Kd.C_below HC12.out hb13)
                have hB13 : Below w.heap.size w w13 := hB12.trans (hb13.mono hB12.size)
                clear hb13
                have HC13 := Lib.hid hC13
                have HC13' := Lib.hid hC13'
                clear hC13 hC13'
                clear HS
                obtain ⟨y, lf⟩ := S
                dsimp only at *
                have hyl : y.length ≤ 1500 := by have := HSL.out.1; omega
                go_wp2_with (fail)
                go_loopw [22, 23] (fun jv i wr => ∃ j : Nat, j ≤ y.length ∧ i = .int .i64 (j : Int) ∧ Hid (Kd.R (Kd.int .u8) 5 wr w13.heap.size (fun _ => True) jv ((y.take j).flatten)) ∧ Hid (Below w13.heap.size w13 wr)) (fun _ i _ => y.length - (intOf i).toNat)
                case atStart => exact ⟨0, Nat.zero_le _, rfl, Lib.hid (Kd.R_nil _ _ _ _ _), Lib.hid (Below.refl _ _)⟩
                case round =>
                  obtain ⟨j, hj, rfl, HJV, HB⟩ := hrel
                  have HJL := Lib.hid (flat_take HSJ.out j)
                  by_cases hlt : j < y.length
                  · skip
                    have hlti : (j : Int) < (y.length : Int) := by omega
                    obtain ⟨ad, A9, c9, rfl, hce, q9, C9⟩ := row_at (Kd.C_below HC13.out HB.out) j hlt
                    have HXT := Lib.hid (show (y.take (j + 1)).flatten = (y.take j).flatten ++ y[j] from by rw [List.take_succ_eq_append_getElem hlt, List.flatten_append, List.flatten_singleton])
                    have hjl := HJL.out
                    have hjl2 : y[j].length ≤ 1500 := by
                      have q := flat_take HSJ.out (j + 1)
                      rw [HXT.out, List.length_append] at q
                      omega
                    generalize (y.take j).flatten = xs at *
                    generalize hxx : (y.take (j + 1)).flatten = xs' at *
                    generalize y[j] = yj at *
                    have hjv := HJV.out
                    have hbj := HB.out
                    go_wp2_with (at_builtin; refine Kd.R_append_rows (Kd.int .u8) (Rr := fun x cs => cs = [.int .u8 x]) (w0 := w13) w13.heap.size rfl _ _ 29 5 (.int .u8 0) 1 rfl Try.underlying29 infoU8 rfl (by decide) (by decide) u22 xs yj A9 yj.length c9 (fun _ => True) (fun _ => False) rfl rfl hjv C9 (fun _ _ h => h) (fun _ h => h.elim) (fun _ _ => trivial) hbj hbj.size (by omega) ?_; intro v6 w6 hr6 hb6 hG6 _)
                    go_wp2_with (fail)
                    go_roundw
                    case rel => exact ⟨j + 1, by omega, by go_num, Lib.hid (by rw [hxx, HXT.out]; exact hr6), Lib.hid hb6⟩
                    case measure => simp [intOf]; omega
                  · skip
                    have hlti : ¬ (j : Int) < (y.length : Int) := by omega
                    obtain rfl : j = y.length := by omega
                    have hJV := HJV.out
                    have hJL := HJL.out
                    rw [List.take_length] at hJV hJL
                    obtain ⟨A8, c8, hv, hc8, hC8⟩ := Kd.R_reads hJV
                    subst hv
                    have hb14 := HB.out
                    clear hJV HJV HJL HB
                    have hJO := Lib.hid HSJ.out
                    generalize y.flatten = jo at *
                    generalize wr = w14 at *
                    replace HR3 := Lib.hid (Kd.C_below HR3.out hb14)
                    replace HC30 := Lib.hid (Kd.C_below HC30.out hb14)
                    replace HC31 := Lib.hid (Kd.C_below HC31.out hb14)
                    replace HC12 := Lib.hid (Kd.C_below HC12.out hb14)
                    replace HC13 := Lib.hid (Kd.C_below HC13.out hb14)
                    replace HC13' := Lib.hid (Kd.C_below HC13'.out hb14)
                    have hB14 : Below w.heap.size w w14 := hB13.trans (hb14.mono hB13.size)
                    clear hb14
                    have hcj := Kd.C_string (P := Try.prog) (c := c8) Try.underlying29 Try.underlying5 Try.underlying9 hC8
                    have hcl := Kd.C_string (P := Try.prog) (c := c13') Try.underlying29 Try.underlying5 Try.underlying9 HC13'.out
                    have hcb := Kd.C_string (P := Try.prog) (c := c3) Try.underlying29 Try.underlying5 Try.underlying9 HR3.out
                    have hss : (strOfNums jo).size + (strOfNums lf).size ≤ 9223372036854775807 := by rw [str_size, str_size]; omega
                    go_wp2_with (fail)
                    go_ret
                    exact ⟨by simp [hJO.out, str_append], hB14⟩
          | false =>
              obtain ⟨S, hS⟩ : ∃ S, wSplit l3 = S := ⟨_, rfl⟩
              have hSJ := wSplit_join ho3
              have hSL := wSplit_len ho3
              rw [hS] at hSJ hSL
              have HS := Lib.hid hS
              have HSJ := Lib.hid hSJ
              have HSL := Lib.hid hSL
              clear hS hSJ hSL
              go_wp2_with (fail)
              have q := wsplit_calls A3 c3 l3 w12 HR3.out hc3 ho3 (by omega)
              rw [HS.out] at q
              refine q.mono ?_
              clear q
              rintro e w13 ⟨A13, c13, A13', c13', rfl, hc13, hc13', hC13, hC13', hb13⟩
              dsimp only at hc13 hc13' hC13 hC13' ⊢
              replace HR3 := Lib.hid (Kd.C_below HR3.out hb13)
              replace HC30 := Lib.hid (Kd.C_below HC30.out hb13)
              replace HC31 := Lib.hid (Kd.C_below HC31.out hb13)
              replace HC12 := Lib.hid (Kd.C_below HC12.out hb13)
              have hB13 : Below w.heap.size w w13 := hB12.trans (hb13.mono hB12.size)
              clear hb13
              have HC13 := Lib.hid hC13
              have HC13' := Lib.hid hC13'
              clear hC13 hC13'
              clear HS
              obtain ⟨y, lf⟩ := S
              dsimp only at *
              have hyl : y.length ≤ 1500 := by have := HSL.out.1; omega
              go_wp2_with (fail)
              go_loopw [22, 23] (fun jv i wr => ∃ j : Nat, j ≤ y.length ∧ i = .int .i64 (j : Int) ∧ Hid (Kd.R (Kd.int .u8) 5 wr w13.heap.size (fun _ => True) jv ((y.take j).flatten)) ∧ Hid (Below w13.heap.size w13 wr)) (fun _ i _ => y.length - (intOf i).toNat)
              case atStart => exact ⟨0, Nat.zero_le _, rfl, Lib.hid (Kd.R_nil _ _ _ _ _), Lib.hid (Below.refl _ _)⟩
              case round =>
                obtain ⟨j, hj, rfl, HJV, HB⟩ := hrel
                have HJL := Lib.hid (flat_take HSJ.out j)
                by_cases hlt : j < y.length
                · skip
                  have hlti : (j : Int) < (y.length : Int) := by omega
                  obtain ⟨ad, A9, c9, rfl, hce, q9, C9⟩ := row_at (Kd.C_below HC13.out HB.out) j hlt
                  have HXT := Lib.hid (show (y.take (j + 1)).flatten = (y.take j).flatten ++ y[j] from by rw [List.take_succ_eq_append_getElem hlt, List.flatten_append, List.flatten_singleton])
                  have hjl := HJL.out
                  have hjl2 : y[j].length ≤ 1500 := by
                    have q := flat_take HSJ.out (j + 1)
                    rw [HXT.out, List.length_append] at q
                    omega
                  generalize (y.take j).flatten = xs at *
                  generalize hxx : (y.take (j + 1)).flatten = xs' at *
                  generalize y[j] = yj at *
                  have hjv := HJV.out
                  have hbj := HB.out
                  go_wp2_with (at_builtin; refine Kd.R_append_rows (Kd.int .u8) (Rr := fun x cs => cs = [.int .u8 x]) (w0 := w13) w13.heap.size rfl _ _ 29 5 (.int .u8 0) 1 rfl Try.underlying29 infoU8 rfl (by decide) (by decide) u22 xs yj A9 yj.length c9 (fun _ => True) (fun _ => False) rfl rfl hjv C9 (fun _ _ h => h) (fun _ h => h.elim) (fun _ _ => trivial) hbj hbj.size (by omega) ?_; intro v6 w6 hr6 hb6 hG6 _)
                  go_wp2_with (fail)
                  go_roundw
                  case rel => exact ⟨j + 1, by omega, by go_num, Lib.hid (by rw [hxx, HXT.out]; exact hr6), Lib.hid hb6⟩
                  case measure => simp [intOf]; omega
                · skip
                  have hlti : ¬ (j : Int) < (y.length : Int) := by omega
                  obtain rfl : j = y.length := by omega
                  have hJV := HJV.out
                  have hJL := HJL.out
                  rw [List.take_length] at hJV hJL
                  obtain ⟨A8, c8, hv, hc8, hC8⟩ := Kd.R_reads hJV
                  subst hv
                  have hb14 := HB.out
                  clear hJV HJV HJL HB
                  have hJO := Lib.hid HSJ.out
                  generalize y.flatten = jo at *
                  generalize wr = w14 at *
                  replace HR3 := Lib.hid (Kd.C_below HR3.out hb14)
                  replace HC30 := Lib.hid (Kd.C_below HC30.out hb14)
                  replace HC31 := Lib.hid (Kd.C_below HC31.out hb14)
                  replace HC12 := Lib.hid (Kd.C_below HC12.out hb14)
                  replace HC13 := Lib.hid (Kd.C_below HC13.out hb14)
                  replace HC13' := Lib.hid (Kd.C_below HC13'.out hb14)
                  have hB14 : Below w.heap.size w w14 := hB13.trans (hb14.mono hB13.size)
                  clear hb14
                  have hcj := Kd.C_string (P := Try.prog) (c := c8) Try.underlying29 Try.underlying5 Try.underlying9 hC8
                  have hcl := Kd.C_string (P := Try.prog) (c := c13') Try.underlying29 Try.underlying5 Try.underlying9 HC13'.out
                  have hcb := Kd.C_string (P := Try.prog) (c := c3) Try.underlying29 Try.underlying5 Try.underlying9 HR3.out
                  have hss : (strOfNums jo).size + (strOfNums lf).size ≤ 9223372036854775807 := by rw [str_size, str_size]; omega
                  go_wp2_with (fail)
                  go_ret
                  exact ⟨by simp [hJO.out, str_append], hB14⟩
    · skip
      have gi3 : (1500 : Int) < (l3.length : Int) := by omega
      go_wp2_with (fail)
      go_ret
      exact ⟨rfl, hB10⟩
  · skip
    have gi0 : (12 : Int) < (l0.length : Int) := by omega
    go_wp2_with (fail)
    go_ret
    exact ⟨rfl, hB10⟩

end Go.Proofs.Ytiopafdndlodoaa.H
