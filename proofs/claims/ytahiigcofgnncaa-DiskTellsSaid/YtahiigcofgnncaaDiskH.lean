import Derived.Test.YtahiigcofgnncaaDiskEnd
import Derived.WalkMore
import Derived.StillTailTactics
/-! Layer 6: Crash, walked. -/
namespace Go.Proofs.Ytahiigcofgnncaa.H
open Go.RowKit Moor Go.Proofs.YtahiigcofgnncaaW.PrintWords Go.Proofs.YtahiigcofgnncaaW.PrintLast Go.Proofs.YtahiigcofgnncaaW.PrintMore
set_option linter.unusedVariables false
set_option linter.unusedSimpArgs false

theorem risF_sure : ∀ (l : List Fl) (p : Int), risF p l → ∀ (i : Nat) (h : i < l.length), 0 ≤ l[i].sure ∧ l[i].sure ≤ l[i].data.length
  | [], _, _, i, h => by simp at h
  | f :: l, p, hr, i, h => by
    cases i with
    | zero => exact ⟨hr.2.2.1, hr.2.2.2.1⟩
    | succ i => exact risF_sure l f.no hr.2.2.2.2 i (by simpa using h)
theorem take_snoc {α : Type} {m : List α} {k : Nat} {y : α} (h : m[k]? = some y) : m.take (k + 1) = m.take k ++ [y] := by
  rw [List.take_add_one, h]
  rfl
theorem take_set_snoc {α : Type} {m : List α} {k : Nat} (y : α) (h : k < m.length) : (m.set k y).take (k + 1) = m.take k ++ [y] := by
  rw [take_snoc (List.getElem?_set_self h), List.take_set_of_le (Nat.le_refl k)]
theorem drop_set_snoc {α : Type} {m : List α} {k : Nat} (y : α) : (m.set k y).drop (k + 1) = m.drop (k + 1) := List.drop_set_of_lt (Nat.lt_succ_self k)
set_option maxRecDepth 100000 in
set_option maxHeartbeats 16000000 in
theorem crash_calls (cap : Int) (A : Option Addr) (c : Nat) (l : List Fl) (pA : Option Addr) (pc : Nat) (p : List Int) (w : World) (hR : Kd.C kF w A l.length l) (hc : l.length ≤ c) (hl : l.length ≤ 1000000) (hs : smallF l) (hu : usedF l ≤ 4611686018427387904) (ho : ∀ f ∈ l, okB f.data)
    (hP : Kd.C (Kd.int .i64) w pA p.length p) (hpc : p.length ≤ pc) :
    Calls Try.prog 13 #[.agg (cellsD cap A l.length c), .slice pA p.length pc] w (DiskEnd (crashD ⟨cap, l⟩ p) w) := by
  obtain ⟨w0, hw0⟩ : ∃ w0, ((w.alloc (.cells (cellsD cap A l.length c) 24)).alloc (.cells #[.slice pA p.length pc] 25)).alloc (.cells (cellsD 0 none 0 0) 24) = w0 := ⟨_, rfl⟩
  have hb0 : Below w.heap.size w w0 := by rw [← hw0]; exact below_alloc (below_alloc (below_alloc (Below.refl _ _) _) _) _
  have hz0 : w0.heap.size = w.heap.size + 3 := by rw [← hw0]; simp
  have bD : BoxC w0 w.heap.size (cellsD cap A l.length c) 24 := by rw [← hw0]; exact ((BoxC.new w _ _).alloc _).alloc _
  have bP : BoxC w0 (w.heap.size + 1) #[.slice pA p.length pc] 25 := by
    rw [← hw0]
    have := (BoxC.new (w.alloc (.cells (cellsD cap A l.length c) 24)) #[.slice pA p.length pc] 25).alloc (.cells (cellsD 0 none 0 0) 24)
    rw [World.size_alloc] at this
    exact this
  have bE : BoxC w0 (w.heap.size + 1 + 1) (cellsD 0 none 0 0) 24 := by
    rw [← hw0]
    have := BoxC.new ((w.alloc (.cells (cellsD cap A l.length c) 24)).alloc (.cells #[.slice pA p.length pc] 25)) (cellsD 0 none 0 0) 24
    rw [World.size_alloc, World.size_alloc] at this
    exact this
  have d0 := bD.c 0 rfl
  have d1 := bD.c 1 rfl
  have HR := Lib.hid (Kd.C_below hR hb0)
  have HP := Lib.hid hP
  have HS := Lib.hid hs
  have HO := Lib.hid ho
  have BD := Lib.hid bD
  have BP := Lib.hid bP
  have BE := Lib.hid bE
  have HZ0 := Lib.hid hz0
  have HW0 := Lib.hid hw0
  clear hR hs ho bD bP bE hz0 hP
  go_enter Try.func13, Try.ntmps13
  go_wp2_with (fail)
  refine wp_scope_straight ?_
  go_wp2_with (fail)
  refine (own_calls cap A c l w0 HR.out hc hl HS.out).mono ?_
  rintro e w1 ⟨A1, c1, xs, rfl, hH, hb1⟩
  have hxl := Lib.hid hH.1
  have bO := BoxC.new w1 (cellsD cap A1 l.length c1) 24
  have hba := below_alloc (Below.refl w1.heap.size w1) (.cells (cellsD cap A1 l.length c1) 24)
  have hOw := hH.own.moved (W1 := w1.alloc (.cells (cellsD cap A1 l.length c1) 24)) (fun q _ hq => hba.block q hq)
  have bD1 := (BD.out.below hb1).alloc (.cells (cellsD cap A1 l.length c1) 24)
  have bP1 := (BP.out.below hb1).alloc (.cells (cellsD cap A1 l.length c1) 24)
  have bE1 := (BE.out.below hb1).alloc (.cells (cellsD cap A1 l.length c1) 24)
  have hb2 := hb1.trans (hba.mono hb1.size)
  have hB1 := hb0.trans (hb2.mono hb0.size)
  have e0 := bD1.c 0 rfl
  have e1 := bD1.c 1 rfl
  have hgt : w0.heap.size ≤ w1.heap.size := hb1.size
  have HR1 := Lib.hid (Kd.C_below HR.out hb2)
  have HOW := Lib.hid hOw
  have BD1 := Lib.hid bD1
  have BP1 := Lib.hid bP1
  have BE1 := Lib.hid bE1
  have BO1 := Lib.hid bO
  have HB2 := Lib.hid hb2
  clear hH d0 d1 hb1 hba hOw bD1 bP1 bE1 bO hb2
  go_wp2_with (fail)
  refine (may_calls cap A c l _ HR1.out hc hu).mono ?_
  rintro e w2 ⟨rfl, hb3⟩
  have hB3 := hB1.trans (hb3.mono hB1.size)
  have hOw := HOW.out.moved (W1 := w2) (fun q _ hq => hb3.block q hq)
  have bD1 := BD1.out.below hb3
  have bP1 := BP1.out.below hb3
  have bE1 := BE1.out.below hb3
  have bO1 := BO1.out.below hb3
  obtain ⟨B5, hB5⟩ : ∃ B5, w1.heap.size = B5 := ⟨_, rfl⟩
  rw [hB5] at bO1 hgt ⊢
  have o0 := bO1.c 0 rfl
  have o1 := bO1.c 1 rfl
  have HOW2 := Lib.hid hOw
  have BD2 := Lib.hid bD1
  have BP2 := Lib.hid bP1
  have BE2 := Lib.hid bE1
  have BO2 := Lib.hid bO1
  have HGT := Lib.hid hgt
  have HR2 := Lib.hid (Kd.C_below HR1.out hb3)
  by_cases hm : mayD ⟨cap, l⟩
  · rw [decide_eq_true hm]
    have hcr : crashD ⟨cap, l⟩ p = ⟨cap, crashL l p⟩ := by unfold crashD; rw [if_pos hm]
    have HCR := Lib.hid hcr
    have HM := Lib.hid hm
    clear e0 e1 o0 bD1 bP1 bE1 bO1 hOw hm hb3 hcr HR1 HOW BD1 BP1 BE1 BO1 hgt HR BD BP BE
    go_wp2_with (fail)
    go_step3
    go_wp2_with (fail)
    go_loopw [22] (fun i wr => ∃ (k : Nat) (ys : List FX) (q : List Int) (qA : Option Addr) (qc : Nat), k ≤ l.length ∧ i = .int .i64 (k : Int) ∧ OwnF wr w0.heap.size (.slice A1 l.length c1) l.length ys ∧ Hid (crashL l p = (ys.map flX).take k ++ crashL (l.drop k) q ∧ (ys.map flX).drop k = l.drop k) ∧ BoxC wr B5 (cellsD cap A1 l.length c1) 24 ∧ BoxC wr (w.heap.size + 1) #[.slice qA q.length qc] 25 ∧ BoxC wr (w.heap.size + 1 + 1) (cellsD 0 none 0 0) 24 ∧ Kd.C (Kd.int .i64) w qA q.length q ∧ q.length ≤ qc ∧ Below w.heap.size w wr ∧ B5 < wr.heap.size) (fun i _ => l.length - (intOf i).toNat)
    case atStart => exact ⟨0, xs, p, pA, pc, Nat.zero_le _, rfl, HOW2.out, Lib.hid ⟨rfl, by rw [hxl.out]⟩, BO2.out, BP2.out, BE2.out, HP.out, hpc, hB3, by have := blk_lt BO2.out; omega⟩
    case round =>
      clear hB3 o1 HOW2 BD2 BP2 BE2 BO2 hB1 HB2 HR2
      obtain ⟨k, ys, q, qA, qc, hk, rfl, hOw, hcl, bO, bP, bE, hq, hqc, hB, hz5⟩ := hrel
      have o0 := bO.c 0 rfl
      have o1 := bO.c 1 rfl
      by_cases hlt : k < l.length
      · have hlti : (k : Int) < (l.length : Int) := by omega
        obtain ⟨g, rfl, hg1, hg2⟩ := hOw.form (by omega)
        obtain ⟨x, hx, r0, r1, r2, hgd, hfz⟩ := hOw.get k hlt
        have hys : ys.length = l.length := hOw.1
        have hlk : flX x = l[k] := by
          have h1 := hcl.out.2
          have h2 : ((ys.map flX).drop k)[0]? = (l.drop k)[0]? := by rw [h1]
          rw [List.getElem?_drop, List.getElem?_drop, List.getElem?_map, Nat.add_zero, hx, List.getElem?_eq_getElem hlt] at h2
          injection h2
        have hmx : (ys.map flX)[k]? = some (flX x) := by rw [List.getElem?_map, hx]; rfl
        have hdr : (ys.map flX).drop (k + 1) = l.drop (k + 1) := by
          have h1 := congrArg List.tail hcl.out.2
          rw [List.tail_drop, List.tail_drop] at h1
          exact h1
        have hsr := risF_sure l 0 HM.out.1 k hlt
        have hxs := HS.out l[k] (List.getElem_mem hlt)
        have hxo := HO.out l[k] (List.getElem_mem hlt)
        have hcs : crashL (l.drop k) q = (if (flX x).sure = (flX x).data.length then flX x :: crashL (l.drop (k + 1)) q else crashF (flX x) q :: crashL (l.drop (k + 1)) (q.drop 2)) := by
          rw [List.drop_eq_getElem_cons hlt, ← hlk]
          rfl
        rw [← hlk] at hsr hxs hxo
        obtain ⟨no, xA, xc, data, sure⟩ := x
        dsimp only [flX, vX] at *
        obtain ⟨s, rfl⟩ := Int.eq_ofNat_of_zero_le hsr.1
        have hgv : Kd.R kB 5 wr w0.heap.size (fun _ => True) (.slice xA data.length xc) data := hgd
        have hxc := (Kd.R_reads' hgv).2.1
        have HCL := Lib.hid hcl.out
        have HMX := Lib.hid hmx
        have HDR := Lib.hid hdr
        have HCS := Lib.hid hcs
        have HX := Lib.hid hx
        have HOWr := Lib.hid hOw
        have BOr := Lib.hid bO
        have BPr := Lib.hid bP
        have BEr := Lib.hid bE
        have HYS := Lib.hid hys
        have HXO := Lib.hid hxo
        have hsL : (s : Int) ≤ (data.length : Int) := hsr.2
        clear hcl hmx hdr hcs hOw bO bP bE hlk hgd hx hsr hys hxo
        obtain ⟨L, hL⟩ : ∃ L, data.length = L := ⟨_, rfl⟩
        by_cases hsl : s = L
        · obtain ⟨A', z1, -, -⟩ := dropB xA xc data (s : Int) (by omega) hsL hxc
          have hd0 : (data.drop (s : Int).toNat).length = 0 := by rw [List.length_drop]; omega
          rw [hd0] at z1
          have hcs2 : crashL (l.drop k) q = ⟨no, data, (s : Int)⟩ :: crashL (l.drop (k + 1)) q := by rw [HCS.out]; rw [if_pos (by show (s : Int) = (data.length : Int); omega)]
          have hcl2 : crashL l p = (ys.map flX).take (k + 1) ++ crashL (l.drop (k + 1)) q := by
            rw [HCL.out.1, hcs2, take_snoc HMX.out]
            simp
          have HCL2 := Lib.hid hcl2
          clear hcs2 hcl2 hd0
          go_wp2_with (fail)
          go_quiet (fail)
          all_goals
            go_wp2_with (fail)
            exact ⟨⟨k + 1, ys, q, qA, qc, by omega, by go_num, HOWr.out.moved (fun _ _ _ => rfl), Lib.hid ⟨HCL2.out, HDR.out⟩, BOr.out, BPr.out, BEr.out, hq, hqc, pw_below_drewN hB _, hz5⟩, by simp [intOf]; omega⟩
        · obtain ⟨m, hm⟩ : ∃ m, L = s + m := ⟨L - s, by omega⟩
          have hm0 : 0 < m := by omega
          subst hm
          obtain ⟨bh, hcap, he, hh0, hh1, -⟩ := Kd.R_form hgv (by omega)
          injection he with he1 he2 he3
          subst he1
          rw [hL] at r1 hgv hxc
          have z1 := sliceLow bh s m (s + m) xc rfl hm0 hxc
          have hm0b : ((m : Int) == 0) = false := by rw [beq_eq_false_iff_ne]; omega
          have hbd : s + m ≤ 1000000 := by omega
          have HBD := Lib.hid hbd
          clear hbd
          have hHS := Lib.hid hxs
          have HGV := Lib.hid hgv
          clear he2 he3 hgv hxs
          go_wp2_with (fail)
          go_quiet (fail)
          all_goals
            have hOw := HOWr.out.moved (W1 := wr.drewN nq) (fun _ _ _ => rfl)
            have bP : BoxC (wr.drewN nq) (w.heap.size + 1) #[.slice qA q.length qc] 25 := BPr.out
            have bO : BoxC (wr.drewN nq) B5 (cellsD cap (some ⟨g, 0, none⟩) l.length c1) 24 := BOr.out
            have bE : BoxC (wr.drewN nq) (w.heap.size + 1 + 1) (cellsD 0 none 0 0) 24 := BEr.out
            have hBn : Below w.heap.size w (wr.drewN nq) := pw_below_drewN hB _
            have hgv : Kd.R kB 5 (wr.drewN nq) w0.heap.size (fun _ => True) (.slice (some ⟨bh, 0, none⟩) (s + m) xc) data := HGV.out
            have hz6 : B5 < (wr.drewN nq).heap.size := hz5
            have hg6 : g < (wr.drewN nq).heap.size := hg2
            have hh6 : bh < (wr.drewN nq).heap.size := hh1
            have hfz6 : ∀ j, (wr.drewN nq).frozen? ⟨g, j, none⟩ = false := hfz
            have s0 : (wr.drewN nq).cell? ⟨g, k * 3, none⟩ = some (.int .i64 no) := r0
            have s1 : (wr.drewN nq).cell? ⟨g, k * 3 + 1, none⟩ = some (.slice (some ⟨bh, 0, none⟩) (s + m) xc) := r1
            have s2 : (wr.drewN nq).cell? ⟨g, k * 3 + 2, none⟩ = some (.int .i64 (s : Int)) := r2
            clear HOWr BPr BOr BEr HGV hB hz5 hg2 hh1 hfz r0 r1 r2 o0 o1
            generalize wr.drewN nq = W1 at *
            go_wp2_with (fail)
            refine (next_calls w (w.heap.size + 1) q qA qc W1 bP hq hBn hqc).mono ?_
            rintro e W2 ⟨rfl, qA2, qc2, bP2, hqc2, hq2, hG2, hz2⟩
            have HOW2 := Lib.hid (hOw.moved (W1 := W2) (fun j hj hj2 => hG2.block j hj2 (by intro e; injection e with e; have := HZ0.out; omega)))
            have HBO2 := Lib.hid (show BoxC W2 B5 _ _ from (hG2.block B5 hz6 (by intro e; injection e with e; have := HZ0.out; have := HGT.out; omega)).trans bO)
            have HBE2 := Lib.hid (show BoxC W2 (w.heap.size + 1 + 1) _ _ from (hG2.block _ (blk_lt bE) (by intro e; injection e with e; omega)).trans bE)
            have hB2 : Below w.heap.size w W2 := hBn.grown hG2 hBn.size (fun j e => by injection e with e; omega)
            rw [← hz2] at hz6 hg6 hh6
            clear hOw bP bO bE hBn hgv hfz6 s0 s1 s2 hG2 hz2
            obtain ⟨v, hqv⟩ : ∃ v, q.headD 0 = v := ⟨_, rfl⟩
            obtain ⟨kk, hkk⟩ : ∃ kk, keepN q m = kk := ⟨_, rfl⟩
            have hkv : min v.toNat m = kk := by rw [← hqv]; exact hkk
            rw [hqv]
            have HKK := Lib.hid hkk
            clear hqv hkk
            have hcase : (v ≤ 0 ∧ kk = 0) ∨ (v = (kk : Int) ∧ 0 < kk ∧ kk < m) ∨ (v = (kk : Int) ∧ kk = m) ∨ ((m : Int) < v ∧ kk = m) := by omega
            clear hkv
            rcases hcase with ⟨hv0, rfl⟩ | ⟨rfl, hk0, hkm⟩ | ⟨rfl, rfl⟩ | ⟨hv0, rfl⟩
            all_goals go_wp2_with (fail)
            -- ARMS
            · refine (next_calls w (w.heap.size + 1) q.tail qA2 qc2 W2 bP2 hq2 hB2 hqc2).mono ?_
              rintro e W3 ⟨rfl, qA3, qc3, bP3, hqc3, hq3, hG3, hz3⟩
              have hOw3 := HOW2.out.moved (W1 := W3) (fun j hj hj2 => hG3.block j hj2 (by intro e; injection e with e; have := HZ0.out; omega))
              have HBO3 := Lib.hid (show BoxC W3 B5 _ _ from (hG3.block B5 hz6 (by intro e; injection e with e; have := HZ0.out; have := HGT.out; omega)).trans HBO2.out)
              have HBE3 := Lib.hid (show BoxC W3 (w.heap.size + 1 + 1) _ _ from (hG3.block _ (blk_lt HBE2.out) (by intro e; injection e with e; omega)).trans HBE2.out)
              have hB3 : Below w.heap.size w W3 := hB2.grown hG3 hB2.size (fun j e => by injection e with e; omega)
              rw [← hz3] at hz6 hg6 hh6
              obtain ⟨x3, hx3, s0, s1, s2, hgd, hfz⟩ := hOw3.get k hlt
              obtain rfl : x3 = ⟨no, some ⟨bh, 0, none⟩, xc, data, (s : Int)⟩ := by
                have := HX.out
                rw [hx3] at this
                injection this
              dsimp only [vX] at s0 s1 s2 hgd
              have hgv : Kd.R kB 5 W3 w0.heap.size (fun _ => True) (.slice (some ⟨bh, 0, none⟩) data.length xc) data := hgd
              rw [hL] at s1 hgv
              have hf1 := hfz (k * 3 + 1)
              have hf2 := hfz (k * 3 + 2)
              have HOW3 := Lib.hid hOw3
              have HGV3 := Lib.hid hgv
              have HBP3 := Lib.hid bP3
              clear hOw3 bP2 hB2 hgd hgv hfz hx3 hG3 hz3 hq2 hqc2 bP3 HOW2 HBO2 HBE2
              obtain ⟨v2, hv2⟩ : ∃ v2, q.tail.headD 0 = v2 := ⟨_, rfl⟩
              rw [hv2]
              obtain ⟨od, hod⟩ : ∃ od, (Int.tmod v2 2 != 0) = od := ⟨_, rfl⟩
              have HV2 := Lib.hid hv2
              clear hv2
              go_wp2_with (fail)
              have z3 := sliceHigh (some ⟨bh, 0, none⟩) (s + m) xc s (by omega)
              have hsum : IntKind.i64.wrap (s : Int) = (s : Int) := i64_of (by have := HBD.out; omega) (by have := HBD.out; omega)
              go_still_tail 13, (by kernel_rfl)
              all_goals change wpList _ _ _ _ _ W3.drew
              have HTL := Lib.hid (show (data.take (s + 0)).length = s by rw [List.length_take, hL]; omega)
              have hcF := crashF_eq no data s m 0 q hL HKK.out
              rw [HV2.out] at hcF
              have HCF := Lib.hid hcF
              have HOD := Lib.hid (show decide (v2 % 2 ≠ 0) = od by rw [← odd_tmod]; exact hod)
              have HB3 := Lib.hid hB3
              clear hcF s0 hB3 hsum
              cases od with
              | false =>
                clear z3
                go_wp2_with (fail)
                have hput : OwnF (((W3.setCell ⟨g, k * 3 + 1, none⟩ (.slice (some ⟨bh, 0, none⟩) s xc)).setCell ⟨g, k * 3 + 2, none⟩ (.int .i64 (s : Int))).drew) w0.heap.size (.slice (some ⟨g, 0, none⟩) l.length c1) l.length (ys.set k ⟨no, some ⟨bh, 0, none⟩, xc, data.take (s + 0), ((s + 0 : Nat) : Int)⟩) := by
                  obtain ⟨cells, hgb⟩ := own_typed HOW3.out.2.1 g rfl
                  have ht : ∀ q, q ∈ (5 : TypeId) :: kB.E → q ≠ 32 := by intro q hq; simp [Kd.int, Kd.scalar] at hq; subst hq; decide
                  have hbb : bh ≠ g := fun e => by
                    obtain ⟨cells2, hgb2⟩ := Kd.R_typed HGV3.out bh rfl
                    rw [e, hgb] at hgb2
                    injection hgb2 with e2
                    injection e2 with _ e3
                    cases e3
                  have hr := row_put (HOW3.out.2.1) HX.out (some ⟨bh, 0, none⟩) xc (data.take (s + 0)) ((s + 0 : Nat) : Int)
                  rw [HTL.out] at hr
                  have hgt : Kd.R kB 5 W3 w0.heap.size (fun _ => True) (.slice (some ⟨bh, 0, none⟩) s xc) (data.take (s + 0)) := Kd.R_take HGV3.out (by rw [hL]; omega)
                  refine HOW3.out.put HX.out (by have h9 := hr.drew; simpa using h9) (fun q hq1 hq2 hq3 hq4 => (Below.heap_setCell _ _ _ q (by exact hq3)).trans (Below.heap_setCell _ _ _ q (by exact hq3))) ?_ (fun q hq => .inl hq)
                  show Kd.R kB 5 _ w0.heap.size (fun _ => True) (.slice (some ⟨bh, 0, none⟩) (data.take (s + 0)).length xc) (data.take (s + 0))
                  rw [HTL.out]
                  exact Kd.R_set (Kd.R_set hgt hgb ht _ _) (blk_set hgb _ _) ht _ _
                have hB5g : B5 ≠ g := fun e => by
                  obtain ⟨cells, hgb⟩ := own_typed HOW3.out.2.1 g rfl
                  have h2 : W3.heap[B5]? = _ := HBO3.out
                  rw [e, hgb] at h2
                  injection h2 with e2
                  injection e2 with _ e3
                  cases e3
                have hB5h : B5 ≠ bh := fun e => by
                  obtain ⟨cells, hgb⟩ := Kd.R_typed HGV3.out bh rfl
                  have h2 : W3.heap[B5]? = _ := HBO3.out
                  rw [e, hgb] at h2
                  injection h2 with e2
                  injection e2 with _ e3
                  cases e3
                have bO4 : BoxC (((W3.setCell ⟨g, k * 3 + 1, none⟩ (.slice (some ⟨bh, 0, none⟩) s xc)).setCell ⟨g, k * 3 + 2, none⟩ (.int .i64 (s : Int))).drew) B5 (cellsD cap (some ⟨g, 0, none⟩) l.length c1) 24 := (HBO3.out.other _ _ hB5g).other _ _ hB5g
                have bP4 : BoxC (((W3.setCell ⟨g, k * 3 + 1, none⟩ (.slice (some ⟨bh, 0, none⟩) s xc)).setCell ⟨g, k * 3 + 2, none⟩ (.int .i64 (s : Int))).drew) (w.heap.size + 1) #[.slice qA3 q.tail.tail.length qc3] 25 := (HBP3.out.other _ _ (by have := HZ0.out; show w.heap.size + 1 ≠ g; omega)).other _ _ (by have := HZ0.out; show w.heap.size + 1 ≠ g; omega)
                have bE4 : BoxC (((W3.setCell ⟨g, k * 3 + 1, none⟩ (.slice (some ⟨bh, 0, none⟩) s xc)).setCell ⟨g, k * 3 + 2, none⟩ (.int .i64 (s : Int))).drew) (w.heap.size + 1 + 1) (cellsD 0 none 0 0) 24 := (HBE3.out.other _ _ (by have := HZ0.out; show w.heap.size + 1 + 1 ≠ g; omega)).other _ _ (by have := HZ0.out; show w.heap.size + 1 + 1 ≠ g; omega)
                have hB4 : Below w.heap.size w (((W3.setCell ⟨g, k * 3 + 1, none⟩ (.slice (some ⟨bh, 0, none⟩) s xc)).setCell ⟨g, k * 3 + 2, none⟩ (.int .i64 (s : Int))).drew) := below_drew ((HB3.out.setCell (p := ⟨g, k * 3 + 1, none⟩) (by have := HZ0.out; show w.heap.size ≤ g; omega) _).setCell (p := ⟨g, k * 3 + 2, none⟩) (by have := HZ0.out; show w.heap.size ≤ g; omega) _)
                have hz7 : B5 < ((((W3.setCell ⟨g, k * 3 + 1, none⟩ (.slice (some ⟨bh, 0, none⟩) s xc)).setCell ⟨g, k * 3 + 2, none⟩ (.int .i64 (s : Int))).drew)).heap.size := by simpa using hz6
                have hcl3 : crashL l p = ((ys.set k ⟨no, some ⟨bh, 0, none⟩, xc, data.take (s + 0), ((s + 0 : Nat) : Int)⟩).map flX).take (k + 1) ++ crashL (l.drop (k + 1)) (q.tail.tail) := by
                  rw [List.map_set, take_set_snoc _ (by rw [List.length_map, HYS.out]; exact hlt), HCL.out.1, HCS.out, if_neg (by show ¬ (s : Int) = (data.length : Int); omega), List.append_assoc]
                  congr 1
                  show crashF ⟨no, data, (s : Int)⟩ q :: crashL (l.drop (k + 1)) (q.drop 2) = _
                  rw [drop_two]
                  rw [HCF.out, if_neg (by have := HOD.out; simpa using this)]
                  rfl
                exact ⟨⟨k + 1, _, q.tail.tail, qA3, qc3, by omega, by go_num, hput, Lib.hid ⟨hcl3, by rw [List.map_set, drop_set_snoc]; exact HDR.out⟩, bO4, bP4, bE4, hq3, hqc3, hB4, hz7⟩, by simp [intOf]; omega⟩
              | true =>
                clear z3
                have hbg : bh ≠ g := fun e => by
                  obtain ⟨cells, hgb⟩ := own_typed HOW3.out.2.1 g rfl
                  obtain ⟨cells2, hgb2⟩ := Kd.R_typed HGV3.out bh rfl
                  rw [e, hgb] at hgb2
                  injection hgb2 with e2
                  injection e2 with _ e3
                  cases e3
                go_wp2_with (fail)
                have hput : OwnF (((W3.setCell ⟨g, k * 3 + 1, none⟩ (.slice (some ⟨bh, 0, none⟩) s xc)).setCell ⟨g, k * 3 + 2, none⟩ (.int .i64 (s : Int))).drew) w0.heap.size (.slice (some ⟨g, 0, none⟩) l.length c1) l.length (ys.set k ⟨no, some ⟨bh, 0, none⟩, xc, data.take (s + 0), ((s + 0 : Nat) : Int)⟩) := by
                  obtain ⟨cells, hgb⟩ := own_typed HOW3.out.2.1 g rfl
                  have ht : ∀ q, q ∈ (5 : TypeId) :: kB.E → q ≠ 32 := by intro q hq; simp [Kd.int, Kd.scalar] at hq; subst hq; decide
                  have hbb : bh ≠ g := fun e => by
                    obtain ⟨cells2, hgb2⟩ := Kd.R_typed HGV3.out bh rfl
                    rw [e, hgb] at hgb2
                    injection hgb2 with e2
                    injection e2 with _ e3
                    cases e3
                  have hr := row_put (HOW3.out.2.1) HX.out (some ⟨bh, 0, none⟩) xc (data.take (s + 0)) ((s + 0 : Nat) : Int)
                  rw [HTL.out] at hr
                  have hgt : Kd.R kB 5 W3 w0.heap.size (fun _ => True) (.slice (some ⟨bh, 0, none⟩) s xc) (data.take (s + 0)) := Kd.R_take HGV3.out (by rw [hL]; omega)
                  refine HOW3.out.put HX.out (by have h9 := hr.drew; simpa using h9) (fun q hq1 hq2 hq3 hq4 => (Below.heap_setCell _ _ _ q (by exact hq3)).trans (Below.heap_setCell _ _ _ q (by exact hq3))) ?_ (fun q hq => .inl hq)
                  show Kd.R kB 5 _ w0.heap.size (fun _ => True) (.slice (some ⟨bh, 0, none⟩) (data.take (s + 0)).length xc) (data.take (s + 0))
                  rw [HTL.out]
                  exact Kd.R_set (Kd.R_set hgt hgb ht _ _) (blk_set hgb _ _) ht _ _
                have hB5g : B5 ≠ g := fun e => by
                  obtain ⟨cells, hgb⟩ := own_typed HOW3.out.2.1 g rfl
                  have h2 : W3.heap[B5]? = _ := HBO3.out
                  rw [e, hgb] at h2
                  injection h2 with e2
                  injection e2 with _ e3
                  cases e3
                have hB5h : B5 ≠ bh := fun e => by
                  obtain ⟨cells, hgb⟩ := Kd.R_typed HGV3.out bh rfl
                  have h2 : W3.heap[B5]? = _ := HBO3.out
                  rw [e, hgb] at h2
                  injection h2 with e2
                  injection e2 with _ e3
                  cases e3
                have bO4 : BoxC (((W3.setCell ⟨g, k * 3 + 1, none⟩ (.slice (some ⟨bh, 0, none⟩) s xc)).setCell ⟨g, k * 3 + 2, none⟩ (.int .i64 (s : Int))).drew) B5 (cellsD cap (some ⟨g, 0, none⟩) l.length c1) 24 := (HBO3.out.other _ _ hB5g).other _ _ hB5g
                have bP4 : BoxC (((W3.setCell ⟨g, k * 3 + 1, none⟩ (.slice (some ⟨bh, 0, none⟩) s xc)).setCell ⟨g, k * 3 + 2, none⟩ (.int .i64 (s : Int))).drew) (w.heap.size + 1) #[.slice qA3 q.tail.tail.length qc3] 25 := (HBP3.out.other _ _ (by have := HZ0.out; show w.heap.size + 1 ≠ g; omega)).other _ _ (by have := HZ0.out; show w.heap.size + 1 ≠ g; omega)
                have bE4 : BoxC (((W3.setCell ⟨g, k * 3 + 1, none⟩ (.slice (some ⟨bh, 0, none⟩) s xc)).setCell ⟨g, k * 3 + 2, none⟩ (.int .i64 (s : Int))).drew) (w.heap.size + 1 + 1) (cellsD 0 none 0 0) 24 := (HBE3.out.other _ _ (by have := HZ0.out; show w.heap.size + 1 + 1 ≠ g; omega)).other _ _ (by have := HZ0.out; show w.heap.size + 1 + 1 ≠ g; omega)
                have hB4 : Below w.heap.size w (((W3.setCell ⟨g, k * 3 + 1, none⟩ (.slice (some ⟨bh, 0, none⟩) s xc)).setCell ⟨g, k * 3 + 2, none⟩ (.int .i64 (s : Int))).drew) := below_drew ((HB3.out.setCell (p := ⟨g, k * 3 + 1, none⟩) (by have := HZ0.out; show w.heap.size ≤ g; omega) _).setCell (p := ⟨g, k * 3 + 2, none⟩) (by have := HZ0.out; show w.heap.size ≤ g; omega) _)
                have hz7 : B5 < ((((W3.setCell ⟨g, k * 3 + 1, none⟩ (.slice (some ⟨bh, 0, none⟩) s xc)).setCell ⟨g, k * 3 + 2, none⟩ (.int .i64 (s : Int))).drew)).heap.size := by simpa using hz6
                have hgl : Kd.R kB 5 (((W3.setCell ⟨g, k * 3 + 1, none⟩ (.slice (some ⟨bh, 0, none⟩) s xc)).setCell ⟨g, k * 3 + 2, none⟩ (.int .i64 (s : Int))).drew) w0.heap.size (fun _ => True) (.slice (some ⟨bh, 0, none⟩) s xc) (data.take (s + 0)) := by
                  have := hput.2.2.1 k _ (List.getElem?_set_self (by rw [HYS.out]; exact hlt))
                  have h2 : Kd.R kB 5 _ w0.heap.size (fun _ => True) (.slice (some ⟨bh, 0, none⟩) (data.take (s + 0)).length xc) (data.take (s + 0)) := this
                  rw [HTL.out] at h2
                  exact h2
                generalize (((W3.setCell ⟨g, k * 3 + 1, none⟩ (.slice (some ⟨bh, 0, none⟩) s xc)).setCell ⟨g, k * 3 + 2, none⟩ (.int .i64 (s : Int))).drew) = w4 at *
                have HPUT := Lib.hid hput
                have HBO4 := Lib.hid bO4
                have HBP4 := Lib.hid bP4
                have HBE4 := Lib.hid bE4
                have HB4 := Lib.hid hB4
                have hgl0 := hgl
                rw [← tornTo_same (data.take (s + 0)) (s + (0 - 8))] at hgl0
                have HGL := Lib.hid hgl0
                clear hput bO4 bP4 bE4 hB4 hgl hgl0 s1 s2 hf1 hf2 HOW3 HGV3 HBP3 HBO3 HBE3 HB3 hz6 hg6 hh6
                go_loopw [11] (fun i wz => ∃ j : Nat, i = .int .i64 (j : Int) ∧ 0 - 8 ≤ j ∧ j ≤ 0 ∧ Kd.R kB 5 wz w0.heap.size (fun _ => True) (.slice (some ⟨bh, 0, none⟩) s xc) (tornTo (data.take (s + 0)) (s + (0 - 8)) (s + j)) ∧ w4.grownBy wz (some bh)) (fun i _ => 0 - (intOf i).toNat)
                case atStart => exact ⟨0 - 8, by first | rfl | (congr 1; omega), Nat.le_refl _, by omega, HGL.out, World.grownBy.refl _ _⟩
                case round =>
                  obtain ⟨j, rfl, hj0, hj1, hgr, hgw⟩ := hrel
                  have hjli : ¬ (j : Int) < 0 := by omega
                  obtain rfl : j = 0 := by omega
                  have hx4 : (ys.set k ⟨no, some ⟨bh, 0, none⟩, xc, data.take (s + 0), ((s + 0 : Nat) : Int)⟩)[k]? = some ⟨no, some ⟨bh, 0, none⟩, xc, data.take (s + 0), ((s + 0 : Nat) : Int)⟩ := List.getElem?_set_self (by rw [HYS.out]; exact hlt)
                  have hrow5 : wr.ownsRow w0.heap.size 32 3 (.slice (some ⟨g, 0, none⟩) l.length c1) l.length (flat ((ys.set k ⟨no, some ⟨bh, 0, none⟩, xc, data.take (s + 0), ((s + 0 : Nat) : Int)⟩).set k ⟨no, some ⟨bh, 0, none⟩, xc, tornTo (data.take (s + 0)) (s + (0 - 8)) (s + 0), ((s + 0 : Nat) : Int)⟩)) := by
                    have h1 : (flat ((ys.set k ⟨no, some ⟨bh, 0, none⟩, xc, data.take (s + 0), ((s + 0 : Nat) : Int)⟩).set k ⟨no, some ⟨bh, 0, none⟩, xc, tornTo (data.take (s + 0)) (s + (0 - 8)) (s + 0), ((s + 0 : Nat) : Int)⟩)) = flat (ys.set k ⟨no, some ⟨bh, 0, none⟩, xc, data.take (s + 0), ((s + 0 : Nat) : Int)⟩) := by
                      rw [List.set_set]
                      apply List.ext_getElem?
                      intro q9
                      have hq9 : q9 = q9 / 3 * 3 + q9 % 3 := by omega
                      rw [hq9, flat_get _ _ _ (by omega), flat_get _ _ _ (by omega)]
                      by_cases hkq : k = q9 / 3
                      · rw [← hkq, List.getElem?_set_self (by rw [HYS.out]; exact hlt), List.getElem?_set_self (by rw [HYS.out]; exact hlt)]
                        show (cellsX ⟨no, some ⟨bh, 0, none⟩, xc, tornTo (data.take (s + 0)) (s + (0 - 8)) (s + 0), ((s + 0 : Nat) : Int)⟩)[q9 % 3]? = (cellsX ⟨no, some ⟨bh, 0, none⟩, xc, data.take (s + 0), ((s + 0 : Nat) : Int)⟩)[q9 % 3]?
                        unfold cellsX vX
                        dsimp only
                        rw [tornTo_len]
                      · rw [List.getElem?_set_ne hkq, List.getElem?_set_ne hkq]
                    rw [h1]
                    exact own_move HPUT.out.2.1 (fun q9 hq9 => hgw.block q9 (own_lt HPUT.out.2.1 q9 hq9) (by
                      intro e
                      injection e with e
                      have hq10 : g = q9 := by simpa [Value.ownBlock] using hq9
                      exact hbg (by omega)))
                  have hput5 := HPUT.out.put hx4 hrow5 (fun q9 h1 h2 h3 h4 => hgw.block q9 h2 (fun e => h4 (by
                      injection e with e
                      have e9 : q9 = bh := by omega
                      subst e9
                      rfl))) (by
                    show Kd.R kB 5 wr w0.heap.size (fun _ => True) (.slice (some ⟨bh, 0, none⟩) (tornTo (data.take (s + 0)) (s + (0 - 8)) (s + 0)).length xc) _
                    rw [tornTo_len, HTL.out]
                    exact hgr) (fun q9 h => .inl h)
                  rw [List.set_set] at hput5
                  have bO5 := (hgw.block B5 hz7 (by intro e; injection e with e; exact hB5h (by omega))).trans HBO4.out
                  have bP5 := (hgw.block (w.heap.size + 1) (blk_lt HBP4.out) (by intro e; injection e with e; have := HZ0.out; omega)).trans HBP4.out
                  have bE5 := (hgw.block (w.heap.size + 1 + 1) (blk_lt HBE4.out) (by intro e; injection e with e; have := HZ0.out; omega)).trans HBE4.out
                  have hB5 := HB4.out.grown hgw HB4.out.size (fun j9 e => by injection e with e; have := HZ0.out; omega)
                  have hz8 : B5 < wr.heap.size := Nat.lt_of_lt_of_le hz7 hgw.size
                  have HP5 := Lib.hid hput5
                  clear hput5 hrow5 hx4 hgr hgw
                  have hcl3 : crashL l p = ((ys.set k ⟨no, some ⟨bh, 0, none⟩, xc, tornTo (data.take (s + 0)) (s + (0 - 8)) (s + 0), ((s + 0 : Nat) : Int)⟩).map flX).take (k + 1) ++ crashL (l.drop (k + 1)) (q.tail.tail) := by
                    rw [List.map_set, take_set_snoc _ (by rw [List.length_map, HYS.out]; exact hlt), HCL.out.1, HCS.out, if_neg (by show ¬ (s : Int) = (data.length : Int); omega), List.append_assoc]
                    congr 1
                    show crashF ⟨no, data, (s : Int)⟩ q :: crashL (l.drop (k + 1)) (q.drop 2) = _
                    rw [drop_two]
                    rw [HCF.out, if_pos (by have := HOD.out; simpa using this), tornB_to, HTL.out, show max s (s - 8) = s + (0 - 8) by omega]
                    rfl
                  go_wp2_with (fail)
                  exact ⟨⟨k + 1, _, q.tail.tail, qA3, qc3, by omega, by go_num, HP5.out, Lib.hid ⟨hcl3, by rw [List.map_set, drop_set_snoc]; exact HDR.out⟩, bO5, bP5, bE5, hq3, hqc3, hB5, hz8⟩, by simp [intOf]; omega⟩
            · refine (next_calls w (w.heap.size + 1) q.tail qA2 qc2 W2 bP2 hq2 hB2 hqc2).mono ?_
              rintro e W3 ⟨rfl, qA3, qc3, bP3, hqc3, hq3, hG3, hz3⟩
              have hOw3 := HOW2.out.moved (W1 := W3) (fun j hj hj2 => hG3.block j hj2 (by intro e; injection e with e; have := HZ0.out; omega))
              have HBO3 := Lib.hid (show BoxC W3 B5 _ _ from (hG3.block B5 hz6 (by intro e; injection e with e; have := HZ0.out; have := HGT.out; omega)).trans HBO2.out)
              have HBE3 := Lib.hid (show BoxC W3 (w.heap.size + 1 + 1) _ _ from (hG3.block _ (blk_lt HBE2.out) (by intro e; injection e with e; omega)).trans HBE2.out)
              have hB3 : Below w.heap.size w W3 := hB2.grown hG3 hB2.size (fun j e => by injection e with e; omega)
              rw [← hz3] at hz6 hg6 hh6
              obtain ⟨x3, hx3, s0, s1, s2, hgd, hfz⟩ := hOw3.get k hlt
              obtain rfl : x3 = ⟨no, some ⟨bh, 0, none⟩, xc, data, (s : Int)⟩ := by
                have := HX.out
                rw [hx3] at this
                injection this
              dsimp only [vX] at s0 s1 s2 hgd
              have hgv : Kd.R kB 5 W3 w0.heap.size (fun _ => True) (.slice (some ⟨bh, 0, none⟩) data.length xc) data := hgd
              rw [hL] at s1 hgv
              have hf1 := hfz (k * 3 + 1)
              have hf2 := hfz (k * 3 + 2)
              have HOW3 := Lib.hid hOw3
              have HGV3 := Lib.hid hgv
              have HBP3 := Lib.hid bP3
              clear hOw3 bP2 hB2 hgd hgv hfz hx3 hG3 hz3 hq2 hqc2 bP3 HOW2 HBO2 HBE2
              obtain ⟨v2, hv2⟩ : ∃ v2, q.tail.headD 0 = v2 := ⟨_, rfl⟩
              rw [hv2]
              obtain ⟨od, hod⟩ : ∃ od, (Int.tmod v2 2 != 0) = od := ⟨_, rfl⟩
              have HV2 := Lib.hid hv2
              clear hv2
              go_wp2_with (fail)
              have z3 := sliceHigh (some ⟨bh, 0, none⟩) (s + m) xc (s + kk) (by omega)
              simp only [Int.natCast_add] at z3
              have hsum : IntKind.i64.wrap ((s : Int) + (kk : Int)) = (s : Int) + (kk : Int) := i64_of (by have := HBD.out; omega) (by have := HBD.out; omega)
              go_still_tail 13, (by kernel_rfl)
              all_goals change wpList _ _ _ _ _ W3.drew
              have HTL := Lib.hid (show (data.take (s + kk)).length = (s + kk) by rw [List.length_take, hL]; omega)
              have hcF := crashF_eq no data s m kk q hL HKK.out
              rw [HV2.out] at hcF
              have HCF := Lib.hid hcF
              have HOD := Lib.hid (show decide (v2 % 2 ≠ 0) = od by rw [← odd_tmod]; exact hod)
              have HB3 := Lib.hid hB3
              clear hcF s0 hB3 hsum
              cases od with
              | false =>
                clear z3
                go_wp2_with (fail)
                have hput : OwnF (((W3.setCell ⟨g, k * 3 + 1, none⟩ (.slice (some ⟨bh, 0, none⟩) (s + kk) xc)).setCell ⟨g, k * 3 + 2, none⟩ (.int .i64 ((s : Int) + (kk : Int)))).drew) w0.heap.size (.slice (some ⟨g, 0, none⟩) l.length c1) l.length (ys.set k ⟨no, some ⟨bh, 0, none⟩, xc, data.take (s + kk), ((s + kk : Nat) : Int)⟩) := by
                  obtain ⟨cells, hgb⟩ := own_typed HOW3.out.2.1 g rfl
                  have ht : ∀ q, q ∈ (5 : TypeId) :: kB.E → q ≠ 32 := by intro q hq; simp [Kd.int, Kd.scalar] at hq; subst hq; decide
                  have hbb : bh ≠ g := fun e => by
                    obtain ⟨cells2, hgb2⟩ := Kd.R_typed HGV3.out bh rfl
                    rw [e, hgb] at hgb2
                    injection hgb2 with e2
                    injection e2 with _ e3
                    cases e3
                  have hr := row_put (HOW3.out.2.1) HX.out (some ⟨bh, 0, none⟩) xc (data.take (s + kk)) ((s + kk : Nat) : Int)
                  rw [HTL.out] at hr
                  have hgt : Kd.R kB 5 W3 w0.heap.size (fun _ => True) (.slice (some ⟨bh, 0, none⟩) (s + kk) xc) (data.take (s + kk)) := Kd.R_take HGV3.out (by rw [hL]; omega)
                  refine HOW3.out.put HX.out (by have h9 := hr.drew; simpa using h9) (fun q hq1 hq2 hq3 hq4 => (Below.heap_setCell _ _ _ q (by exact hq3)).trans (Below.heap_setCell _ _ _ q (by exact hq3))) ?_ (fun q hq => .inl hq)
                  show Kd.R kB 5 _ w0.heap.size (fun _ => True) (.slice (some ⟨bh, 0, none⟩) (data.take (s + kk)).length xc) (data.take (s + kk))
                  rw [HTL.out]
                  exact Kd.R_set (Kd.R_set hgt hgb ht _ _) (blk_set hgb _ _) ht _ _
                have hB5g : B5 ≠ g := fun e => by
                  obtain ⟨cells, hgb⟩ := own_typed HOW3.out.2.1 g rfl
                  have h2 : W3.heap[B5]? = _ := HBO3.out
                  rw [e, hgb] at h2
                  injection h2 with e2
                  injection e2 with _ e3
                  cases e3
                have hB5h : B5 ≠ bh := fun e => by
                  obtain ⟨cells, hgb⟩ := Kd.R_typed HGV3.out bh rfl
                  have h2 : W3.heap[B5]? = _ := HBO3.out
                  rw [e, hgb] at h2
                  injection h2 with e2
                  injection e2 with _ e3
                  cases e3
                have bO4 : BoxC (((W3.setCell ⟨g, k * 3 + 1, none⟩ (.slice (some ⟨bh, 0, none⟩) (s + kk) xc)).setCell ⟨g, k * 3 + 2, none⟩ (.int .i64 ((s : Int) + (kk : Int)))).drew) B5 (cellsD cap (some ⟨g, 0, none⟩) l.length c1) 24 := (HBO3.out.other _ _ hB5g).other _ _ hB5g
                have bP4 : BoxC (((W3.setCell ⟨g, k * 3 + 1, none⟩ (.slice (some ⟨bh, 0, none⟩) (s + kk) xc)).setCell ⟨g, k * 3 + 2, none⟩ (.int .i64 ((s : Int) + (kk : Int)))).drew) (w.heap.size + 1) #[.slice qA3 q.tail.tail.length qc3] 25 := (HBP3.out.other _ _ (by have := HZ0.out; show w.heap.size + 1 ≠ g; omega)).other _ _ (by have := HZ0.out; show w.heap.size + 1 ≠ g; omega)
                have bE4 : BoxC (((W3.setCell ⟨g, k * 3 + 1, none⟩ (.slice (some ⟨bh, 0, none⟩) (s + kk) xc)).setCell ⟨g, k * 3 + 2, none⟩ (.int .i64 ((s : Int) + (kk : Int)))).drew) (w.heap.size + 1 + 1) (cellsD 0 none 0 0) 24 := (HBE3.out.other _ _ (by have := HZ0.out; show w.heap.size + 1 + 1 ≠ g; omega)).other _ _ (by have := HZ0.out; show w.heap.size + 1 + 1 ≠ g; omega)
                have hB4 : Below w.heap.size w (((W3.setCell ⟨g, k * 3 + 1, none⟩ (.slice (some ⟨bh, 0, none⟩) (s + kk) xc)).setCell ⟨g, k * 3 + 2, none⟩ (.int .i64 ((s : Int) + (kk : Int)))).drew) := below_drew ((HB3.out.setCell (p := ⟨g, k * 3 + 1, none⟩) (by have := HZ0.out; show w.heap.size ≤ g; omega) _).setCell (p := ⟨g, k * 3 + 2, none⟩) (by have := HZ0.out; show w.heap.size ≤ g; omega) _)
                have hz7 : B5 < ((((W3.setCell ⟨g, k * 3 + 1, none⟩ (.slice (some ⟨bh, 0, none⟩) (s + kk) xc)).setCell ⟨g, k * 3 + 2, none⟩ (.int .i64 ((s : Int) + (kk : Int)))).drew)).heap.size := by simpa using hz6
                have hcl3 : crashL l p = ((ys.set k ⟨no, some ⟨bh, 0, none⟩, xc, data.take (s + kk), ((s + kk : Nat) : Int)⟩).map flX).take (k + 1) ++ crashL (l.drop (k + 1)) (q.tail.tail) := by
                  rw [List.map_set, take_set_snoc _ (by rw [List.length_map, HYS.out]; exact hlt), HCL.out.1, HCS.out, if_neg (by show ¬ (s : Int) = (data.length : Int); omega), List.append_assoc]
                  congr 1
                  show crashF ⟨no, data, (s : Int)⟩ q :: crashL (l.drop (k + 1)) (q.drop 2) = _
                  rw [drop_two]
                  rw [HCF.out, if_neg (by have := HOD.out; simpa using this)]
                  rfl
                exact ⟨⟨k + 1, _, q.tail.tail, qA3, qc3, by omega, by go_num, hput, Lib.hid ⟨hcl3, by rw [List.map_set, drop_set_snoc]; exact HDR.out⟩, bO4, bP4, bE4, hq3, hqc3, hB4, hz7⟩, by simp [intOf]; omega⟩
              | true =>
                clear z3
                have hbg : bh ≠ g := fun e => by
                  obtain ⟨cells, hgb⟩ := own_typed HOW3.out.2.1 g rfl
                  obtain ⟨cells2, hgb2⟩ := Kd.R_typed HGV3.out bh rfl
                  rw [e, hgb] at hgb2
                  injection hgb2 with e2
                  injection e2 with _ e3
                  cases e3
                have hkb : (kk : Int) ≤ 1000000 := by have := HBD.out; omega
                by_cases h8 : (0 : Int) < (kk : Int) - 8
                · have h8a : ¬ (kk : Int) - 8 ≤ 0 := by omega
                  have h8b : ¬ (kk : Int) - 8 < 0 := by omega
                  have h8c : (8 : Int) < (kk : Int) := by omega
                  go_wp2_with (fail)
                  have hput : OwnF (((W3.setCell ⟨g, k * 3 + 1, none⟩ (.slice (some ⟨bh, 0, none⟩) (s + kk) xc)).setCell ⟨g, k * 3 + 2, none⟩ (.int .i64 ((s : Int) + (kk : Int)))).drew) w0.heap.size (.slice (some ⟨g, 0, none⟩) l.length c1) l.length (ys.set k ⟨no, some ⟨bh, 0, none⟩, xc, data.take (s + kk), ((s + kk : Nat) : Int)⟩) := by
                    obtain ⟨cells, hgb⟩ := own_typed HOW3.out.2.1 g rfl
                    have ht : ∀ q, q ∈ (5 : TypeId) :: kB.E → q ≠ 32 := by intro q hq; simp [Kd.int, Kd.scalar] at hq; subst hq; decide
                    have hbb : bh ≠ g := fun e => by
                      obtain ⟨cells2, hgb2⟩ := Kd.R_typed HGV3.out bh rfl
                      rw [e, hgb] at hgb2
                      injection hgb2 with e2
                      injection e2 with _ e3
                      cases e3
                    have hr := row_put (HOW3.out.2.1) HX.out (some ⟨bh, 0, none⟩) xc (data.take (s + kk)) ((s + kk : Nat) : Int)
                    rw [HTL.out] at hr
                    have hgt : Kd.R kB 5 W3 w0.heap.size (fun _ => True) (.slice (some ⟨bh, 0, none⟩) (s + kk) xc) (data.take (s + kk)) := Kd.R_take HGV3.out (by rw [hL]; omega)
                    refine HOW3.out.put HX.out (by have h9 := hr.drew; simpa using h9) (fun q hq1 hq2 hq3 hq4 => (Below.heap_setCell _ _ _ q (by exact hq3)).trans (Below.heap_setCell _ _ _ q (by exact hq3))) ?_ (fun q hq => .inl hq)
                    show Kd.R kB 5 _ w0.heap.size (fun _ => True) (.slice (some ⟨bh, 0, none⟩) (data.take (s + kk)).length xc) (data.take (s + kk))
                    rw [HTL.out]
                    exact Kd.R_set (Kd.R_set hgt hgb ht _ _) (blk_set hgb _ _) ht _ _
                  have hB5g : B5 ≠ g := fun e => by
                    obtain ⟨cells, hgb⟩ := own_typed HOW3.out.2.1 g rfl
                    have h2 : W3.heap[B5]? = _ := HBO3.out
                    rw [e, hgb] at h2
                    injection h2 with e2
                    injection e2 with _ e3
                    cases e3
                  have hB5h : B5 ≠ bh := fun e => by
                    obtain ⟨cells, hgb⟩ := Kd.R_typed HGV3.out bh rfl
                    have h2 : W3.heap[B5]? = _ := HBO3.out
                    rw [e, hgb] at h2
                    injection h2 with e2
                    injection e2 with _ e3
                    cases e3
                  have bO4 : BoxC (((W3.setCell ⟨g, k * 3 + 1, none⟩ (.slice (some ⟨bh, 0, none⟩) (s + kk) xc)).setCell ⟨g, k * 3 + 2, none⟩ (.int .i64 ((s : Int) + (kk : Int)))).drew) B5 (cellsD cap (some ⟨g, 0, none⟩) l.length c1) 24 := (HBO3.out.other _ _ hB5g).other _ _ hB5g
                  have bP4 : BoxC (((W3.setCell ⟨g, k * 3 + 1, none⟩ (.slice (some ⟨bh, 0, none⟩) (s + kk) xc)).setCell ⟨g, k * 3 + 2, none⟩ (.int .i64 ((s : Int) + (kk : Int)))).drew) (w.heap.size + 1) #[.slice qA3 q.tail.tail.length qc3] 25 := (HBP3.out.other _ _ (by have := HZ0.out; show w.heap.size + 1 ≠ g; omega)).other _ _ (by have := HZ0.out; show w.heap.size + 1 ≠ g; omega)
                  have bE4 : BoxC (((W3.setCell ⟨g, k * 3 + 1, none⟩ (.slice (some ⟨bh, 0, none⟩) (s + kk) xc)).setCell ⟨g, k * 3 + 2, none⟩ (.int .i64 ((s : Int) + (kk : Int)))).drew) (w.heap.size + 1 + 1) (cellsD 0 none 0 0) 24 := (HBE3.out.other _ _ (by have := HZ0.out; show w.heap.size + 1 + 1 ≠ g; omega)).other _ _ (by have := HZ0.out; show w.heap.size + 1 + 1 ≠ g; omega)
                  have hB4 : Below w.heap.size w (((W3.setCell ⟨g, k * 3 + 1, none⟩ (.slice (some ⟨bh, 0, none⟩) (s + kk) xc)).setCell ⟨g, k * 3 + 2, none⟩ (.int .i64 ((s : Int) + (kk : Int)))).drew) := below_drew ((HB3.out.setCell (p := ⟨g, k * 3 + 1, none⟩) (by have := HZ0.out; show w.heap.size ≤ g; omega) _).setCell (p := ⟨g, k * 3 + 2, none⟩) (by have := HZ0.out; show w.heap.size ≤ g; omega) _)
                  have hz7 : B5 < ((((W3.setCell ⟨g, k * 3 + 1, none⟩ (.slice (some ⟨bh, 0, none⟩) (s + kk) xc)).setCell ⟨g, k * 3 + 2, none⟩ (.int .i64 ((s : Int) + (kk : Int)))).drew)).heap.size := by simpa using hz6
                  have hgl : Kd.R kB 5 (((W3.setCell ⟨g, k * 3 + 1, none⟩ (.slice (some ⟨bh, 0, none⟩) (s + kk) xc)).setCell ⟨g, k * 3 + 2, none⟩ (.int .i64 ((s : Int) + (kk : Int)))).drew) w0.heap.size (fun _ => True) (.slice (some ⟨bh, 0, none⟩) (s + kk) xc) (data.take (s + kk)) := by
                    have := hput.2.2.1 k _ (List.getElem?_set_self (by rw [HYS.out]; exact hlt))
                    have h2 : Kd.R kB 5 _ w0.heap.size (fun _ => True) (.slice (some ⟨bh, 0, none⟩) (data.take (s + kk)).length xc) (data.take (s + kk)) := this
                    rw [HTL.out] at h2
                    exact h2
                  generalize (((W3.setCell ⟨g, k * 3 + 1, none⟩ (.slice (some ⟨bh, 0, none⟩) (s + kk) xc)).setCell ⟨g, k * 3 + 2, none⟩ (.int .i64 ((s : Int) + (kk : Int)))).drew) = w4 at *
                  have HPUT := Lib.hid hput
                  have HBO4 := Lib.hid bO4
                  have HBP4 := Lib.hid bP4
                  have HBE4 := Lib.hid bE4
                  have HB4 := Lib.hid hB4
                  have hgl0 := hgl
                  rw [← tornTo_same (data.take (s + kk)) (s + (kk - 8))] at hgl0
                  have HGL := Lib.hid hgl0
                  clear hput bO4 bP4 bE4 hB4 hgl hgl0 s1 s2 hf1 hf2 HOW3 HGV3 HBP3 HBO3 HBE3 HB3 hz6 hg6 hh6
                  go_loopw [11] (fun i wz => ∃ j : Nat, i = .int .i64 (j : Int) ∧ kk - 8 ≤ j ∧ j ≤ kk ∧ Kd.R kB 5 wz w0.heap.size (fun _ => True) (.slice (some ⟨bh, 0, none⟩) (s + kk) xc) (tornTo (data.take (s + kk)) (s + (kk - 8)) (s + j)) ∧ w4.grownBy wz (some bh)) (fun i _ => kk - (intOf i).toNat)
                  case atStart => exact ⟨kk - 8, by first | rfl | (congr 1; omega), Nat.le_refl _, by omega, HGL.out, World.grownBy.refl _ _⟩
                  case round =>
                    obtain ⟨j, rfl, hj0, hj1, hgr, hgw⟩ := hrel
                    by_cases hjl : j < kk
                    · have hjli : (j : Int) < (kk : Int) := by omega
                      have hln : (tornTo (data.take (s + kk)) (s + (kk - 8)) (s + j)).length = (s + kk) := by rw [tornTo_len, HTL.out]
                      have hlt2 : s + j < (data.take (s + kk)).length := by rw [HTL.out]; omega
                      have hy : (tornTo (data.take (s + kk)) (s + (kk - 8)) (s + j))[s + j]? = some ((data.take (s + kk))[s + j]) := by
                        rw [tornTo_get, List.getElem?_eq_getElem hlt2, Option.map_some, if_neg (by omega)]
                      have hset := tornTo_set (data.take (s + kk)) (s + (kk - 8)) (s + j) (by omega) hlt2
                      have hyo : 0 ≤ (data.take (s + kk))[s + j] ∧ (data.take (s + kk))[s + j] ≤ 255 := HXO.out _ (List.mem_of_mem_take (List.getElem_mem hlt2))
                      generalize (data.take (s + kk))[s + j] = y at *
                      have hgr2 : Kd.R kB 5 wr w0.heap.size (fun _ => True) (.slice (some ⟨bh, 0, none⟩) (tornTo (data.take (s + kk)) (s + (kk - 8)) (s + j)).length xc) (tornTo (data.take (s + kk)) (s + (kk - 8)) (s + j)) := by
                        rw [hln]
                        exact hgr
                      obtain ⟨hce, hfr⟩ := Kd.R_cell (0 : Int) hgr2 ((s + j : Nat) : Int) (by omega) (by rw [hln]; omega)
                      rw [Int.toNat_natCast] at hce hfr
                      have hrd : rdOf (0 : Int) (tornTo (data.take (s + kk)) (s + (kk - 8)) (s + j)) ((s + j : Nat) : Int) = y := by
                        unfold rdOf
                        rw [Int.toNat_natCast, List.getD_eq_getElem?_getD, hy]
                        rfl
                      rw [hrd] at hce
                      have hst := Kd.R_put hgr2 ((s + j : Nat) : Int) (xorT y)
                      rw [Int.toNat_natCast, hset, hln] at hst
                      have HST := Lib.hid hst
                      have HGW := Lib.hid hgw
                      have hxy := u8_xorT y hyo
                      have HXY := Lib.hid hxy
                      clear hst hgr hgr2 hset hy hrd hln hyo hlt2 hgw hxy
                      go_wp2_with (fail)
                      rw [HXY.out]
                      go_roundw
                      case rel => exact ⟨j + 1, by go_num, by omega, by omega, HST.out.1, HGW.out.trans HST.out.2⟩
                      case measure => simp [intOf]; omega
                    · have hjli : ¬ (j : Int) < (kk : Int) := by omega
                      obtain rfl : kk = j := by omega
                      have hx4 : (ys.set k ⟨no, some ⟨bh, 0, none⟩, xc, data.take (s + kk), ((s + kk : Nat) : Int)⟩)[k]? = some ⟨no, some ⟨bh, 0, none⟩, xc, data.take (s + kk), ((s + kk : Nat) : Int)⟩ := List.getElem?_set_self (by rw [HYS.out]; exact hlt)
                      have hrow5 : wr.ownsRow w0.heap.size 32 3 (.slice (some ⟨g, 0, none⟩) l.length c1) l.length (flat ((ys.set k ⟨no, some ⟨bh, 0, none⟩, xc, data.take (s + kk), ((s + kk : Nat) : Int)⟩).set k ⟨no, some ⟨bh, 0, none⟩, xc, tornTo (data.take (s + kk)) (s + (kk - 8)) (s + kk), ((s + kk : Nat) : Int)⟩)) := by
                        have h1 : (flat ((ys.set k ⟨no, some ⟨bh, 0, none⟩, xc, data.take (s + kk), ((s + kk : Nat) : Int)⟩).set k ⟨no, some ⟨bh, 0, none⟩, xc, tornTo (data.take (s + kk)) (s + (kk - 8)) (s + kk), ((s + kk : Nat) : Int)⟩)) = flat (ys.set k ⟨no, some ⟨bh, 0, none⟩, xc, data.take (s + kk), ((s + kk : Nat) : Int)⟩) := by
                          rw [List.set_set]
                          apply List.ext_getElem?
                          intro q9
                          have hq9 : q9 = q9 / 3 * 3 + q9 % 3 := by omega
                          rw [hq9, flat_get _ _ _ (by omega), flat_get _ _ _ (by omega)]
                          by_cases hkq : k = q9 / 3
                          · rw [← hkq, List.getElem?_set_self (by rw [HYS.out]; exact hlt), List.getElem?_set_self (by rw [HYS.out]; exact hlt)]
                            show (cellsX ⟨no, some ⟨bh, 0, none⟩, xc, tornTo (data.take (s + kk)) (s + (kk - 8)) (s + kk), ((s + kk : Nat) : Int)⟩)[q9 % 3]? = (cellsX ⟨no, some ⟨bh, 0, none⟩, xc, data.take (s + kk), ((s + kk : Nat) : Int)⟩)[q9 % 3]?
                            unfold cellsX vX
                            dsimp only
                            rw [tornTo_len]
                          · rw [List.getElem?_set_ne hkq, List.getElem?_set_ne hkq]
                        rw [h1]
                        exact own_move HPUT.out.2.1 (fun q9 hq9 => hgw.block q9 (own_lt HPUT.out.2.1 q9 hq9) (by
                          intro e
                          injection e with e
                          have hq10 : g = q9 := by simpa [Value.ownBlock] using hq9
                          exact hbg (by omega)))
                      have hput5 := HPUT.out.put hx4 hrow5 (fun q9 h1 h2 h3 h4 => hgw.block q9 h2 (fun e => h4 (by
                          injection e with e
                          have e9 : q9 = bh := by omega
                          subst e9
                          rfl))) (by
                        show Kd.R kB 5 wr w0.heap.size (fun _ => True) (.slice (some ⟨bh, 0, none⟩) (tornTo (data.take (s + kk)) (s + (kk - 8)) (s + kk)).length xc) _
                        rw [tornTo_len, HTL.out]
                        exact hgr) (fun q9 h => .inl h)
                      rw [List.set_set] at hput5
                      have bO5 := (hgw.block B5 hz7 (by intro e; injection e with e; exact hB5h (by omega))).trans HBO4.out
                      have bP5 := (hgw.block (w.heap.size + 1) (blk_lt HBP4.out) (by intro e; injection e with e; have := HZ0.out; omega)).trans HBP4.out
                      have bE5 := (hgw.block (w.heap.size + 1 + 1) (blk_lt HBE4.out) (by intro e; injection e with e; have := HZ0.out; omega)).trans HBE4.out
                      have hB5 := HB4.out.grown hgw HB4.out.size (fun j9 e => by injection e with e; have := HZ0.out; omega)
                      have hz8 : B5 < wr.heap.size := Nat.lt_of_lt_of_le hz7 hgw.size
                      have HP5 := Lib.hid hput5
                      clear hput5 hrow5 hx4 hgr hgw
                      have hcl3 : crashL l p = ((ys.set k ⟨no, some ⟨bh, 0, none⟩, xc, tornTo (data.take (s + kk)) (s + (kk - 8)) (s + kk), ((s + kk : Nat) : Int)⟩).map flX).take (k + 1) ++ crashL (l.drop (k + 1)) (q.tail.tail) := by
                        rw [List.map_set, take_set_snoc _ (by rw [List.length_map, HYS.out]; exact hlt), HCL.out.1, HCS.out, if_neg (by show ¬ (s : Int) = (data.length : Int); omega), List.append_assoc]
                        congr 1
                        show crashF ⟨no, data, (s : Int)⟩ q :: crashL (l.drop (k + 1)) (q.drop 2) = _
                        rw [drop_two]
                        rw [HCF.out, if_pos (by have := HOD.out; simpa using this), tornB_to, HTL.out, show max s ((s + kk) - 8) = s + (kk - 8) by omega]
                        rfl
                      go_wp2_with (fail)
                      exact ⟨⟨k + 1, _, q.tail.tail, qA3, qc3, by omega, by go_num, HP5.out, Lib.hid ⟨hcl3, by rw [List.map_set, drop_set_snoc]; exact HDR.out⟩, bO5, bP5, bE5, hq3, hqc3, hB5, hz8⟩, by simp [intOf]; omega⟩
                · skip
                  go_wp2_with (fail)
                  have hput : OwnF (((W3.setCell ⟨g, k * 3 + 1, none⟩ (.slice (some ⟨bh, 0, none⟩) (s + kk) xc)).setCell ⟨g, k * 3 + 2, none⟩ (.int .i64 ((s : Int) + (kk : Int)))).drew) w0.heap.size (.slice (some ⟨g, 0, none⟩) l.length c1) l.length (ys.set k ⟨no, some ⟨bh, 0, none⟩, xc, data.take (s + kk), ((s + kk : Nat) : Int)⟩) := by
                    obtain ⟨cells, hgb⟩ := own_typed HOW3.out.2.1 g rfl
                    have ht : ∀ q, q ∈ (5 : TypeId) :: kB.E → q ≠ 32 := by intro q hq; simp [Kd.int, Kd.scalar] at hq; subst hq; decide
                    have hbb : bh ≠ g := fun e => by
                      obtain ⟨cells2, hgb2⟩ := Kd.R_typed HGV3.out bh rfl
                      rw [e, hgb] at hgb2
                      injection hgb2 with e2
                      injection e2 with _ e3
                      cases e3
                    have hr := row_put (HOW3.out.2.1) HX.out (some ⟨bh, 0, none⟩) xc (data.take (s + kk)) ((s + kk : Nat) : Int)
                    rw [HTL.out] at hr
                    have hgt : Kd.R kB 5 W3 w0.heap.size (fun _ => True) (.slice (some ⟨bh, 0, none⟩) (s + kk) xc) (data.take (s + kk)) := Kd.R_take HGV3.out (by rw [hL]; omega)
                    refine HOW3.out.put HX.out (by have h9 := hr.drew; simpa using h9) (fun q hq1 hq2 hq3 hq4 => (Below.heap_setCell _ _ _ q (by exact hq3)).trans (Below.heap_setCell _ _ _ q (by exact hq3))) ?_ (fun q hq => .inl hq)
                    show Kd.R kB 5 _ w0.heap.size (fun _ => True) (.slice (some ⟨bh, 0, none⟩) (data.take (s + kk)).length xc) (data.take (s + kk))
                    rw [HTL.out]
                    exact Kd.R_set (Kd.R_set hgt hgb ht _ _) (blk_set hgb _ _) ht _ _
                  have hB5g : B5 ≠ g := fun e => by
                    obtain ⟨cells, hgb⟩ := own_typed HOW3.out.2.1 g rfl
                    have h2 : W3.heap[B5]? = _ := HBO3.out
                    rw [e, hgb] at h2
                    injection h2 with e2
                    injection e2 with _ e3
                    cases e3
                  have hB5h : B5 ≠ bh := fun e => by
                    obtain ⟨cells, hgb⟩ := Kd.R_typed HGV3.out bh rfl
                    have h2 : W3.heap[B5]? = _ := HBO3.out
                    rw [e, hgb] at h2
                    injection h2 with e2
                    injection e2 with _ e3
                    cases e3
                  have bO4 : BoxC (((W3.setCell ⟨g, k * 3 + 1, none⟩ (.slice (some ⟨bh, 0, none⟩) (s + kk) xc)).setCell ⟨g, k * 3 + 2, none⟩ (.int .i64 ((s : Int) + (kk : Int)))).drew) B5 (cellsD cap (some ⟨g, 0, none⟩) l.length c1) 24 := (HBO3.out.other _ _ hB5g).other _ _ hB5g
                  have bP4 : BoxC (((W3.setCell ⟨g, k * 3 + 1, none⟩ (.slice (some ⟨bh, 0, none⟩) (s + kk) xc)).setCell ⟨g, k * 3 + 2, none⟩ (.int .i64 ((s : Int) + (kk : Int)))).drew) (w.heap.size + 1) #[.slice qA3 q.tail.tail.length qc3] 25 := (HBP3.out.other _ _ (by have := HZ0.out; show w.heap.size + 1 ≠ g; omega)).other _ _ (by have := HZ0.out; show w.heap.size + 1 ≠ g; omega)
                  have bE4 : BoxC (((W3.setCell ⟨g, k * 3 + 1, none⟩ (.slice (some ⟨bh, 0, none⟩) (s + kk) xc)).setCell ⟨g, k * 3 + 2, none⟩ (.int .i64 ((s : Int) + (kk : Int)))).drew) (w.heap.size + 1 + 1) (cellsD 0 none 0 0) 24 := (HBE3.out.other _ _ (by have := HZ0.out; show w.heap.size + 1 + 1 ≠ g; omega)).other _ _ (by have := HZ0.out; show w.heap.size + 1 + 1 ≠ g; omega)
                  have hB4 : Below w.heap.size w (((W3.setCell ⟨g, k * 3 + 1, none⟩ (.slice (some ⟨bh, 0, none⟩) (s + kk) xc)).setCell ⟨g, k * 3 + 2, none⟩ (.int .i64 ((s : Int) + (kk : Int)))).drew) := below_drew ((HB3.out.setCell (p := ⟨g, k * 3 + 1, none⟩) (by have := HZ0.out; show w.heap.size ≤ g; omega) _).setCell (p := ⟨g, k * 3 + 2, none⟩) (by have := HZ0.out; show w.heap.size ≤ g; omega) _)
                  have hz7 : B5 < ((((W3.setCell ⟨g, k * 3 + 1, none⟩ (.slice (some ⟨bh, 0, none⟩) (s + kk) xc)).setCell ⟨g, k * 3 + 2, none⟩ (.int .i64 ((s : Int) + (kk : Int)))).drew)).heap.size := by simpa using hz6
                  have hgl : Kd.R kB 5 (((W3.setCell ⟨g, k * 3 + 1, none⟩ (.slice (some ⟨bh, 0, none⟩) (s + kk) xc)).setCell ⟨g, k * 3 + 2, none⟩ (.int .i64 ((s : Int) + (kk : Int)))).drew) w0.heap.size (fun _ => True) (.slice (some ⟨bh, 0, none⟩) (s + kk) xc) (data.take (s + kk)) := by
                    have := hput.2.2.1 k _ (List.getElem?_set_self (by rw [HYS.out]; exact hlt))
                    have h2 : Kd.R kB 5 _ w0.heap.size (fun _ => True) (.slice (some ⟨bh, 0, none⟩) (data.take (s + kk)).length xc) (data.take (s + kk)) := this
                    rw [HTL.out] at h2
                    exact h2
                  generalize (((W3.setCell ⟨g, k * 3 + 1, none⟩ (.slice (some ⟨bh, 0, none⟩) (s + kk) xc)).setCell ⟨g, k * 3 + 2, none⟩ (.int .i64 ((s : Int) + (kk : Int)))).drew) = w4 at *
                  have HPUT := Lib.hid hput
                  have HBO4 := Lib.hid bO4
                  have HBP4 := Lib.hid bP4
                  have HBE4 := Lib.hid bE4
                  have HB4 := Lib.hid hB4
                  have hgl0 := hgl
                  rw [← tornTo_same (data.take (s + kk)) (s + (kk - 8))] at hgl0
                  have HGL := Lib.hid hgl0
                  clear hput bO4 bP4 bE4 hB4 hgl hgl0 s1 s2 hf1 hf2 HOW3 HGV3 HBP3 HBO3 HBE3 HB3 hz6 hg6 hh6
                  go_loopw [11] (fun i wz => ∃ j : Nat, i = .int .i64 (j : Int) ∧ kk - 8 ≤ j ∧ j ≤ kk ∧ Kd.R kB 5 wz w0.heap.size (fun _ => True) (.slice (some ⟨bh, 0, none⟩) (s + kk) xc) (tornTo (data.take (s + kk)) (s + (kk - 8)) (s + j)) ∧ w4.grownBy wz (some bh)) (fun i _ => kk - (intOf i).toNat)
                  case atStart => exact ⟨kk - 8, by first | rfl | (congr 1; omega), Nat.le_refl _, by omega, HGL.out, World.grownBy.refl _ _⟩
                  case round =>
                    obtain ⟨j, rfl, hj0, hj1, hgr, hgw⟩ := hrel
                    by_cases hjl : j < kk
                    · have hjli : (j : Int) < (kk : Int) := by omega
                      have hln : (tornTo (data.take (s + kk)) (s + (kk - 8)) (s + j)).length = (s + kk) := by rw [tornTo_len, HTL.out]
                      have hlt2 : s + j < (data.take (s + kk)).length := by rw [HTL.out]; omega
                      have hy : (tornTo (data.take (s + kk)) (s + (kk - 8)) (s + j))[s + j]? = some ((data.take (s + kk))[s + j]) := by
                        rw [tornTo_get, List.getElem?_eq_getElem hlt2, Option.map_some, if_neg (by omega)]
                      have hset := tornTo_set (data.take (s + kk)) (s + (kk - 8)) (s + j) (by omega) hlt2
                      have hyo : 0 ≤ (data.take (s + kk))[s + j] ∧ (data.take (s + kk))[s + j] ≤ 255 := HXO.out _ (List.mem_of_mem_take (List.getElem_mem hlt2))
                      generalize (data.take (s + kk))[s + j] = y at *
                      have hgr2 : Kd.R kB 5 wr w0.heap.size (fun _ => True) (.slice (some ⟨bh, 0, none⟩) (tornTo (data.take (s + kk)) (s + (kk - 8)) (s + j)).length xc) (tornTo (data.take (s + kk)) (s + (kk - 8)) (s + j)) := by
                        rw [hln]
                        exact hgr
                      obtain ⟨hce, hfr⟩ := Kd.R_cell (0 : Int) hgr2 ((s + j : Nat) : Int) (by omega) (by rw [hln]; omega)
                      rw [Int.toNat_natCast] at hce hfr
                      have hrd : rdOf (0 : Int) (tornTo (data.take (s + kk)) (s + (kk - 8)) (s + j)) ((s + j : Nat) : Int) = y := by
                        unfold rdOf
                        rw [Int.toNat_natCast, List.getD_eq_getElem?_getD, hy]
                        rfl
                      rw [hrd] at hce
                      have hst := Kd.R_put hgr2 ((s + j : Nat) : Int) (xorT y)
                      rw [Int.toNat_natCast, hset, hln] at hst
                      have HST := Lib.hid hst
                      have HGW := Lib.hid hgw
                      have hxy := u8_xorT y hyo
                      have HXY := Lib.hid hxy
                      clear hst hgr hgr2 hset hy hrd hln hyo hlt2 hgw hxy
                      go_wp2_with (fail)
                      rw [HXY.out]
                      go_roundw
                      case rel => exact ⟨j + 1, by go_num, by omega, by omega, HST.out.1, HGW.out.trans HST.out.2⟩
                      case measure => simp [intOf]; omega
                    · have hjli : ¬ (j : Int) < (kk : Int) := by omega
                      obtain rfl : kk = j := by omega
                      have hx4 : (ys.set k ⟨no, some ⟨bh, 0, none⟩, xc, data.take (s + kk), ((s + kk : Nat) : Int)⟩)[k]? = some ⟨no, some ⟨bh, 0, none⟩, xc, data.take (s + kk), ((s + kk : Nat) : Int)⟩ := List.getElem?_set_self (by rw [HYS.out]; exact hlt)
                      have hrow5 : wr.ownsRow w0.heap.size 32 3 (.slice (some ⟨g, 0, none⟩) l.length c1) l.length (flat ((ys.set k ⟨no, some ⟨bh, 0, none⟩, xc, data.take (s + kk), ((s + kk : Nat) : Int)⟩).set k ⟨no, some ⟨bh, 0, none⟩, xc, tornTo (data.take (s + kk)) (s + (kk - 8)) (s + kk), ((s + kk : Nat) : Int)⟩)) := by
                        have h1 : (flat ((ys.set k ⟨no, some ⟨bh, 0, none⟩, xc, data.take (s + kk), ((s + kk : Nat) : Int)⟩).set k ⟨no, some ⟨bh, 0, none⟩, xc, tornTo (data.take (s + kk)) (s + (kk - 8)) (s + kk), ((s + kk : Nat) : Int)⟩)) = flat (ys.set k ⟨no, some ⟨bh, 0, none⟩, xc, data.take (s + kk), ((s + kk : Nat) : Int)⟩) := by
                          rw [List.set_set]
                          apply List.ext_getElem?
                          intro q9
                          have hq9 : q9 = q9 / 3 * 3 + q9 % 3 := by omega
                          rw [hq9, flat_get _ _ _ (by omega), flat_get _ _ _ (by omega)]
                          by_cases hkq : k = q9 / 3
                          · rw [← hkq, List.getElem?_set_self (by rw [HYS.out]; exact hlt), List.getElem?_set_self (by rw [HYS.out]; exact hlt)]
                            show (cellsX ⟨no, some ⟨bh, 0, none⟩, xc, tornTo (data.take (s + kk)) (s + (kk - 8)) (s + kk), ((s + kk : Nat) : Int)⟩)[q9 % 3]? = (cellsX ⟨no, some ⟨bh, 0, none⟩, xc, data.take (s + kk), ((s + kk : Nat) : Int)⟩)[q9 % 3]?
                            unfold cellsX vX
                            dsimp only
                            rw [tornTo_len]
                          · rw [List.getElem?_set_ne hkq, List.getElem?_set_ne hkq]
                        rw [h1]
                        exact own_move HPUT.out.2.1 (fun q9 hq9 => hgw.block q9 (own_lt HPUT.out.2.1 q9 hq9) (by
                          intro e
                          injection e with e
                          have hq10 : g = q9 := by simpa [Value.ownBlock] using hq9
                          exact hbg (by omega)))
                      have hput5 := HPUT.out.put hx4 hrow5 (fun q9 h1 h2 h3 h4 => hgw.block q9 h2 (fun e => h4 (by
                          injection e with e
                          have e9 : q9 = bh := by omega
                          subst e9
                          rfl))) (by
                        show Kd.R kB 5 wr w0.heap.size (fun _ => True) (.slice (some ⟨bh, 0, none⟩) (tornTo (data.take (s + kk)) (s + (kk - 8)) (s + kk)).length xc) _
                        rw [tornTo_len, HTL.out]
                        exact hgr) (fun q9 h => .inl h)
                      rw [List.set_set] at hput5
                      have bO5 := (hgw.block B5 hz7 (by intro e; injection e with e; exact hB5h (by omega))).trans HBO4.out
                      have bP5 := (hgw.block (w.heap.size + 1) (blk_lt HBP4.out) (by intro e; injection e with e; have := HZ0.out; omega)).trans HBP4.out
                      have bE5 := (hgw.block (w.heap.size + 1 + 1) (blk_lt HBE4.out) (by intro e; injection e with e; have := HZ0.out; omega)).trans HBE4.out
                      have hB5 := HB4.out.grown hgw HB4.out.size (fun j9 e => by injection e with e; have := HZ0.out; omega)
                      have hz8 : B5 < wr.heap.size := Nat.lt_of_lt_of_le hz7 hgw.size
                      have HP5 := Lib.hid hput5
                      clear hput5 hrow5 hx4 hgr hgw
                      have hcl3 : crashL l p = ((ys.set k ⟨no, some ⟨bh, 0, none⟩, xc, tornTo (data.take (s + kk)) (s + (kk - 8)) (s + kk), ((s + kk : Nat) : Int)⟩).map flX).take (k + 1) ++ crashL (l.drop (k + 1)) (q.tail.tail) := by
                        rw [List.map_set, take_set_snoc _ (by rw [List.length_map, HYS.out]; exact hlt), HCL.out.1, HCS.out, if_neg (by show ¬ (s : Int) = (data.length : Int); omega), List.append_assoc]
                        congr 1
                        show crashF ⟨no, data, (s : Int)⟩ q :: crashL (l.drop (k + 1)) (q.drop 2) = _
                        rw [drop_two]
                        rw [HCF.out, if_pos (by have := HOD.out; simpa using this), tornB_to, HTL.out, show max s ((s + kk) - 8) = s + (kk - 8) by omega]
                        rfl
                      go_wp2_with (fail)
                      exact ⟨⟨k + 1, _, q.tail.tail, qA3, qc3, by omega, by go_num, HP5.out, Lib.hid ⟨hcl3, by rw [List.map_set, drop_set_snoc]; exact HDR.out⟩, bO5, bP5, bE5, hq3, hqc3, hB5, hz8⟩, by simp [intOf]; omega⟩
            · refine (next_calls w (w.heap.size + 1) q.tail qA2 qc2 W2 bP2 hq2 hB2 hqc2).mono ?_
              rintro e W3 ⟨rfl, qA3, qc3, bP3, hqc3, hq3, hG3, hz3⟩
              have hOw3 := HOW2.out.moved (W1 := W3) (fun j hj hj2 => hG3.block j hj2 (by intro e; injection e with e; have := HZ0.out; omega))
              have HBO3 := Lib.hid (show BoxC W3 B5 _ _ from (hG3.block B5 hz6 (by intro e; injection e with e; have := HZ0.out; have := HGT.out; omega)).trans HBO2.out)
              have HBE3 := Lib.hid (show BoxC W3 (w.heap.size + 1 + 1) _ _ from (hG3.block _ (blk_lt HBE2.out) (by intro e; injection e with e; omega)).trans HBE2.out)
              have hB3 : Below w.heap.size w W3 := hB2.grown hG3 hB2.size (fun j e => by injection e with e; omega)
              rw [← hz3] at hz6 hg6 hh6
              obtain ⟨x3, hx3, s0, s1, s2, hgd, hfz⟩ := hOw3.get k hlt
              obtain rfl : x3 = ⟨no, some ⟨bh, 0, none⟩, xc, data, (s : Int)⟩ := by
                have := HX.out
                rw [hx3] at this
                injection this
              dsimp only [vX] at s0 s1 s2 hgd
              have hgv : Kd.R kB 5 W3 w0.heap.size (fun _ => True) (.slice (some ⟨bh, 0, none⟩) data.length xc) data := hgd
              rw [hL] at s1 hgv
              have hf1 := hfz (k * 3 + 1)
              have hf2 := hfz (k * 3 + 2)
              have HOW3 := Lib.hid hOw3
              have HGV3 := Lib.hid hgv
              have HBP3 := Lib.hid bP3
              clear hOw3 bP2 hB2 hgd hgv hfz hx3 hG3 hz3 hq2 hqc2 bP3 HOW2 HBO2 HBE2
              obtain ⟨v2, hv2⟩ : ∃ v2, q.tail.headD 0 = v2 := ⟨_, rfl⟩
              rw [hv2]
              obtain ⟨od, hod⟩ : ∃ od, (Int.tmod v2 2 != 0) = od := ⟨_, rfl⟩
              have HV2 := Lib.hid hv2
              clear hv2
              go_wp2_with (fail)
              have z3 := sliceHigh (some ⟨bh, 0, none⟩) (s + kk) xc (s + kk) (by omega)
              simp only [Int.natCast_add] at z3
              have hsum : IntKind.i64.wrap ((s : Int) + (kk : Int)) = (s : Int) + (kk : Int) := i64_of (by have := HBD.out; omega) (by have := HBD.out; omega)
              go_still_tail 13, (by kernel_rfl)
              all_goals change wpList _ _ _ _ _ W3.drew
              have HTL := Lib.hid (show (data.take (s + kk)).length = (s + kk) by rw [List.length_take, hL]; omega)
              have hcF := crashF_eq no data s kk kk q hL HKK.out
              rw [HV2.out] at hcF
              have HCF := Lib.hid hcF
              have HOD := Lib.hid (show decide (v2 % 2 ≠ 0) = od by rw [← odd_tmod]; exact hod)
              have HB3 := Lib.hid hB3
              clear hcF s0 hB3 hsum
              cases od with
              | false =>
                clear z3
                go_wp2_with (fail)
                have hput : OwnF (((W3.setCell ⟨g, k * 3 + 1, none⟩ (.slice (some ⟨bh, 0, none⟩) (s + kk) xc)).setCell ⟨g, k * 3 + 2, none⟩ (.int .i64 ((s : Int) + (kk : Int)))).drew) w0.heap.size (.slice (some ⟨g, 0, none⟩) l.length c1) l.length (ys.set k ⟨no, some ⟨bh, 0, none⟩, xc, data.take (s + kk), ((s + kk : Nat) : Int)⟩) := by
                  obtain ⟨cells, hgb⟩ := own_typed HOW3.out.2.1 g rfl
                  have ht : ∀ q, q ∈ (5 : TypeId) :: kB.E → q ≠ 32 := by intro q hq; simp [Kd.int, Kd.scalar] at hq; subst hq; decide
                  have hbb : bh ≠ g := fun e => by
                    obtain ⟨cells2, hgb2⟩ := Kd.R_typed HGV3.out bh rfl
                    rw [e, hgb] at hgb2
                    injection hgb2 with e2
                    injection e2 with _ e3
                    cases e3
                  have hr := row_put (HOW3.out.2.1) HX.out (some ⟨bh, 0, none⟩) xc (data.take (s + kk)) ((s + kk : Nat) : Int)
                  rw [HTL.out] at hr
                  have hgt : Kd.R kB 5 W3 w0.heap.size (fun _ => True) (.slice (some ⟨bh, 0, none⟩) (s + kk) xc) (data.take (s + kk)) := Kd.R_take HGV3.out (by rw [hL]; omega)
                  refine HOW3.out.put HX.out (by have h9 := hr.drew; simpa using h9) (fun q hq1 hq2 hq3 hq4 => (Below.heap_setCell _ _ _ q (by exact hq3)).trans (Below.heap_setCell _ _ _ q (by exact hq3))) ?_ (fun q hq => .inl hq)
                  show Kd.R kB 5 _ w0.heap.size (fun _ => True) (.slice (some ⟨bh, 0, none⟩) (data.take (s + kk)).length xc) (data.take (s + kk))
                  rw [HTL.out]
                  exact Kd.R_set (Kd.R_set hgt hgb ht _ _) (blk_set hgb _ _) ht _ _
                have hB5g : B5 ≠ g := fun e => by
                  obtain ⟨cells, hgb⟩ := own_typed HOW3.out.2.1 g rfl
                  have h2 : W3.heap[B5]? = _ := HBO3.out
                  rw [e, hgb] at h2
                  injection h2 with e2
                  injection e2 with _ e3
                  cases e3
                have hB5h : B5 ≠ bh := fun e => by
                  obtain ⟨cells, hgb⟩ := Kd.R_typed HGV3.out bh rfl
                  have h2 : W3.heap[B5]? = _ := HBO3.out
                  rw [e, hgb] at h2
                  injection h2 with e2
                  injection e2 with _ e3
                  cases e3
                have bO4 : BoxC (((W3.setCell ⟨g, k * 3 + 1, none⟩ (.slice (some ⟨bh, 0, none⟩) (s + kk) xc)).setCell ⟨g, k * 3 + 2, none⟩ (.int .i64 ((s : Int) + (kk : Int)))).drew) B5 (cellsD cap (some ⟨g, 0, none⟩) l.length c1) 24 := (HBO3.out.other _ _ hB5g).other _ _ hB5g
                have bP4 : BoxC (((W3.setCell ⟨g, k * 3 + 1, none⟩ (.slice (some ⟨bh, 0, none⟩) (s + kk) xc)).setCell ⟨g, k * 3 + 2, none⟩ (.int .i64 ((s : Int) + (kk : Int)))).drew) (w.heap.size + 1) #[.slice qA3 q.tail.tail.length qc3] 25 := (HBP3.out.other _ _ (by have := HZ0.out; show w.heap.size + 1 ≠ g; omega)).other _ _ (by have := HZ0.out; show w.heap.size + 1 ≠ g; omega)
                have bE4 : BoxC (((W3.setCell ⟨g, k * 3 + 1, none⟩ (.slice (some ⟨bh, 0, none⟩) (s + kk) xc)).setCell ⟨g, k * 3 + 2, none⟩ (.int .i64 ((s : Int) + (kk : Int)))).drew) (w.heap.size + 1 + 1) (cellsD 0 none 0 0) 24 := (HBE3.out.other _ _ (by have := HZ0.out; show w.heap.size + 1 + 1 ≠ g; omega)).other _ _ (by have := HZ0.out; show w.heap.size + 1 + 1 ≠ g; omega)
                have hB4 : Below w.heap.size w (((W3.setCell ⟨g, k * 3 + 1, none⟩ (.slice (some ⟨bh, 0, none⟩) (s + kk) xc)).setCell ⟨g, k * 3 + 2, none⟩ (.int .i64 ((s : Int) + (kk : Int)))).drew) := below_drew ((HB3.out.setCell (p := ⟨g, k * 3 + 1, none⟩) (by have := HZ0.out; show w.heap.size ≤ g; omega) _).setCell (p := ⟨g, k * 3 + 2, none⟩) (by have := HZ0.out; show w.heap.size ≤ g; omega) _)
                have hz7 : B5 < ((((W3.setCell ⟨g, k * 3 + 1, none⟩ (.slice (some ⟨bh, 0, none⟩) (s + kk) xc)).setCell ⟨g, k * 3 + 2, none⟩ (.int .i64 ((s : Int) + (kk : Int)))).drew)).heap.size := by simpa using hz6
                have hcl3 : crashL l p = ((ys.set k ⟨no, some ⟨bh, 0, none⟩, xc, data.take (s + kk), ((s + kk : Nat) : Int)⟩).map flX).take (k + 1) ++ crashL (l.drop (k + 1)) (q.tail.tail) := by
                  rw [List.map_set, take_set_snoc _ (by rw [List.length_map, HYS.out]; exact hlt), HCL.out.1, HCS.out, if_neg (by show ¬ (s : Int) = (data.length : Int); omega), List.append_assoc]
                  congr 1
                  show crashF ⟨no, data, (s : Int)⟩ q :: crashL (l.drop (k + 1)) (q.drop 2) = _
                  rw [drop_two]
                  rw [HCF.out, if_neg (by have := HOD.out; simpa using this)]
                  rfl
                exact ⟨⟨k + 1, _, q.tail.tail, qA3, qc3, by omega, by go_num, hput, Lib.hid ⟨hcl3, by rw [List.map_set, drop_set_snoc]; exact HDR.out⟩, bO4, bP4, bE4, hq3, hqc3, hB4, hz7⟩, by simp [intOf]; omega⟩
              | true =>
                clear z3
                have hbg : bh ≠ g := fun e => by
                  obtain ⟨cells, hgb⟩ := own_typed HOW3.out.2.1 g rfl
                  obtain ⟨cells2, hgb2⟩ := Kd.R_typed HGV3.out bh rfl
                  rw [e, hgb] at hgb2
                  injection hgb2 with e2
                  injection e2 with _ e3
                  cases e3
                have hkb : (kk : Int) ≤ 1000000 := by have := HBD.out; omega
                by_cases h8 : (0 : Int) < (kk : Int) - 8
                · have h8a : ¬ (kk : Int) - 8 ≤ 0 := by omega
                  have h8b : ¬ (kk : Int) - 8 < 0 := by omega
                  have h8c : (8 : Int) < (kk : Int) := by omega
                  go_wp2_with (fail)
                  have hput : OwnF (((W3.setCell ⟨g, k * 3 + 1, none⟩ (.slice (some ⟨bh, 0, none⟩) (s + kk) xc)).setCell ⟨g, k * 3 + 2, none⟩ (.int .i64 ((s : Int) + (kk : Int)))).drew) w0.heap.size (.slice (some ⟨g, 0, none⟩) l.length c1) l.length (ys.set k ⟨no, some ⟨bh, 0, none⟩, xc, data.take (s + kk), ((s + kk : Nat) : Int)⟩) := by
                    obtain ⟨cells, hgb⟩ := own_typed HOW3.out.2.1 g rfl
                    have ht : ∀ q, q ∈ (5 : TypeId) :: kB.E → q ≠ 32 := by intro q hq; simp [Kd.int, Kd.scalar] at hq; subst hq; decide
                    have hbb : bh ≠ g := fun e => by
                      obtain ⟨cells2, hgb2⟩ := Kd.R_typed HGV3.out bh rfl
                      rw [e, hgb] at hgb2
                      injection hgb2 with e2
                      injection e2 with _ e3
                      cases e3
                    have hr := row_put (HOW3.out.2.1) HX.out (some ⟨bh, 0, none⟩) xc (data.take (s + kk)) ((s + kk : Nat) : Int)
                    rw [HTL.out] at hr
                    have hgt : Kd.R kB 5 W3 w0.heap.size (fun _ => True) (.slice (some ⟨bh, 0, none⟩) (s + kk) xc) (data.take (s + kk)) := Kd.R_take HGV3.out (by rw [hL]; omega)
                    refine HOW3.out.put HX.out (by have h9 := hr.drew; simpa using h9) (fun q hq1 hq2 hq3 hq4 => (Below.heap_setCell _ _ _ q (by exact hq3)).trans (Below.heap_setCell _ _ _ q (by exact hq3))) ?_ (fun q hq => .inl hq)
                    show Kd.R kB 5 _ w0.heap.size (fun _ => True) (.slice (some ⟨bh, 0, none⟩) (data.take (s + kk)).length xc) (data.take (s + kk))
                    rw [HTL.out]
                    exact Kd.R_set (Kd.R_set hgt hgb ht _ _) (blk_set hgb _ _) ht _ _
                  have hB5g : B5 ≠ g := fun e => by
                    obtain ⟨cells, hgb⟩ := own_typed HOW3.out.2.1 g rfl
                    have h2 : W3.heap[B5]? = _ := HBO3.out
                    rw [e, hgb] at h2
                    injection h2 with e2
                    injection e2 with _ e3
                    cases e3
                  have hB5h : B5 ≠ bh := fun e => by
                    obtain ⟨cells, hgb⟩ := Kd.R_typed HGV3.out bh rfl
                    have h2 : W3.heap[B5]? = _ := HBO3.out
                    rw [e, hgb] at h2
                    injection h2 with e2
                    injection e2 with _ e3
                    cases e3
                  have bO4 : BoxC (((W3.setCell ⟨g, k * 3 + 1, none⟩ (.slice (some ⟨bh, 0, none⟩) (s + kk) xc)).setCell ⟨g, k * 3 + 2, none⟩ (.int .i64 ((s : Int) + (kk : Int)))).drew) B5 (cellsD cap (some ⟨g, 0, none⟩) l.length c1) 24 := (HBO3.out.other _ _ hB5g).other _ _ hB5g
                  have bP4 : BoxC (((W3.setCell ⟨g, k * 3 + 1, none⟩ (.slice (some ⟨bh, 0, none⟩) (s + kk) xc)).setCell ⟨g, k * 3 + 2, none⟩ (.int .i64 ((s : Int) + (kk : Int)))).drew) (w.heap.size + 1) #[.slice qA3 q.tail.tail.length qc3] 25 := (HBP3.out.other _ _ (by have := HZ0.out; show w.heap.size + 1 ≠ g; omega)).other _ _ (by have := HZ0.out; show w.heap.size + 1 ≠ g; omega)
                  have bE4 : BoxC (((W3.setCell ⟨g, k * 3 + 1, none⟩ (.slice (some ⟨bh, 0, none⟩) (s + kk) xc)).setCell ⟨g, k * 3 + 2, none⟩ (.int .i64 ((s : Int) + (kk : Int)))).drew) (w.heap.size + 1 + 1) (cellsD 0 none 0 0) 24 := (HBE3.out.other _ _ (by have := HZ0.out; show w.heap.size + 1 + 1 ≠ g; omega)).other _ _ (by have := HZ0.out; show w.heap.size + 1 + 1 ≠ g; omega)
                  have hB4 : Below w.heap.size w (((W3.setCell ⟨g, k * 3 + 1, none⟩ (.slice (some ⟨bh, 0, none⟩) (s + kk) xc)).setCell ⟨g, k * 3 + 2, none⟩ (.int .i64 ((s : Int) + (kk : Int)))).drew) := below_drew ((HB3.out.setCell (p := ⟨g, k * 3 + 1, none⟩) (by have := HZ0.out; show w.heap.size ≤ g; omega) _).setCell (p := ⟨g, k * 3 + 2, none⟩) (by have := HZ0.out; show w.heap.size ≤ g; omega) _)
                  have hz7 : B5 < ((((W3.setCell ⟨g, k * 3 + 1, none⟩ (.slice (some ⟨bh, 0, none⟩) (s + kk) xc)).setCell ⟨g, k * 3 + 2, none⟩ (.int .i64 ((s : Int) + (kk : Int)))).drew)).heap.size := by simpa using hz6
                  have hgl : Kd.R kB 5 (((W3.setCell ⟨g, k * 3 + 1, none⟩ (.slice (some ⟨bh, 0, none⟩) (s + kk) xc)).setCell ⟨g, k * 3 + 2, none⟩ (.int .i64 ((s : Int) + (kk : Int)))).drew) w0.heap.size (fun _ => True) (.slice (some ⟨bh, 0, none⟩) (s + kk) xc) (data.take (s + kk)) := by
                    have := hput.2.2.1 k _ (List.getElem?_set_self (by rw [HYS.out]; exact hlt))
                    have h2 : Kd.R kB 5 _ w0.heap.size (fun _ => True) (.slice (some ⟨bh, 0, none⟩) (data.take (s + kk)).length xc) (data.take (s + kk)) := this
                    rw [HTL.out] at h2
                    exact h2
                  generalize (((W3.setCell ⟨g, k * 3 + 1, none⟩ (.slice (some ⟨bh, 0, none⟩) (s + kk) xc)).setCell ⟨g, k * 3 + 2, none⟩ (.int .i64 ((s : Int) + (kk : Int)))).drew) = w4 at *
                  have HPUT := Lib.hid hput
                  have HBO4 := Lib.hid bO4
                  have HBP4 := Lib.hid bP4
                  have HBE4 := Lib.hid bE4
                  have HB4 := Lib.hid hB4
                  have hgl0 := hgl
                  rw [← tornTo_same (data.take (s + kk)) (s + (kk - 8))] at hgl0
                  have HGL := Lib.hid hgl0
                  clear hput bO4 bP4 bE4 hB4 hgl hgl0 s1 s2 hf1 hf2 HOW3 HGV3 HBP3 HBO3 HBE3 HB3 hz6 hg6 hh6
                  go_loopw [11] (fun i wz => ∃ j : Nat, i = .int .i64 (j : Int) ∧ kk - 8 ≤ j ∧ j ≤ kk ∧ Kd.R kB 5 wz w0.heap.size (fun _ => True) (.slice (some ⟨bh, 0, none⟩) (s + kk) xc) (tornTo (data.take (s + kk)) (s + (kk - 8)) (s + j)) ∧ w4.grownBy wz (some bh)) (fun i _ => kk - (intOf i).toNat)
                  case atStart => exact ⟨kk - 8, by first | rfl | (congr 1; omega), Nat.le_refl _, by omega, HGL.out, World.grownBy.refl _ _⟩
                  case round =>
                    obtain ⟨j, rfl, hj0, hj1, hgr, hgw⟩ := hrel
                    by_cases hjl : j < kk
                    · have hjli : (j : Int) < (kk : Int) := by omega
                      have hln : (tornTo (data.take (s + kk)) (s + (kk - 8)) (s + j)).length = (s + kk) := by rw [tornTo_len, HTL.out]
                      have hlt2 : s + j < (data.take (s + kk)).length := by rw [HTL.out]; omega
                      have hy : (tornTo (data.take (s + kk)) (s + (kk - 8)) (s + j))[s + j]? = some ((data.take (s + kk))[s + j]) := by
                        rw [tornTo_get, List.getElem?_eq_getElem hlt2, Option.map_some, if_neg (by omega)]
                      have hset := tornTo_set (data.take (s + kk)) (s + (kk - 8)) (s + j) (by omega) hlt2
                      have hyo : 0 ≤ (data.take (s + kk))[s + j] ∧ (data.take (s + kk))[s + j] ≤ 255 := HXO.out _ (List.mem_of_mem_take (List.getElem_mem hlt2))
                      generalize (data.take (s + kk))[s + j] = y at *
                      have hgr2 : Kd.R kB 5 wr w0.heap.size (fun _ => True) (.slice (some ⟨bh, 0, none⟩) (tornTo (data.take (s + kk)) (s + (kk - 8)) (s + j)).length xc) (tornTo (data.take (s + kk)) (s + (kk - 8)) (s + j)) := by
                        rw [hln]
                        exact hgr
                      obtain ⟨hce, hfr⟩ := Kd.R_cell (0 : Int) hgr2 ((s + j : Nat) : Int) (by omega) (by rw [hln]; omega)
                      rw [Int.toNat_natCast] at hce hfr
                      have hrd : rdOf (0 : Int) (tornTo (data.take (s + kk)) (s + (kk - 8)) (s + j)) ((s + j : Nat) : Int) = y := by
                        unfold rdOf
                        rw [Int.toNat_natCast, List.getD_eq_getElem?_getD, hy]
                        rfl
                      rw [hrd] at hce
                      have hst := Kd.R_put hgr2 ((s + j : Nat) : Int) (xorT y)
                      rw [Int.toNat_natCast, hset, hln] at hst
                      have HST := Lib.hid hst
                      have HGW := Lib.hid hgw
                      have hxy := u8_xorT y hyo
                      have HXY := Lib.hid hxy
                      clear hst hgr hgr2 hset hy hrd hln hyo hlt2 hgw hxy
                      go_wp2_with (fail)
                      rw [HXY.out]
                      go_roundw
                      case rel => exact ⟨j + 1, by go_num, by omega, by omega, HST.out.1, HGW.out.trans HST.out.2⟩
                      case measure => simp [intOf]; omega
                    · have hjli : ¬ (j : Int) < (kk : Int) := by omega
                      obtain rfl : kk = j := by omega
                      have hx4 : (ys.set k ⟨no, some ⟨bh, 0, none⟩, xc, data.take (s + kk), ((s + kk : Nat) : Int)⟩)[k]? = some ⟨no, some ⟨bh, 0, none⟩, xc, data.take (s + kk), ((s + kk : Nat) : Int)⟩ := List.getElem?_set_self (by rw [HYS.out]; exact hlt)
                      have hrow5 : wr.ownsRow w0.heap.size 32 3 (.slice (some ⟨g, 0, none⟩) l.length c1) l.length (flat ((ys.set k ⟨no, some ⟨bh, 0, none⟩, xc, data.take (s + kk), ((s + kk : Nat) : Int)⟩).set k ⟨no, some ⟨bh, 0, none⟩, xc, tornTo (data.take (s + kk)) (s + (kk - 8)) (s + kk), ((s + kk : Nat) : Int)⟩)) := by
                        have h1 : (flat ((ys.set k ⟨no, some ⟨bh, 0, none⟩, xc, data.take (s + kk), ((s + kk : Nat) : Int)⟩).set k ⟨no, some ⟨bh, 0, none⟩, xc, tornTo (data.take (s + kk)) (s + (kk - 8)) (s + kk), ((s + kk : Nat) : Int)⟩)) = flat (ys.set k ⟨no, some ⟨bh, 0, none⟩, xc, data.take (s + kk), ((s + kk : Nat) : Int)⟩) := by
                          rw [List.set_set]
                          apply List.ext_getElem?
                          intro q9
                          have hq9 : q9 = q9 / 3 * 3 + q9 % 3 := by omega
                          rw [hq9, flat_get _ _ _ (by omega), flat_get _ _ _ (by omega)]
                          by_cases hkq : k = q9 / 3
                          · rw [← hkq, List.getElem?_set_self (by rw [HYS.out]; exact hlt), List.getElem?_set_self (by rw [HYS.out]; exact hlt)]
                            show (cellsX ⟨no, some ⟨bh, 0, none⟩, xc, tornTo (data.take (s + kk)) (s + (kk - 8)) (s + kk), ((s + kk : Nat) : Int)⟩)[q9 % 3]? = (cellsX ⟨no, some ⟨bh, 0, none⟩, xc, data.take (s + kk), ((s + kk : Nat) : Int)⟩)[q9 % 3]?
                            unfold cellsX vX
                            dsimp only
                            rw [tornTo_len]
                          · rw [List.getElem?_set_ne hkq, List.getElem?_set_ne hkq]
                        rw [h1]
                        exact own_move HPUT.out.2.1 (fun q9 hq9 => hgw.block q9 (own_lt HPUT.out.2.1 q9 hq9) (by
                          intro e
                          injection e with e
                          have hq10 : g = q9 := by simpa [Value.ownBlock] using hq9
                          exact hbg (by omega)))
                      have hput5 := HPUT.out.put hx4 hrow5 (fun q9 h1 h2 h3 h4 => hgw.block q9 h2 (fun e => h4 (by
                          injection e with e
                          have e9 : q9 = bh := by omega
                          subst e9
                          rfl))) (by
                        show Kd.R kB 5 wr w0.heap.size (fun _ => True) (.slice (some ⟨bh, 0, none⟩) (tornTo (data.take (s + kk)) (s + (kk - 8)) (s + kk)).length xc) _
                        rw [tornTo_len, HTL.out]
                        exact hgr) (fun q9 h => .inl h)
                      rw [List.set_set] at hput5
                      have bO5 := (hgw.block B5 hz7 (by intro e; injection e with e; exact hB5h (by omega))).trans HBO4.out
                      have bP5 := (hgw.block (w.heap.size + 1) (blk_lt HBP4.out) (by intro e; injection e with e; have := HZ0.out; omega)).trans HBP4.out
                      have bE5 := (hgw.block (w.heap.size + 1 + 1) (blk_lt HBE4.out) (by intro e; injection e with e; have := HZ0.out; omega)).trans HBE4.out
                      have hB5 := HB4.out.grown hgw HB4.out.size (fun j9 e => by injection e with e; have := HZ0.out; omega)
                      have hz8 : B5 < wr.heap.size := Nat.lt_of_lt_of_le hz7 hgw.size
                      have HP5 := Lib.hid hput5
                      clear hput5 hrow5 hx4 hgr hgw
                      have hcl3 : crashL l p = ((ys.set k ⟨no, some ⟨bh, 0, none⟩, xc, tornTo (data.take (s + kk)) (s + (kk - 8)) (s + kk), ((s + kk : Nat) : Int)⟩).map flX).take (k + 1) ++ crashL (l.drop (k + 1)) (q.tail.tail) := by
                        rw [List.map_set, take_set_snoc _ (by rw [List.length_map, HYS.out]; exact hlt), HCL.out.1, HCS.out, if_neg (by show ¬ (s : Int) = (data.length : Int); omega), List.append_assoc]
                        congr 1
                        show crashF ⟨no, data, (s : Int)⟩ q :: crashL (l.drop (k + 1)) (q.drop 2) = _
                        rw [drop_two]
                        rw [HCF.out, if_pos (by have := HOD.out; simpa using this), tornB_to, HTL.out, show max s ((s + kk) - 8) = s + (kk - 8) by omega]
                        rfl
                      go_wp2_with (fail)
                      exact ⟨⟨k + 1, _, q.tail.tail, qA3, qc3, by omega, by go_num, HP5.out, Lib.hid ⟨hcl3, by rw [List.map_set, drop_set_snoc]; exact HDR.out⟩, bO5, bP5, bE5, hq3, hqc3, hB5, hz8⟩, by simp [intOf]; omega⟩
                · skip
                  go_wp2_with (fail)
                  have hput : OwnF (((W3.setCell ⟨g, k * 3 + 1, none⟩ (.slice (some ⟨bh, 0, none⟩) (s + kk) xc)).setCell ⟨g, k * 3 + 2, none⟩ (.int .i64 ((s : Int) + (kk : Int)))).drew) w0.heap.size (.slice (some ⟨g, 0, none⟩) l.length c1) l.length (ys.set k ⟨no, some ⟨bh, 0, none⟩, xc, data.take (s + kk), ((s + kk : Nat) : Int)⟩) := by
                    obtain ⟨cells, hgb⟩ := own_typed HOW3.out.2.1 g rfl
                    have ht : ∀ q, q ∈ (5 : TypeId) :: kB.E → q ≠ 32 := by intro q hq; simp [Kd.int, Kd.scalar] at hq; subst hq; decide
                    have hbb : bh ≠ g := fun e => by
                      obtain ⟨cells2, hgb2⟩ := Kd.R_typed HGV3.out bh rfl
                      rw [e, hgb] at hgb2
                      injection hgb2 with e2
                      injection e2 with _ e3
                      cases e3
                    have hr := row_put (HOW3.out.2.1) HX.out (some ⟨bh, 0, none⟩) xc (data.take (s + kk)) ((s + kk : Nat) : Int)
                    rw [HTL.out] at hr
                    have hgt : Kd.R kB 5 W3 w0.heap.size (fun _ => True) (.slice (some ⟨bh, 0, none⟩) (s + kk) xc) (data.take (s + kk)) := Kd.R_take HGV3.out (by rw [hL]; omega)
                    refine HOW3.out.put HX.out (by have h9 := hr.drew; simpa using h9) (fun q hq1 hq2 hq3 hq4 => (Below.heap_setCell _ _ _ q (by exact hq3)).trans (Below.heap_setCell _ _ _ q (by exact hq3))) ?_ (fun q hq => .inl hq)
                    show Kd.R kB 5 _ w0.heap.size (fun _ => True) (.slice (some ⟨bh, 0, none⟩) (data.take (s + kk)).length xc) (data.take (s + kk))
                    rw [HTL.out]
                    exact Kd.R_set (Kd.R_set hgt hgb ht _ _) (blk_set hgb _ _) ht _ _
                  have hB5g : B5 ≠ g := fun e => by
                    obtain ⟨cells, hgb⟩ := own_typed HOW3.out.2.1 g rfl
                    have h2 : W3.heap[B5]? = _ := HBO3.out
                    rw [e, hgb] at h2
                    injection h2 with e2
                    injection e2 with _ e3
                    cases e3
                  have hB5h : B5 ≠ bh := fun e => by
                    obtain ⟨cells, hgb⟩ := Kd.R_typed HGV3.out bh rfl
                    have h2 : W3.heap[B5]? = _ := HBO3.out
                    rw [e, hgb] at h2
                    injection h2 with e2
                    injection e2 with _ e3
                    cases e3
                  have bO4 : BoxC (((W3.setCell ⟨g, k * 3 + 1, none⟩ (.slice (some ⟨bh, 0, none⟩) (s + kk) xc)).setCell ⟨g, k * 3 + 2, none⟩ (.int .i64 ((s : Int) + (kk : Int)))).drew) B5 (cellsD cap (some ⟨g, 0, none⟩) l.length c1) 24 := (HBO3.out.other _ _ hB5g).other _ _ hB5g
                  have bP4 : BoxC (((W3.setCell ⟨g, k * 3 + 1, none⟩ (.slice (some ⟨bh, 0, none⟩) (s + kk) xc)).setCell ⟨g, k * 3 + 2, none⟩ (.int .i64 ((s : Int) + (kk : Int)))).drew) (w.heap.size + 1) #[.slice qA3 q.tail.tail.length qc3] 25 := (HBP3.out.other _ _ (by have := HZ0.out; show w.heap.size + 1 ≠ g; omega)).other _ _ (by have := HZ0.out; show w.heap.size + 1 ≠ g; omega)
                  have bE4 : BoxC (((W3.setCell ⟨g, k * 3 + 1, none⟩ (.slice (some ⟨bh, 0, none⟩) (s + kk) xc)).setCell ⟨g, k * 3 + 2, none⟩ (.int .i64 ((s : Int) + (kk : Int)))).drew) (w.heap.size + 1 + 1) (cellsD 0 none 0 0) 24 := (HBE3.out.other _ _ (by have := HZ0.out; show w.heap.size + 1 + 1 ≠ g; omega)).other _ _ (by have := HZ0.out; show w.heap.size + 1 + 1 ≠ g; omega)
                  have hB4 : Below w.heap.size w (((W3.setCell ⟨g, k * 3 + 1, none⟩ (.slice (some ⟨bh, 0, none⟩) (s + kk) xc)).setCell ⟨g, k * 3 + 2, none⟩ (.int .i64 ((s : Int) + (kk : Int)))).drew) := below_drew ((HB3.out.setCell (p := ⟨g, k * 3 + 1, none⟩) (by have := HZ0.out; show w.heap.size ≤ g; omega) _).setCell (p := ⟨g, k * 3 + 2, none⟩) (by have := HZ0.out; show w.heap.size ≤ g; omega) _)
                  have hz7 : B5 < ((((W3.setCell ⟨g, k * 3 + 1, none⟩ (.slice (some ⟨bh, 0, none⟩) (s + kk) xc)).setCell ⟨g, k * 3 + 2, none⟩ (.int .i64 ((s : Int) + (kk : Int)))).drew)).heap.size := by simpa using hz6
                  have hgl : Kd.R kB 5 (((W3.setCell ⟨g, k * 3 + 1, none⟩ (.slice (some ⟨bh, 0, none⟩) (s + kk) xc)).setCell ⟨g, k * 3 + 2, none⟩ (.int .i64 ((s : Int) + (kk : Int)))).drew) w0.heap.size (fun _ => True) (.slice (some ⟨bh, 0, none⟩) (s + kk) xc) (data.take (s + kk)) := by
                    have := hput.2.2.1 k _ (List.getElem?_set_self (by rw [HYS.out]; exact hlt))
                    have h2 : Kd.R kB 5 _ w0.heap.size (fun _ => True) (.slice (some ⟨bh, 0, none⟩) (data.take (s + kk)).length xc) (data.take (s + kk)) := this
                    rw [HTL.out] at h2
                    exact h2
                  generalize (((W3.setCell ⟨g, k * 3 + 1, none⟩ (.slice (some ⟨bh, 0, none⟩) (s + kk) xc)).setCell ⟨g, k * 3 + 2, none⟩ (.int .i64 ((s : Int) + (kk : Int)))).drew) = w4 at *
                  have HPUT := Lib.hid hput
                  have HBO4 := Lib.hid bO4
                  have HBP4 := Lib.hid bP4
                  have HBE4 := Lib.hid bE4
                  have HB4 := Lib.hid hB4
                  have hgl0 := hgl
                  rw [← tornTo_same (data.take (s + kk)) (s + (kk - 8))] at hgl0
                  have HGL := Lib.hid hgl0
                  clear hput bO4 bP4 bE4 hB4 hgl hgl0 s1 s2 hf1 hf2 HOW3 HGV3 HBP3 HBO3 HBE3 HB3 hz6 hg6 hh6
                  go_loopw [11] (fun i wz => ∃ j : Nat, i = .int .i64 (j : Int) ∧ kk - 8 ≤ j ∧ j ≤ kk ∧ Kd.R kB 5 wz w0.heap.size (fun _ => True) (.slice (some ⟨bh, 0, none⟩) (s + kk) xc) (tornTo (data.take (s + kk)) (s + (kk - 8)) (s + j)) ∧ w4.grownBy wz (some bh)) (fun i _ => kk - (intOf i).toNat)
                  case atStart => exact ⟨kk - 8, by first | rfl | (congr 1; omega), Nat.le_refl _, by omega, HGL.out, World.grownBy.refl _ _⟩
                  case round =>
                    obtain ⟨j, rfl, hj0, hj1, hgr, hgw⟩ := hrel
                    by_cases hjl : j < kk
                    · have hjli : (j : Int) < (kk : Int) := by omega
                      have hln : (tornTo (data.take (s + kk)) (s + (kk - 8)) (s + j)).length = (s + kk) := by rw [tornTo_len, HTL.out]
                      have hlt2 : s + j < (data.take (s + kk)).length := by rw [HTL.out]; omega
                      have hy : (tornTo (data.take (s + kk)) (s + (kk - 8)) (s + j))[s + j]? = some ((data.take (s + kk))[s + j]) := by
                        rw [tornTo_get, List.getElem?_eq_getElem hlt2, Option.map_some, if_neg (by omega)]
                      have hset := tornTo_set (data.take (s + kk)) (s + (kk - 8)) (s + j) (by omega) hlt2
                      have hyo : 0 ≤ (data.take (s + kk))[s + j] ∧ (data.take (s + kk))[s + j] ≤ 255 := HXO.out _ (List.mem_of_mem_take (List.getElem_mem hlt2))
                      generalize (data.take (s + kk))[s + j] = y at *
                      have hgr2 : Kd.R kB 5 wr w0.heap.size (fun _ => True) (.slice (some ⟨bh, 0, none⟩) (tornTo (data.take (s + kk)) (s + (kk - 8)) (s + j)).length xc) (tornTo (data.take (s + kk)) (s + (kk - 8)) (s + j)) := by
                        rw [hln]
                        exact hgr
                      obtain ⟨hce, hfr⟩ := Kd.R_cell (0 : Int) hgr2 ((s + j : Nat) : Int) (by omega) (by rw [hln]; omega)
                      rw [Int.toNat_natCast] at hce hfr
                      have hrd : rdOf (0 : Int) (tornTo (data.take (s + kk)) (s + (kk - 8)) (s + j)) ((s + j : Nat) : Int) = y := by
                        unfold rdOf
                        rw [Int.toNat_natCast, List.getD_eq_getElem?_getD, hy]
                        rfl
                      rw [hrd] at hce
                      have hst := Kd.R_put hgr2 ((s + j : Nat) : Int) (xorT y)
                      rw [Int.toNat_natCast, hset, hln] at hst
                      have HST := Lib.hid hst
                      have HGW := Lib.hid hgw
                      have hxy := u8_xorT y hyo
                      have HXY := Lib.hid hxy
                      clear hst hgr hgr2 hset hy hrd hln hyo hlt2 hgw hxy
                      go_wp2_with (fail)
                      rw [HXY.out]
                      go_roundw
                      case rel => exact ⟨j + 1, by go_num, by omega, by omega, HST.out.1, HGW.out.trans HST.out.2⟩
                      case measure => simp [intOf]; omega
                    · have hjli : ¬ (j : Int) < (kk : Int) := by omega
                      obtain rfl : kk = j := by omega
                      have hx4 : (ys.set k ⟨no, some ⟨bh, 0, none⟩, xc, data.take (s + kk), ((s + kk : Nat) : Int)⟩)[k]? = some ⟨no, some ⟨bh, 0, none⟩, xc, data.take (s + kk), ((s + kk : Nat) : Int)⟩ := List.getElem?_set_self (by rw [HYS.out]; exact hlt)
                      have hrow5 : wr.ownsRow w0.heap.size 32 3 (.slice (some ⟨g, 0, none⟩) l.length c1) l.length (flat ((ys.set k ⟨no, some ⟨bh, 0, none⟩, xc, data.take (s + kk), ((s + kk : Nat) : Int)⟩).set k ⟨no, some ⟨bh, 0, none⟩, xc, tornTo (data.take (s + kk)) (s + (kk - 8)) (s + kk), ((s + kk : Nat) : Int)⟩)) := by
                        have h1 : (flat ((ys.set k ⟨no, some ⟨bh, 0, none⟩, xc, data.take (s + kk), ((s + kk : Nat) : Int)⟩).set k ⟨no, some ⟨bh, 0, none⟩, xc, tornTo (data.take (s + kk)) (s + (kk - 8)) (s + kk), ((s + kk : Nat) : Int)⟩)) = flat (ys.set k ⟨no, some ⟨bh, 0, none⟩, xc, data.take (s + kk), ((s + kk : Nat) : Int)⟩) := by
                          rw [List.set_set]
                          apply List.ext_getElem?
                          intro q9
                          have hq9 : q9 = q9 / 3 * 3 + q9 % 3 := by omega
                          rw [hq9, flat_get _ _ _ (by omega), flat_get _ _ _ (by omega)]
                          by_cases hkq : k = q9 / 3
                          · rw [← hkq, List.getElem?_set_self (by rw [HYS.out]; exact hlt), List.getElem?_set_self (by rw [HYS.out]; exact hlt)]
                            show (cellsX ⟨no, some ⟨bh, 0, none⟩, xc, tornTo (data.take (s + kk)) (s + (kk - 8)) (s + kk), ((s + kk : Nat) : Int)⟩)[q9 % 3]? = (cellsX ⟨no, some ⟨bh, 0, none⟩, xc, data.take (s + kk), ((s + kk : Nat) : Int)⟩)[q9 % 3]?
                            unfold cellsX vX
                            dsimp only
                            rw [tornTo_len]
                          · rw [List.getElem?_set_ne hkq, List.getElem?_set_ne hkq]
                        rw [h1]
                        exact own_move HPUT.out.2.1 (fun q9 hq9 => hgw.block q9 (own_lt HPUT.out.2.1 q9 hq9) (by
                          intro e
                          injection e with e
                          have hq10 : g = q9 := by simpa [Value.ownBlock] using hq9
                          exact hbg (by omega)))
                      have hput5 := HPUT.out.put hx4 hrow5 (fun q9 h1 h2 h3 h4 => hgw.block q9 h2 (fun e => h4 (by
                          injection e with e
                          have e9 : q9 = bh := by omega
                          subst e9
                          rfl))) (by
                        show Kd.R kB 5 wr w0.heap.size (fun _ => True) (.slice (some ⟨bh, 0, none⟩) (tornTo (data.take (s + kk)) (s + (kk - 8)) (s + kk)).length xc) _
                        rw [tornTo_len, HTL.out]
                        exact hgr) (fun q9 h => .inl h)
                      rw [List.set_set] at hput5
                      have bO5 := (hgw.block B5 hz7 (by intro e; injection e with e; exact hB5h (by omega))).trans HBO4.out
                      have bP5 := (hgw.block (w.heap.size + 1) (blk_lt HBP4.out) (by intro e; injection e with e; have := HZ0.out; omega)).trans HBP4.out
                      have bE5 := (hgw.block (w.heap.size + 1 + 1) (blk_lt HBE4.out) (by intro e; injection e with e; have := HZ0.out; omega)).trans HBE4.out
                      have hB5 := HB4.out.grown hgw HB4.out.size (fun j9 e => by injection e with e; have := HZ0.out; omega)
                      have hz8 : B5 < wr.heap.size := Nat.lt_of_lt_of_le hz7 hgw.size
                      have HP5 := Lib.hid hput5
                      clear hput5 hrow5 hx4 hgr hgw
                      have hcl3 : crashL l p = ((ys.set k ⟨no, some ⟨bh, 0, none⟩, xc, tornTo (data.take (s + kk)) (s + (kk - 8)) (s + kk), ((s + kk : Nat) : Int)⟩).map flX).take (k + 1) ++ crashL (l.drop (k + 1)) (q.tail.tail) := by
                        rw [List.map_set, take_set_snoc _ (by rw [List.length_map, HYS.out]; exact hlt), HCL.out.1, HCS.out, if_neg (by show ¬ (s : Int) = (data.length : Int); omega), List.append_assoc]
                        congr 1
                        show crashF ⟨no, data, (s : Int)⟩ q :: crashL (l.drop (k + 1)) (q.drop 2) = _
                        rw [drop_two]
                        rw [HCF.out, if_pos (by have := HOD.out; simpa using this), tornB_to, HTL.out, show max s ((s + kk) - 8) = s + (kk - 8) by omega]
                        rfl
                      go_wp2_with (fail)
                      exact ⟨⟨k + 1, _, q.tail.tail, qA3, qc3, by omega, by go_num, HP5.out, Lib.hid ⟨hcl3, by rw [List.map_set, drop_set_snoc]; exact HDR.out⟩, bO5, bP5, bE5, hq3, hqc3, hB5, hz8⟩, by simp [intOf]; omega⟩
            · refine (next_calls w (w.heap.size + 1) q.tail qA2 qc2 W2 bP2 hq2 hB2 hqc2).mono ?_
              rintro e W3 ⟨rfl, qA3, qc3, bP3, hqc3, hq3, hG3, hz3⟩
              have hOw3 := HOW2.out.moved (W1 := W3) (fun j hj hj2 => hG3.block j hj2 (by intro e; injection e with e; have := HZ0.out; omega))
              have HBO3 := Lib.hid (show BoxC W3 B5 _ _ from (hG3.block B5 hz6 (by intro e; injection e with e; have := HZ0.out; have := HGT.out; omega)).trans HBO2.out)
              have HBE3 := Lib.hid (show BoxC W3 (w.heap.size + 1 + 1) _ _ from (hG3.block _ (blk_lt HBE2.out) (by intro e; injection e with e; omega)).trans HBE2.out)
              have hB3 : Below w.heap.size w W3 := hB2.grown hG3 hB2.size (fun j e => by injection e with e; omega)
              rw [← hz3] at hz6 hg6 hh6
              obtain ⟨x3, hx3, s0, s1, s2, hgd, hfz⟩ := hOw3.get k hlt
              obtain rfl : x3 = ⟨no, some ⟨bh, 0, none⟩, xc, data, (s : Int)⟩ := by
                have := HX.out
                rw [hx3] at this
                injection this
              dsimp only [vX] at s0 s1 s2 hgd
              have hgv : Kd.R kB 5 W3 w0.heap.size (fun _ => True) (.slice (some ⟨bh, 0, none⟩) data.length xc) data := hgd
              rw [hL] at s1 hgv
              have hf1 := hfz (k * 3 + 1)
              have hf2 := hfz (k * 3 + 2)
              have HOW3 := Lib.hid hOw3
              have HGV3 := Lib.hid hgv
              have HBP3 := Lib.hid bP3
              clear hOw3 bP2 hB2 hgd hgv hfz hx3 hG3 hz3 hq2 hqc2 bP3 HOW2 HBO2 HBE2
              obtain ⟨v2, hv2⟩ : ∃ v2, q.tail.headD 0 = v2 := ⟨_, rfl⟩
              rw [hv2]
              obtain ⟨od, hod⟩ : ∃ od, (Int.tmod v2 2 != 0) = od := ⟨_, rfl⟩
              have HV2 := Lib.hid hv2
              clear hv2
              go_wp2_with (fail)
              have z3 := sliceHigh (some ⟨bh, 0, none⟩) (s + kk) xc (s + kk) (by omega)
              simp only [Int.natCast_add] at z3
              have hsum : IntKind.i64.wrap ((s : Int) + (kk : Int)) = (s : Int) + (kk : Int) := i64_of (by have := HBD.out; omega) (by have := HBD.out; omega)
              go_still_tail 13, (by kernel_rfl)
              all_goals change wpList _ _ _ _ _ W3.drew
              have HTL := Lib.hid (show (data.take (s + kk)).length = (s + kk) by rw [List.length_take, hL]; omega)
              have hcF := crashF_eq no data s kk kk q hL HKK.out
              rw [HV2.out] at hcF
              have HCF := Lib.hid hcF
              have HOD := Lib.hid (show decide (v2 % 2 ≠ 0) = od by rw [← odd_tmod]; exact hod)
              have HB3 := Lib.hid hB3
              clear hcF s0 hB3 hsum
              cases od with
              | false =>
                clear z3
                go_wp2_with (fail)
                have hput : OwnF (((W3.setCell ⟨g, k * 3 + 1, none⟩ (.slice (some ⟨bh, 0, none⟩) (s + kk) xc)).setCell ⟨g, k * 3 + 2, none⟩ (.int .i64 ((s : Int) + (kk : Int)))).drew) w0.heap.size (.slice (some ⟨g, 0, none⟩) l.length c1) l.length (ys.set k ⟨no, some ⟨bh, 0, none⟩, xc, data.take (s + kk), ((s + kk : Nat) : Int)⟩) := by
                  obtain ⟨cells, hgb⟩ := own_typed HOW3.out.2.1 g rfl
                  have ht : ∀ q, q ∈ (5 : TypeId) :: kB.E → q ≠ 32 := by intro q hq; simp [Kd.int, Kd.scalar] at hq; subst hq; decide
                  have hbb : bh ≠ g := fun e => by
                    obtain ⟨cells2, hgb2⟩ := Kd.R_typed HGV3.out bh rfl
                    rw [e, hgb] at hgb2
                    injection hgb2 with e2
                    injection e2 with _ e3
                    cases e3
                  have hr := row_put (HOW3.out.2.1) HX.out (some ⟨bh, 0, none⟩) xc (data.take (s + kk)) ((s + kk : Nat) : Int)
                  rw [HTL.out] at hr
                  have hgt : Kd.R kB 5 W3 w0.heap.size (fun _ => True) (.slice (some ⟨bh, 0, none⟩) (s + kk) xc) (data.take (s + kk)) := Kd.R_take HGV3.out (by rw [hL]; omega)
                  refine HOW3.out.put HX.out (by have h9 := hr.drew; simpa using h9) (fun q hq1 hq2 hq3 hq4 => (Below.heap_setCell _ _ _ q (by exact hq3)).trans (Below.heap_setCell _ _ _ q (by exact hq3))) ?_ (fun q hq => .inl hq)
                  show Kd.R kB 5 _ w0.heap.size (fun _ => True) (.slice (some ⟨bh, 0, none⟩) (data.take (s + kk)).length xc) (data.take (s + kk))
                  rw [HTL.out]
                  exact Kd.R_set (Kd.R_set hgt hgb ht _ _) (blk_set hgb _ _) ht _ _
                have hB5g : B5 ≠ g := fun e => by
                  obtain ⟨cells, hgb⟩ := own_typed HOW3.out.2.1 g rfl
                  have h2 : W3.heap[B5]? = _ := HBO3.out
                  rw [e, hgb] at h2
                  injection h2 with e2
                  injection e2 with _ e3
                  cases e3
                have hB5h : B5 ≠ bh := fun e => by
                  obtain ⟨cells, hgb⟩ := Kd.R_typed HGV3.out bh rfl
                  have h2 : W3.heap[B5]? = _ := HBO3.out
                  rw [e, hgb] at h2
                  injection h2 with e2
                  injection e2 with _ e3
                  cases e3
                have bO4 : BoxC (((W3.setCell ⟨g, k * 3 + 1, none⟩ (.slice (some ⟨bh, 0, none⟩) (s + kk) xc)).setCell ⟨g, k * 3 + 2, none⟩ (.int .i64 ((s : Int) + (kk : Int)))).drew) B5 (cellsD cap (some ⟨g, 0, none⟩) l.length c1) 24 := (HBO3.out.other _ _ hB5g).other _ _ hB5g
                have bP4 : BoxC (((W3.setCell ⟨g, k * 3 + 1, none⟩ (.slice (some ⟨bh, 0, none⟩) (s + kk) xc)).setCell ⟨g, k * 3 + 2, none⟩ (.int .i64 ((s : Int) + (kk : Int)))).drew) (w.heap.size + 1) #[.slice qA3 q.tail.tail.length qc3] 25 := (HBP3.out.other _ _ (by have := HZ0.out; show w.heap.size + 1 ≠ g; omega)).other _ _ (by have := HZ0.out; show w.heap.size + 1 ≠ g; omega)
                have bE4 : BoxC (((W3.setCell ⟨g, k * 3 + 1, none⟩ (.slice (some ⟨bh, 0, none⟩) (s + kk) xc)).setCell ⟨g, k * 3 + 2, none⟩ (.int .i64 ((s : Int) + (kk : Int)))).drew) (w.heap.size + 1 + 1) (cellsD 0 none 0 0) 24 := (HBE3.out.other _ _ (by have := HZ0.out; show w.heap.size + 1 + 1 ≠ g; omega)).other _ _ (by have := HZ0.out; show w.heap.size + 1 + 1 ≠ g; omega)
                have hB4 : Below w.heap.size w (((W3.setCell ⟨g, k * 3 + 1, none⟩ (.slice (some ⟨bh, 0, none⟩) (s + kk) xc)).setCell ⟨g, k * 3 + 2, none⟩ (.int .i64 ((s : Int) + (kk : Int)))).drew) := below_drew ((HB3.out.setCell (p := ⟨g, k * 3 + 1, none⟩) (by have := HZ0.out; show w.heap.size ≤ g; omega) _).setCell (p := ⟨g, k * 3 + 2, none⟩) (by have := HZ0.out; show w.heap.size ≤ g; omega) _)
                have hz7 : B5 < ((((W3.setCell ⟨g, k * 3 + 1, none⟩ (.slice (some ⟨bh, 0, none⟩) (s + kk) xc)).setCell ⟨g, k * 3 + 2, none⟩ (.int .i64 ((s : Int) + (kk : Int)))).drew)).heap.size := by simpa using hz6
                have hcl3 : crashL l p = ((ys.set k ⟨no, some ⟨bh, 0, none⟩, xc, data.take (s + kk), ((s + kk : Nat) : Int)⟩).map flX).take (k + 1) ++ crashL (l.drop (k + 1)) (q.tail.tail) := by
                  rw [List.map_set, take_set_snoc _ (by rw [List.length_map, HYS.out]; exact hlt), HCL.out.1, HCS.out, if_neg (by show ¬ (s : Int) = (data.length : Int); omega), List.append_assoc]
                  congr 1
                  show crashF ⟨no, data, (s : Int)⟩ q :: crashL (l.drop (k + 1)) (q.drop 2) = _
                  rw [drop_two]
                  rw [HCF.out, if_neg (by have := HOD.out; simpa using this)]
                  rfl
                exact ⟨⟨k + 1, _, q.tail.tail, qA3, qc3, by omega, by go_num, hput, Lib.hid ⟨hcl3, by rw [List.map_set, drop_set_snoc]; exact HDR.out⟩, bO4, bP4, bE4, hq3, hqc3, hB4, hz7⟩, by simp [intOf]; omega⟩
              | true =>
                clear z3
                have hbg : bh ≠ g := fun e => by
                  obtain ⟨cells, hgb⟩ := own_typed HOW3.out.2.1 g rfl
                  obtain ⟨cells2, hgb2⟩ := Kd.R_typed HGV3.out bh rfl
                  rw [e, hgb] at hgb2
                  injection hgb2 with e2
                  injection e2 with _ e3
                  cases e3
                have hkb : (kk : Int) ≤ 1000000 := by have := HBD.out; omega
                by_cases h8 : (0 : Int) < (kk : Int) - 8
                · have h8a : ¬ (kk : Int) - 8 ≤ 0 := by omega
                  have h8b : ¬ (kk : Int) - 8 < 0 := by omega
                  have h8c : (8 : Int) < (kk : Int) := by omega
                  go_wp2_with (fail)
                  have hput : OwnF (((W3.setCell ⟨g, k * 3 + 1, none⟩ (.slice (some ⟨bh, 0, none⟩) (s + kk) xc)).setCell ⟨g, k * 3 + 2, none⟩ (.int .i64 ((s : Int) + (kk : Int)))).drew) w0.heap.size (.slice (some ⟨g, 0, none⟩) l.length c1) l.length (ys.set k ⟨no, some ⟨bh, 0, none⟩, xc, data.take (s + kk), ((s + kk : Nat) : Int)⟩) := by
                    obtain ⟨cells, hgb⟩ := own_typed HOW3.out.2.1 g rfl
                    have ht : ∀ q, q ∈ (5 : TypeId) :: kB.E → q ≠ 32 := by intro q hq; simp [Kd.int, Kd.scalar] at hq; subst hq; decide
                    have hbb : bh ≠ g := fun e => by
                      obtain ⟨cells2, hgb2⟩ := Kd.R_typed HGV3.out bh rfl
                      rw [e, hgb] at hgb2
                      injection hgb2 with e2
                      injection e2 with _ e3
                      cases e3
                    have hr := row_put (HOW3.out.2.1) HX.out (some ⟨bh, 0, none⟩) xc (data.take (s + kk)) ((s + kk : Nat) : Int)
                    rw [HTL.out] at hr
                    have hgt : Kd.R kB 5 W3 w0.heap.size (fun _ => True) (.slice (some ⟨bh, 0, none⟩) (s + kk) xc) (data.take (s + kk)) := Kd.R_take HGV3.out (by rw [hL]; omega)
                    refine HOW3.out.put HX.out (by have h9 := hr.drew; simpa using h9) (fun q hq1 hq2 hq3 hq4 => (Below.heap_setCell _ _ _ q (by exact hq3)).trans (Below.heap_setCell _ _ _ q (by exact hq3))) ?_ (fun q hq => .inl hq)
                    show Kd.R kB 5 _ w0.heap.size (fun _ => True) (.slice (some ⟨bh, 0, none⟩) (data.take (s + kk)).length xc) (data.take (s + kk))
                    rw [HTL.out]
                    exact Kd.R_set (Kd.R_set hgt hgb ht _ _) (blk_set hgb _ _) ht _ _
                  have hB5g : B5 ≠ g := fun e => by
                    obtain ⟨cells, hgb⟩ := own_typed HOW3.out.2.1 g rfl
                    have h2 : W3.heap[B5]? = _ := HBO3.out
                    rw [e, hgb] at h2
                    injection h2 with e2
                    injection e2 with _ e3
                    cases e3
                  have hB5h : B5 ≠ bh := fun e => by
                    obtain ⟨cells, hgb⟩ := Kd.R_typed HGV3.out bh rfl
                    have h2 : W3.heap[B5]? = _ := HBO3.out
                    rw [e, hgb] at h2
                    injection h2 with e2
                    injection e2 with _ e3
                    cases e3
                  have bO4 : BoxC (((W3.setCell ⟨g, k * 3 + 1, none⟩ (.slice (some ⟨bh, 0, none⟩) (s + kk) xc)).setCell ⟨g, k * 3 + 2, none⟩ (.int .i64 ((s : Int) + (kk : Int)))).drew) B5 (cellsD cap (some ⟨g, 0, none⟩) l.length c1) 24 := (HBO3.out.other _ _ hB5g).other _ _ hB5g
                  have bP4 : BoxC (((W3.setCell ⟨g, k * 3 + 1, none⟩ (.slice (some ⟨bh, 0, none⟩) (s + kk) xc)).setCell ⟨g, k * 3 + 2, none⟩ (.int .i64 ((s : Int) + (kk : Int)))).drew) (w.heap.size + 1) #[.slice qA3 q.tail.tail.length qc3] 25 := (HBP3.out.other _ _ (by have := HZ0.out; show w.heap.size + 1 ≠ g; omega)).other _ _ (by have := HZ0.out; show w.heap.size + 1 ≠ g; omega)
                  have bE4 : BoxC (((W3.setCell ⟨g, k * 3 + 1, none⟩ (.slice (some ⟨bh, 0, none⟩) (s + kk) xc)).setCell ⟨g, k * 3 + 2, none⟩ (.int .i64 ((s : Int) + (kk : Int)))).drew) (w.heap.size + 1 + 1) (cellsD 0 none 0 0) 24 := (HBE3.out.other _ _ (by have := HZ0.out; show w.heap.size + 1 + 1 ≠ g; omega)).other _ _ (by have := HZ0.out; show w.heap.size + 1 + 1 ≠ g; omega)
                  have hB4 : Below w.heap.size w (((W3.setCell ⟨g, k * 3 + 1, none⟩ (.slice (some ⟨bh, 0, none⟩) (s + kk) xc)).setCell ⟨g, k * 3 + 2, none⟩ (.int .i64 ((s : Int) + (kk : Int)))).drew) := below_drew ((HB3.out.setCell (p := ⟨g, k * 3 + 1, none⟩) (by have := HZ0.out; show w.heap.size ≤ g; omega) _).setCell (p := ⟨g, k * 3 + 2, none⟩) (by have := HZ0.out; show w.heap.size ≤ g; omega) _)
                  have hz7 : B5 < ((((W3.setCell ⟨g, k * 3 + 1, none⟩ (.slice (some ⟨bh, 0, none⟩) (s + kk) xc)).setCell ⟨g, k * 3 + 2, none⟩ (.int .i64 ((s : Int) + (kk : Int)))).drew)).heap.size := by simpa using hz6
                  have hgl : Kd.R kB 5 (((W3.setCell ⟨g, k * 3 + 1, none⟩ (.slice (some ⟨bh, 0, none⟩) (s + kk) xc)).setCell ⟨g, k * 3 + 2, none⟩ (.int .i64 ((s : Int) + (kk : Int)))).drew) w0.heap.size (fun _ => True) (.slice (some ⟨bh, 0, none⟩) (s + kk) xc) (data.take (s + kk)) := by
                    have := hput.2.2.1 k _ (List.getElem?_set_self (by rw [HYS.out]; exact hlt))
                    have h2 : Kd.R kB 5 _ w0.heap.size (fun _ => True) (.slice (some ⟨bh, 0, none⟩) (data.take (s + kk)).length xc) (data.take (s + kk)) := this
                    rw [HTL.out] at h2
                    exact h2
                  generalize (((W3.setCell ⟨g, k * 3 + 1, none⟩ (.slice (some ⟨bh, 0, none⟩) (s + kk) xc)).setCell ⟨g, k * 3 + 2, none⟩ (.int .i64 ((s : Int) + (kk : Int)))).drew) = w4 at *
                  have HPUT := Lib.hid hput
                  have HBO4 := Lib.hid bO4
                  have HBP4 := Lib.hid bP4
                  have HBE4 := Lib.hid bE4
                  have HB4 := Lib.hid hB4
                  have hgl0 := hgl
                  rw [← tornTo_same (data.take (s + kk)) (s + (kk - 8))] at hgl0
                  have HGL := Lib.hid hgl0
                  clear hput bO4 bP4 bE4 hB4 hgl hgl0 s1 s2 hf1 hf2 HOW3 HGV3 HBP3 HBO3 HBE3 HB3 hz6 hg6 hh6
                  go_loopw [11] (fun i wz => ∃ j : Nat, i = .int .i64 (j : Int) ∧ kk - 8 ≤ j ∧ j ≤ kk ∧ Kd.R kB 5 wz w0.heap.size (fun _ => True) (.slice (some ⟨bh, 0, none⟩) (s + kk) xc) (tornTo (data.take (s + kk)) (s + (kk - 8)) (s + j)) ∧ w4.grownBy wz (some bh)) (fun i _ => kk - (intOf i).toNat)
                  case atStart => exact ⟨kk - 8, by first | rfl | (congr 1; omega), Nat.le_refl _, by omega, HGL.out, World.grownBy.refl _ _⟩
                  case round =>
                    obtain ⟨j, rfl, hj0, hj1, hgr, hgw⟩ := hrel
                    by_cases hjl : j < kk
                    · have hjli : (j : Int) < (kk : Int) := by omega
                      have hln : (tornTo (data.take (s + kk)) (s + (kk - 8)) (s + j)).length = (s + kk) := by rw [tornTo_len, HTL.out]
                      have hlt2 : s + j < (data.take (s + kk)).length := by rw [HTL.out]; omega
                      have hy : (tornTo (data.take (s + kk)) (s + (kk - 8)) (s + j))[s + j]? = some ((data.take (s + kk))[s + j]) := by
                        rw [tornTo_get, List.getElem?_eq_getElem hlt2, Option.map_some, if_neg (by omega)]
                      have hset := tornTo_set (data.take (s + kk)) (s + (kk - 8)) (s + j) (by omega) hlt2
                      have hyo : 0 ≤ (data.take (s + kk))[s + j] ∧ (data.take (s + kk))[s + j] ≤ 255 := HXO.out _ (List.mem_of_mem_take (List.getElem_mem hlt2))
                      generalize (data.take (s + kk))[s + j] = y at *
                      have hgr2 : Kd.R kB 5 wr w0.heap.size (fun _ => True) (.slice (some ⟨bh, 0, none⟩) (tornTo (data.take (s + kk)) (s + (kk - 8)) (s + j)).length xc) (tornTo (data.take (s + kk)) (s + (kk - 8)) (s + j)) := by
                        rw [hln]
                        exact hgr
                      obtain ⟨hce, hfr⟩ := Kd.R_cell (0 : Int) hgr2 ((s + j : Nat) : Int) (by omega) (by rw [hln]; omega)
                      rw [Int.toNat_natCast] at hce hfr
                      have hrd : rdOf (0 : Int) (tornTo (data.take (s + kk)) (s + (kk - 8)) (s + j)) ((s + j : Nat) : Int) = y := by
                        unfold rdOf
                        rw [Int.toNat_natCast, List.getD_eq_getElem?_getD, hy]
                        rfl
                      rw [hrd] at hce
                      have hst := Kd.R_put hgr2 ((s + j : Nat) : Int) (xorT y)
                      rw [Int.toNat_natCast, hset, hln] at hst
                      have HST := Lib.hid hst
                      have HGW := Lib.hid hgw
                      have hxy := u8_xorT y hyo
                      have HXY := Lib.hid hxy
                      clear hst hgr hgr2 hset hy hrd hln hyo hlt2 hgw hxy
                      go_wp2_with (fail)
                      rw [HXY.out]
                      go_roundw
                      case rel => exact ⟨j + 1, by go_num, by omega, by omega, HST.out.1, HGW.out.trans HST.out.2⟩
                      case measure => simp [intOf]; omega
                    · have hjli : ¬ (j : Int) < (kk : Int) := by omega
                      obtain rfl : kk = j := by omega
                      have hx4 : (ys.set k ⟨no, some ⟨bh, 0, none⟩, xc, data.take (s + kk), ((s + kk : Nat) : Int)⟩)[k]? = some ⟨no, some ⟨bh, 0, none⟩, xc, data.take (s + kk), ((s + kk : Nat) : Int)⟩ := List.getElem?_set_self (by rw [HYS.out]; exact hlt)
                      have hrow5 : wr.ownsRow w0.heap.size 32 3 (.slice (some ⟨g, 0, none⟩) l.length c1) l.length (flat ((ys.set k ⟨no, some ⟨bh, 0, none⟩, xc, data.take (s + kk), ((s + kk : Nat) : Int)⟩).set k ⟨no, some ⟨bh, 0, none⟩, xc, tornTo (data.take (s + kk)) (s + (kk - 8)) (s + kk), ((s + kk : Nat) : Int)⟩)) := by
                        have h1 : (flat ((ys.set k ⟨no, some ⟨bh, 0, none⟩, xc, data.take (s + kk), ((s + kk : Nat) : Int)⟩).set k ⟨no, some ⟨bh, 0, none⟩, xc, tornTo (data.take (s + kk)) (s + (kk - 8)) (s + kk), ((s + kk : Nat) : Int)⟩)) = flat (ys.set k ⟨no, some ⟨bh, 0, none⟩, xc, data.take (s + kk), ((s + kk : Nat) : Int)⟩) := by
                          rw [List.set_set]
                          apply List.ext_getElem?
                          intro q9
                          have hq9 : q9 = q9 / 3 * 3 + q9 % 3 := by omega
                          rw [hq9, flat_get _ _ _ (by omega), flat_get _ _ _ (by omega)]
                          by_cases hkq : k = q9 / 3
                          · rw [← hkq, List.getElem?_set_self (by rw [HYS.out]; exact hlt), List.getElem?_set_self (by rw [HYS.out]; exact hlt)]
                            show (cellsX ⟨no, some ⟨bh, 0, none⟩, xc, tornTo (data.take (s + kk)) (s + (kk - 8)) (s + kk), ((s + kk : Nat) : Int)⟩)[q9 % 3]? = (cellsX ⟨no, some ⟨bh, 0, none⟩, xc, data.take (s + kk), ((s + kk : Nat) : Int)⟩)[q9 % 3]?
                            unfold cellsX vX
                            dsimp only
                            rw [tornTo_len]
                          · rw [List.getElem?_set_ne hkq, List.getElem?_set_ne hkq]
                        rw [h1]
                        exact own_move HPUT.out.2.1 (fun q9 hq9 => hgw.block q9 (own_lt HPUT.out.2.1 q9 hq9) (by
                          intro e
                          injection e with e
                          have hq10 : g = q9 := by simpa [Value.ownBlock] using hq9
                          exact hbg (by omega)))
                      have hput5 := HPUT.out.put hx4 hrow5 (fun q9 h1 h2 h3 h4 => hgw.block q9 h2 (fun e => h4 (by
                          injection e with e
                          have e9 : q9 = bh := by omega
                          subst e9
                          rfl))) (by
                        show Kd.R kB 5 wr w0.heap.size (fun _ => True) (.slice (some ⟨bh, 0, none⟩) (tornTo (data.take (s + kk)) (s + (kk - 8)) (s + kk)).length xc) _
                        rw [tornTo_len, HTL.out]
                        exact hgr) (fun q9 h => .inl h)
                      rw [List.set_set] at hput5
                      have bO5 := (hgw.block B5 hz7 (by intro e; injection e with e; exact hB5h (by omega))).trans HBO4.out
                      have bP5 := (hgw.block (w.heap.size + 1) (blk_lt HBP4.out) (by intro e; injection e with e; have := HZ0.out; omega)).trans HBP4.out
                      have bE5 := (hgw.block (w.heap.size + 1 + 1) (blk_lt HBE4.out) (by intro e; injection e with e; have := HZ0.out; omega)).trans HBE4.out
                      have hB5 := HB4.out.grown hgw HB4.out.size (fun j9 e => by injection e with e; have := HZ0.out; omega)
                      have hz8 : B5 < wr.heap.size := Nat.lt_of_lt_of_le hz7 hgw.size
                      have HP5 := Lib.hid hput5
                      clear hput5 hrow5 hx4 hgr hgw
                      have hcl3 : crashL l p = ((ys.set k ⟨no, some ⟨bh, 0, none⟩, xc, tornTo (data.take (s + kk)) (s + (kk - 8)) (s + kk), ((s + kk : Nat) : Int)⟩).map flX).take (k + 1) ++ crashL (l.drop (k + 1)) (q.tail.tail) := by
                        rw [List.map_set, take_set_snoc _ (by rw [List.length_map, HYS.out]; exact hlt), HCL.out.1, HCS.out, if_neg (by show ¬ (s : Int) = (data.length : Int); omega), List.append_assoc]
                        congr 1
                        show crashF ⟨no, data, (s : Int)⟩ q :: crashL (l.drop (k + 1)) (q.drop 2) = _
                        rw [drop_two]
                        rw [HCF.out, if_pos (by have := HOD.out; simpa using this), tornB_to, HTL.out, show max s ((s + kk) - 8) = s + (kk - 8) by omega]
                        rfl
                      go_wp2_with (fail)
                      exact ⟨⟨k + 1, _, q.tail.tail, qA3, qc3, by omega, by go_num, HP5.out, Lib.hid ⟨hcl3, by rw [List.map_set, drop_set_snoc]; exact HDR.out⟩, bO5, bP5, bE5, hq3, hqc3, hB5, hz8⟩, by simp [intOf]; omega⟩
                · skip
                  go_wp2_with (fail)
                  have hput : OwnF (((W3.setCell ⟨g, k * 3 + 1, none⟩ (.slice (some ⟨bh, 0, none⟩) (s + kk) xc)).setCell ⟨g, k * 3 + 2, none⟩ (.int .i64 ((s : Int) + (kk : Int)))).drew) w0.heap.size (.slice (some ⟨g, 0, none⟩) l.length c1) l.length (ys.set k ⟨no, some ⟨bh, 0, none⟩, xc, data.take (s + kk), ((s + kk : Nat) : Int)⟩) := by
                    obtain ⟨cells, hgb⟩ := own_typed HOW3.out.2.1 g rfl
                    have ht : ∀ q, q ∈ (5 : TypeId) :: kB.E → q ≠ 32 := by intro q hq; simp [Kd.int, Kd.scalar] at hq; subst hq; decide
                    have hbb : bh ≠ g := fun e => by
                      obtain ⟨cells2, hgb2⟩ := Kd.R_typed HGV3.out bh rfl
                      rw [e, hgb] at hgb2
                      injection hgb2 with e2
                      injection e2 with _ e3
                      cases e3
                    have hr := row_put (HOW3.out.2.1) HX.out (some ⟨bh, 0, none⟩) xc (data.take (s + kk)) ((s + kk : Nat) : Int)
                    rw [HTL.out] at hr
                    have hgt : Kd.R kB 5 W3 w0.heap.size (fun _ => True) (.slice (some ⟨bh, 0, none⟩) (s + kk) xc) (data.take (s + kk)) := Kd.R_take HGV3.out (by rw [hL]; omega)
                    refine HOW3.out.put HX.out (by have h9 := hr.drew; simpa using h9) (fun q hq1 hq2 hq3 hq4 => (Below.heap_setCell _ _ _ q (by exact hq3)).trans (Below.heap_setCell _ _ _ q (by exact hq3))) ?_ (fun q hq => .inl hq)
                    show Kd.R kB 5 _ w0.heap.size (fun _ => True) (.slice (some ⟨bh, 0, none⟩) (data.take (s + kk)).length xc) (data.take (s + kk))
                    rw [HTL.out]
                    exact Kd.R_set (Kd.R_set hgt hgb ht _ _) (blk_set hgb _ _) ht _ _
                  have hB5g : B5 ≠ g := fun e => by
                    obtain ⟨cells, hgb⟩ := own_typed HOW3.out.2.1 g rfl
                    have h2 : W3.heap[B5]? = _ := HBO3.out
                    rw [e, hgb] at h2
                    injection h2 with e2
                    injection e2 with _ e3
                    cases e3
                  have hB5h : B5 ≠ bh := fun e => by
                    obtain ⟨cells, hgb⟩ := Kd.R_typed HGV3.out bh rfl
                    have h2 : W3.heap[B5]? = _ := HBO3.out
                    rw [e, hgb] at h2
                    injection h2 with e2
                    injection e2 with _ e3
                    cases e3
                  have bO4 : BoxC (((W3.setCell ⟨g, k * 3 + 1, none⟩ (.slice (some ⟨bh, 0, none⟩) (s + kk) xc)).setCell ⟨g, k * 3 + 2, none⟩ (.int .i64 ((s : Int) + (kk : Int)))).drew) B5 (cellsD cap (some ⟨g, 0, none⟩) l.length c1) 24 := (HBO3.out.other _ _ hB5g).other _ _ hB5g
                  have bP4 : BoxC (((W3.setCell ⟨g, k * 3 + 1, none⟩ (.slice (some ⟨bh, 0, none⟩) (s + kk) xc)).setCell ⟨g, k * 3 + 2, none⟩ (.int .i64 ((s : Int) + (kk : Int)))).drew) (w.heap.size + 1) #[.slice qA3 q.tail.tail.length qc3] 25 := (HBP3.out.other _ _ (by have := HZ0.out; show w.heap.size + 1 ≠ g; omega)).other _ _ (by have := HZ0.out; show w.heap.size + 1 ≠ g; omega)
                  have bE4 : BoxC (((W3.setCell ⟨g, k * 3 + 1, none⟩ (.slice (some ⟨bh, 0, none⟩) (s + kk) xc)).setCell ⟨g, k * 3 + 2, none⟩ (.int .i64 ((s : Int) + (kk : Int)))).drew) (w.heap.size + 1 + 1) (cellsD 0 none 0 0) 24 := (HBE3.out.other _ _ (by have := HZ0.out; show w.heap.size + 1 + 1 ≠ g; omega)).other _ _ (by have := HZ0.out; show w.heap.size + 1 + 1 ≠ g; omega)
                  have hB4 : Below w.heap.size w (((W3.setCell ⟨g, k * 3 + 1, none⟩ (.slice (some ⟨bh, 0, none⟩) (s + kk) xc)).setCell ⟨g, k * 3 + 2, none⟩ (.int .i64 ((s : Int) + (kk : Int)))).drew) := below_drew ((HB3.out.setCell (p := ⟨g, k * 3 + 1, none⟩) (by have := HZ0.out; show w.heap.size ≤ g; omega) _).setCell (p := ⟨g, k * 3 + 2, none⟩) (by have := HZ0.out; show w.heap.size ≤ g; omega) _)
                  have hz7 : B5 < ((((W3.setCell ⟨g, k * 3 + 1, none⟩ (.slice (some ⟨bh, 0, none⟩) (s + kk) xc)).setCell ⟨g, k * 3 + 2, none⟩ (.int .i64 ((s : Int) + (kk : Int)))).drew)).heap.size := by simpa using hz6
                  have hgl : Kd.R kB 5 (((W3.setCell ⟨g, k * 3 + 1, none⟩ (.slice (some ⟨bh, 0, none⟩) (s + kk) xc)).setCell ⟨g, k * 3 + 2, none⟩ (.int .i64 ((s : Int) + (kk : Int)))).drew) w0.heap.size (fun _ => True) (.slice (some ⟨bh, 0, none⟩) (s + kk) xc) (data.take (s + kk)) := by
                    have := hput.2.2.1 k _ (List.getElem?_set_self (by rw [HYS.out]; exact hlt))
                    have h2 : Kd.R kB 5 _ w0.heap.size (fun _ => True) (.slice (some ⟨bh, 0, none⟩) (data.take (s + kk)).length xc) (data.take (s + kk)) := this
                    rw [HTL.out] at h2
                    exact h2
                  generalize (((W3.setCell ⟨g, k * 3 + 1, none⟩ (.slice (some ⟨bh, 0, none⟩) (s + kk) xc)).setCell ⟨g, k * 3 + 2, none⟩ (.int .i64 ((s : Int) + (kk : Int)))).drew) = w4 at *
                  have HPUT := Lib.hid hput
                  have HBO4 := Lib.hid bO4
                  have HBP4 := Lib.hid bP4
                  have HBE4 := Lib.hid bE4
                  have HB4 := Lib.hid hB4
                  have hgl0 := hgl
                  rw [← tornTo_same (data.take (s + kk)) (s + (kk - 8))] at hgl0
                  have HGL := Lib.hid hgl0
                  clear hput bO4 bP4 bE4 hB4 hgl hgl0 s1 s2 hf1 hf2 HOW3 HGV3 HBP3 HBO3 HBE3 HB3 hz6 hg6 hh6
                  go_loopw [11] (fun i wz => ∃ j : Nat, i = .int .i64 (j : Int) ∧ kk - 8 ≤ j ∧ j ≤ kk ∧ Kd.R kB 5 wz w0.heap.size (fun _ => True) (.slice (some ⟨bh, 0, none⟩) (s + kk) xc) (tornTo (data.take (s + kk)) (s + (kk - 8)) (s + j)) ∧ w4.grownBy wz (some bh)) (fun i _ => kk - (intOf i).toNat)
                  case atStart => exact ⟨kk - 8, by first | rfl | (congr 1; omega), Nat.le_refl _, by omega, HGL.out, World.grownBy.refl _ _⟩
                  case round =>
                    obtain ⟨j, rfl, hj0, hj1, hgr, hgw⟩ := hrel
                    by_cases hjl : j < kk
                    · have hjli : (j : Int) < (kk : Int) := by omega
                      have hln : (tornTo (data.take (s + kk)) (s + (kk - 8)) (s + j)).length = (s + kk) := by rw [tornTo_len, HTL.out]
                      have hlt2 : s + j < (data.take (s + kk)).length := by rw [HTL.out]; omega
                      have hy : (tornTo (data.take (s + kk)) (s + (kk - 8)) (s + j))[s + j]? = some ((data.take (s + kk))[s + j]) := by
                        rw [tornTo_get, List.getElem?_eq_getElem hlt2, Option.map_some, if_neg (by omega)]
                      have hset := tornTo_set (data.take (s + kk)) (s + (kk - 8)) (s + j) (by omega) hlt2
                      have hyo : 0 ≤ (data.take (s + kk))[s + j] ∧ (data.take (s + kk))[s + j] ≤ 255 := HXO.out _ (List.mem_of_mem_take (List.getElem_mem hlt2))
                      generalize (data.take (s + kk))[s + j] = y at *
                      have hgr2 : Kd.R kB 5 wr w0.heap.size (fun _ => True) (.slice (some ⟨bh, 0, none⟩) (tornTo (data.take (s + kk)) (s + (kk - 8)) (s + j)).length xc) (tornTo (data.take (s + kk)) (s + (kk - 8)) (s + j)) := by
                        rw [hln]
                        exact hgr
                      obtain ⟨hce, hfr⟩ := Kd.R_cell (0 : Int) hgr2 ((s + j : Nat) : Int) (by omega) (by rw [hln]; omega)
                      rw [Int.toNat_natCast] at hce hfr
                      have hrd : rdOf (0 : Int) (tornTo (data.take (s + kk)) (s + (kk - 8)) (s + j)) ((s + j : Nat) : Int) = y := by
                        unfold rdOf
                        rw [Int.toNat_natCast, List.getD_eq_getElem?_getD, hy]
                        rfl
                      rw [hrd] at hce
                      have hst := Kd.R_put hgr2 ((s + j : Nat) : Int) (xorT y)
                      rw [Int.toNat_natCast, hset, hln] at hst
                      have HST := Lib.hid hst
                      have HGW := Lib.hid hgw
                      have hxy := u8_xorT y hyo
                      have HXY := Lib.hid hxy
                      clear hst hgr hgr2 hset hy hrd hln hyo hlt2 hgw hxy
                      go_wp2_with (fail)
                      rw [HXY.out]
                      go_roundw
                      case rel => exact ⟨j + 1, by go_num, by omega, by omega, HST.out.1, HGW.out.trans HST.out.2⟩
                      case measure => simp [intOf]; omega
                    · have hjli : ¬ (j : Int) < (kk : Int) := by omega
                      obtain rfl : kk = j := by omega
                      have hx4 : (ys.set k ⟨no, some ⟨bh, 0, none⟩, xc, data.take (s + kk), ((s + kk : Nat) : Int)⟩)[k]? = some ⟨no, some ⟨bh, 0, none⟩, xc, data.take (s + kk), ((s + kk : Nat) : Int)⟩ := List.getElem?_set_self (by rw [HYS.out]; exact hlt)
                      have hrow5 : wr.ownsRow w0.heap.size 32 3 (.slice (some ⟨g, 0, none⟩) l.length c1) l.length (flat ((ys.set k ⟨no, some ⟨bh, 0, none⟩, xc, data.take (s + kk), ((s + kk : Nat) : Int)⟩).set k ⟨no, some ⟨bh, 0, none⟩, xc, tornTo (data.take (s + kk)) (s + (kk - 8)) (s + kk), ((s + kk : Nat) : Int)⟩)) := by
                        have h1 : (flat ((ys.set k ⟨no, some ⟨bh, 0, none⟩, xc, data.take (s + kk), ((s + kk : Nat) : Int)⟩).set k ⟨no, some ⟨bh, 0, none⟩, xc, tornTo (data.take (s + kk)) (s + (kk - 8)) (s + kk), ((s + kk : Nat) : Int)⟩)) = flat (ys.set k ⟨no, some ⟨bh, 0, none⟩, xc, data.take (s + kk), ((s + kk : Nat) : Int)⟩) := by
                          rw [List.set_set]
                          apply List.ext_getElem?
                          intro q9
                          have hq9 : q9 = q9 / 3 * 3 + q9 % 3 := by omega
                          rw [hq9, flat_get _ _ _ (by omega), flat_get _ _ _ (by omega)]
                          by_cases hkq : k = q9 / 3
                          · rw [← hkq, List.getElem?_set_self (by rw [HYS.out]; exact hlt), List.getElem?_set_self (by rw [HYS.out]; exact hlt)]
                            show (cellsX ⟨no, some ⟨bh, 0, none⟩, xc, tornTo (data.take (s + kk)) (s + (kk - 8)) (s + kk), ((s + kk : Nat) : Int)⟩)[q9 % 3]? = (cellsX ⟨no, some ⟨bh, 0, none⟩, xc, data.take (s + kk), ((s + kk : Nat) : Int)⟩)[q9 % 3]?
                            unfold cellsX vX
                            dsimp only
                            rw [tornTo_len]
                          · rw [List.getElem?_set_ne hkq, List.getElem?_set_ne hkq]
                        rw [h1]
                        exact own_move HPUT.out.2.1 (fun q9 hq9 => hgw.block q9 (own_lt HPUT.out.2.1 q9 hq9) (by
                          intro e
                          injection e with e
                          have hq10 : g = q9 := by simpa [Value.ownBlock] using hq9
                          exact hbg (by omega)))
                      have hput5 := HPUT.out.put hx4 hrow5 (fun q9 h1 h2 h3 h4 => hgw.block q9 h2 (fun e => h4 (by
                          injection e with e
                          have e9 : q9 = bh := by omega
                          subst e9
                          rfl))) (by
                        show Kd.R kB 5 wr w0.heap.size (fun _ => True) (.slice (some ⟨bh, 0, none⟩) (tornTo (data.take (s + kk)) (s + (kk - 8)) (s + kk)).length xc) _
                        rw [tornTo_len, HTL.out]
                        exact hgr) (fun q9 h => .inl h)
                      rw [List.set_set] at hput5
                      have bO5 := (hgw.block B5 hz7 (by intro e; injection e with e; exact hB5h (by omega))).trans HBO4.out
                      have bP5 := (hgw.block (w.heap.size + 1) (blk_lt HBP4.out) (by intro e; injection e with e; have := HZ0.out; omega)).trans HBP4.out
                      have bE5 := (hgw.block (w.heap.size + 1 + 1) (blk_lt HBE4.out) (by intro e; injection e with e; have := HZ0.out; omega)).trans HBE4.out
                      have hB5 := HB4.out.grown hgw HB4.out.size (fun j9 e => by injection e with e; have := HZ0.out; omega)
                      have hz8 : B5 < wr.heap.size := Nat.lt_of_lt_of_le hz7 hgw.size
                      have HP5 := Lib.hid hput5
                      clear hput5 hrow5 hx4 hgr hgw
                      have hcl3 : crashL l p = ((ys.set k ⟨no, some ⟨bh, 0, none⟩, xc, tornTo (data.take (s + kk)) (s + (kk - 8)) (s + kk), ((s + kk : Nat) : Int)⟩).map flX).take (k + 1) ++ crashL (l.drop (k + 1)) (q.tail.tail) := by
                        rw [List.map_set, take_set_snoc _ (by rw [List.length_map, HYS.out]; exact hlt), HCL.out.1, HCS.out, if_neg (by show ¬ (s : Int) = (data.length : Int); omega), List.append_assoc]
                        congr 1
                        show crashF ⟨no, data, (s : Int)⟩ q :: crashL (l.drop (k + 1)) (q.drop 2) = _
                        rw [drop_two]
                        rw [HCF.out, if_pos (by have := HOD.out; simpa using this), tornB_to, HTL.out, show max s ((s + kk) - 8) = s + (kk - 8) by omega]
                        rfl
                      go_wp2_with (fail)
                      exact ⟨⟨k + 1, _, q.tail.tail, qA3, qc3, by omega, by go_num, HP5.out, Lib.hid ⟨hcl3, by rw [List.map_set, drop_set_snoc]; exact HDR.out⟩, bO5, bP5, bE5, hq3, hqc3, hB5, hz8⟩, by simp [intOf]; omega⟩
            -- END
      · have hnl : ¬ (k : Int) < (l.length : Int) := by omega
        obtain rfl : k = l.length := by omega
        have f0 := bE.c 0 rfl
        have f1 := bE.c 1 rfl
        have ff0 := bE.f 0
        have ff1 := bE.f 1
        have hE := (bE.set 0 (.int .i64 cap)).set 1 (.slice A1 l.length c1)
        have hOn := hOw.moved (W1 := (wr.setCell ⟨w.heap.size + 1 + 1, 0, none⟩ (.int .i64 cap)).setCell ⟨w.heap.size + 1 + 1, 1, none⟩ (.slice A1 l.length c1)) (fun q hq _ => (Below.heap_setCell _ _ _ q (by have := HZ0.out; show q ≠ w.heap.size + 1 + 1; omega)).trans (Below.heap_setCell _ _ _ q (by have := HZ0.out; show q ≠ w.heap.size + 1 + 1; omega)))
        have hBn : Below w.heap.size w ((wr.setCell ⟨w.heap.size + 1 + 1, 0, none⟩ (.int .i64 cap)).setCell ⟨w.heap.size + 1 + 1, 1, none⟩ (.slice A1 l.length c1)) := (hB.setCell (p := ⟨w.heap.size + 1 + 1, 0, none⟩) (by show w.heap.size ≤ w.heap.size + 1 + 1; omega) _).setCell (p := ⟨w.heap.size + 1 + 1, 1, none⟩) (by show w.heap.size ≤ w.heap.size + 1 + 1; omega) _
        have hfin : (ys.map flX) = crashL l p := by
          have h1 := hcl.out.1
          rw [List.drop_length] at h1
          have h2 : (ys.map flX).length = l.length := by rw [List.length_map]; exact hOw.1
          have h3 : (ys.map flX).take l.length = ys.map flX := by rw [← h2]; exact List.take_length
          rw [h1, h3]
          exact (List.append_nil _).symm
        have HFIN := Lib.hid hfin
        have HE := Lib.hid hE
        have HON := Lib.hid (And.intro hOn.reads.1 (hOn.from_.mono (show w.heap.size ≤ w0.heap.size by have := HZ0.out; omega)))
        have HLN := Lib.hid (show (crashL l p).length = l.length by rw [← hfin, List.length_map]; exact hOw.1)
        clear hOw hE hOn hfin bE bP bO
        go_wp2_with (fail)
        (try rw [Exit.noGoto_ret])
        refine bodyPost_ret (results_D (fn := Try.f13) (p := 4) rfl _ _ (w.heap.size + 1 + 1) cap (.slice A1 l.length c1) rfl HE.out) rfl ?_
        have h1 := HON.out
        rw [HFIN.out] at h1
        rw [HCR.out]
        exact ⟨A1, c1, by rw [HLN.out], by rw [HLN.out]; exact h1.1, h1.2, hBn⟩
  · rw [decide_eq_false hm]
    have hcr : crashD ⟨cap, l⟩ p = ⟨cap, l⟩ := by unfold crashD; rw [if_neg hm]
    have HCR := Lib.hid hcr
    have f0 := bE1.c 0 rfl
    have f1 := bE1.c 1 rfl
    have ff0 := bE1.f 0
    have ff1 := bE1.f 1
    have hE := (bE1.set 0 (.int .i64 cap)).set 1 (.slice A1 l.length c1)
    have hOn := hOw.moved (W1 := (w2.setCell ⟨w.heap.size + 1 + 1, 0, none⟩ (.int .i64 cap)).setCell ⟨w.heap.size + 1 + 1, 1, none⟩ (.slice A1 l.length c1)) (fun q hq _ => (Below.heap_setCell _ _ _ q (by have := HZ0.out; show q ≠ w.heap.size + 1 + 1; omega)).trans (Below.heap_setCell _ _ _ q (by have := HZ0.out; show q ≠ w.heap.size + 1 + 1; omega)))
    have hBn : Below w.heap.size w ((w2.setCell ⟨w.heap.size + 1 + 1, 0, none⟩ (.int .i64 cap)).setCell ⟨w.heap.size + 1 + 1, 1, none⟩ (.slice A1 l.length c1)) := (hB3.setCell (p := ⟨w.heap.size + 1 + 1, 0, none⟩) (by show w.heap.size ≤ w.heap.size + 1 + 1; omega) _).setCell (p := ⟨w.heap.size + 1 + 1, 1, none⟩) (by show w.heap.size ≤ w.heap.size + 1 + 1; omega) _
    have HE := Lib.hid hE
    have HON := Lib.hid (And.intro hOn.reads.1 (hOn.from_.mono (show w.heap.size ≤ w0.heap.size by have := HZ0.out; omega)))
    clear e0 e1 bD1 bP1 bE1 bO1 hOw hE hOn hm hcr hb3
    go_wp2_with (fail)
    (try rw [Exit.noGoto_ret])
    refine bodyPost_ret (results_D (fn := Try.f13) (p := 4) rfl _ _ (w.heap.size + 1 + 1) cap (.slice A1 l.length c1) rfl HE.out) rfl ?_
    have h1 := HON.out
    rw [hxl.out] at h1
    rw [HCR.out]
    exact ⟨A1, c1, rfl, h1.1, h1.2, hBn⟩
end Go.Proofs.Ytahiigcofgnncaa.H
