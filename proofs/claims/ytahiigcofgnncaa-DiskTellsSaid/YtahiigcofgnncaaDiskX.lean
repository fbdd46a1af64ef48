import Derived.Test.YtahiigcofgnncaaDiskW
import Derived.Test.YtahiigcofgnncaaDiskI
/-! Layer 6: Make, walked. -/
namespace Go.Proofs.Ytahiigcofgnncaa.H
open Go.RowKit Moor Go.Proofs.YtahiigcofgnncaaW.PrintWords Go.Proofs.YtahiigcofgnncaaW.PrintLast Go.Proofs.YtahiigcofgnncaaW.PrintMore
set_option linter.unusedVariables false
set_option linter.unusedSimpArgs false

/-- Make's world: its three boxes, and the disk of one's own. -/
structure MkSt (w W : World) (cap : Int) (A : Option Addr) (c : Nat) (l : List Fl) (A1 : Option Addr) (c1 : Nat) (xs : List FX) (B2 B4 B6 base : Nat) : Prop where
  below : Below w.heap.size w W
  b2 : BoxC W B2 (cellsD cap A l.length c) 24
  b4 : BoxC W B4 (cellsD 0 none 0 0) 24
  b6 : BoxC W B6 (cellsD cap A1 l.length c1) 24
  own : OwnF W base (.slice A1 l.length c1) l.length xs
  fl : xs.map flX = l
  read : Kd.C kF W A l.length l
  h4 : w.heap.size ≤ B4
  hb : B4 < base
  h6 : base ≤ B6
  hs : base ≤ W.heap.size
theorem MkSt.step {w W W1 : World} {cap : Int} {A : Option Addr} {c : Nat} {l : List Fl} {A1 : Option Addr} {c1 : Nat} {xs : List FX} {B2 B4 B6 base : Nat} (h : MkSt w W cap A c l A1 c1 xs B2 B4 B6 base) (hb : Below W.heap.size W W1) : MkSt w W1 cap A c l A1 c1 xs B2 B4 B6 base :=
  ⟨h.below.trans (hb.mono h.below.size), h.b2.below hb, h.b4.below hb, h.b6.below hb, h.own.moved (fun q _ hq => hb.block q hq), h.fl, Kd.C_below h.read hb, h.h4, h.hb, h.h6, Nat.le_trans h.hs hb.size⟩
theorem MkSt.put {w W : World} {cap : Int} {A : Option Addr} {c : Nat} {l : List Fl} {A1 : Option Addr} {c1 : Nat} {xs : List FX} {B2 B4 B6 base : Nat} (h : MkSt w W cap A c l A1 c1 xs B2 B4 B6 base) :
    BoxC ((W.setCell ⟨B4, 0, none⟩ (.int .i64 cap)).setCell ⟨B4, 1, none⟩ (.slice A1 l.length c1)) B4 (cellsD cap A1 l.length c1) 24 ∧ l.length ≤ c1 ∧ CFrom w.heap.size ((W.setCell ⟨B4, 0, none⟩ (.int .i64 cap)).setCell ⟨B4, 1, none⟩ (.slice A1 l.length c1)) A1 l ∧ Below w.heap.size w ((W.setCell ⟨B4, 0, none⟩ (.int .i64 cap)).setCell ⟨B4, 1, none⟩ (.slice A1 l.length c1)) := put_result h.below h.h4 h.hb h.b4 h.own h.fl
theorem MkSt.ne {w W : World} {cap : Int} {A : Option Addr} {c : Nat} {l : List Fl} {A1 : Option Addr} {c1 : Nat} {xs : List FX} {B2 B4 B6 base : Nat} (h : MkSt w W cap A c l A1 c1 xs B2 B4 B6 base) {q : Nat} {cs : Array Value} (hq : BoxC W q cs 24) : (Value.slice A1 l.length c1).ownBlock ≠ some q := fun e => by
  obtain ⟨cells, hc⟩ := own_typed h.own.2.1 q e
  rw [show W.heap[q]? = some (.cells cs 24 (0, 0)) from hq] at hc
  injection hc with hc
  injection hc with _ hc
  exact absurd hc (by decide)
/-- Behind Insert: what is read, and the end. -/
def MkFin (w v2 : World) (cap : Int) (A1 : Option Addr) (n1 c1 : Nat) (B4 B6 : Nat) (A' : Option Addr) (l' : List Fl) (c' : Nat) : Prop :=
  (v2.cell? ⟨B6, 0, none⟩ = some (.int .i64 cap) ∧ v2.cell? ⟨B6, 1, none⟩ = some (.slice A1 n1 c1) ∧ v2.frozen? ⟨B6, 1, none⟩ = false) ∧
  ((v2.setCell ⟨B6, 1, none⟩ (.slice A' l'.length c')).cell? ⟨B6, 0, none⟩ = some (.int .i64 cap) ∧ (v2.setCell ⟨B6, 1, none⟩ (.slice A' l'.length c')).cell? ⟨B6, 1, none⟩ = some (.slice A' l'.length c')) ∧
  ((v2.setCell ⟨B6, 1, none⟩ (.slice A' l'.length c')).cell? ⟨B4, 0, none⟩ = some (.int .i64 0) ∧ (v2.setCell ⟨B6, 1, none⟩ (.slice A' l'.length c')).cell? ⟨B4, 1, none⟩ = some (.slice none 0 0) ∧ (v2.setCell ⟨B6, 1, none⟩ (.slice A' l'.length c')).frozen? ⟨B4, 0, none⟩ = false ∧ (v2.setCell ⟨B6, 1, none⟩ (.slice A' l'.length c')).frozen? ⟨B4, 1, none⟩ = false) ∧
  BoxC (((v2.setCell ⟨B6, 1, none⟩ (.slice A' l'.length c')).setCell ⟨B4, 0, none⟩ (.int .i64 cap)).setCell ⟨B4, 1, none⟩ (.slice A' l'.length c')) B4 (cellsD cap A' l'.length c') 24 ∧
  CFrom w.heap.size (((v2.setCell ⟨B6, 1, none⟩ (.slice A' l'.length c')).setCell ⟨B4, 0, none⟩ (.int .i64 cap)).setCell ⟨B4, 1, none⟩ (.slice A' l'.length c')) A' l' ∧
  Below w.heap.size w (((v2.setCell ⟨B6, 1, none⟩ (.slice A' l'.length c')).setCell ⟨B4, 0, none⟩ (.int .i64 cap)).setCell ⟨B4, 1, none⟩ (.slice A' l'.length c'))
theorem MkSt.fin {w v v2 : World} {cap : Int} {A : Option Addr} {c : Nat} {l : List Fl} {A1 : Option Addr} {c1 : Nat} {xs : List FX} {B2 B4 B6 base : Nat} (h : MkSt w v cap A c l A1 c1 xs B2 B4 B6 base) {A' : Option Addr} {l' : List Fl} {c' : Nat}
    (hC : ∀ ex cs, BoxC v2 ex cs 24 → CBut base ex v2 A' l') (hB : Below base v v2) (hF : ∀ q, q < v.heap.size → (Value.slice A1 l.length c1).ownBlock ≠ some q → v2.heap[q]? = v.heap[q]?) : MkFin w v2 cap A1 l.length c1 B4 B6 A' l' c' := by
  have k6 : BoxC v2 B6 (cellsD cap A1 l.length c1) 24 := (hF B6 (blk_lt h.b6) (h.ne h.b6)).trans h.b6
  have k4 : BoxC v2 B4 (cellsD 0 none 0 0) 24 := (hF B4 (blk_lt h.b4) (h.ne h.b4)).trans h.b4
  have h4 := h.h4
  have hb := h.hb
  have h6 := h.h6
  have s6 := k6.set 1 (.slice A' l'.length c')
  have s4 := k4.other ⟨B6, 1, none⟩ (.slice A' l'.length c') (by show B4 ≠ B6; omega)
  have hB0 := h.below.trans (hB.mono (by omega))
  refine ⟨⟨k6.c 0 rfl, k6.c 1 rfl, k6.f 1⟩, ⟨s6.c 0 rfl, s6.c 1 rfl⟩, ⟨s4.c 0 rfl, s4.c 1 rfl, s4.f 0, s4.f 1⟩, (s4.set 0 (.int .i64 cap)).set 1 (.slice A' l'.length c'), fun W' hW' => ?_, ((hB0.setCell (p := ⟨B6, 1, none⟩) (by show w.heap.size ≤ B6; omega) _).setCell (p := ⟨B4, 0, none⟩) h4 _).setCell (p := ⟨B4, 1, none⟩) h4 _⟩
  refine hC B6 _ k6 W' (fun q hq hq2 hq3 => (hW' q (by omega) (by simpa using hq2)).trans ?_)
  exact (Below.heap_setCell _ _ _ q (by show q ≠ B4; omega)).trans ((Below.heap_setCell _ _ _ q (by show q ≠ B4; omega)).trans (Below.heap_setCell _ _ _ q (by show q ≠ B6; omega)))

theorem mk_insert {w v : World} {cap : Int} {A : Option Addr} {c : Nat} {l : List Fl} {A1 : Option Addr} {c1 : Nat} {xs : List FX} {B2 B4 B6 base : Nat} (h : MkSt w v cap A c l A1 c1 xs B2 B4 B6 base) (no : Int) (vb : Nat) (hv : BoxC v vb #[.int .i64 no, .slice none 0 0, .int .i64 0] 32) (hvg : (Value.slice A1 l.length c1).ownBlock ≠ some vb) (hl : l.length ≤ 1000) :
    Calls Try.prog 43 #[.slice A1 l.length c1, .int .i64 (placeF no l : Int), .slice (some ⟨vb, 0, none⟩) 1 1] v (fun e v2 => ∃ (A' : Option Addr) (c' : Nat), e = .returned (.slice A' (makeL no l).length c') ∧ (makeL no l).length ≤ c' ∧ MkFin w v2 cap A1 l.length c1 B4 B6 A' (makeL no l) c') := by
  refine (insert_calls v base A1 c1 xs l no vb (placeF no l) h.own h.fl hv hvg hl h.hs (placeF_le no l)).mono ?_
  rintro e v2 ⟨A', c', he, hlc, hC, hB, hF⟩
  exact ⟨A', c', he, hlc, h.fin hC hB hF⟩

set_option maxRecDepth 100000 in
set_option maxHeartbeats 8000000 in
theorem make_calls (cap no : Int) (A : Option Addr) (c : Nat) (l : List Fl) (w : World) (hR : Kd.C kF w A l.length l) (hc : l.length ≤ c) (hl : l.length ≤ 1000) (hs : smallF l) (hu : usedF l ≤ 4611686018427387904) :
    Calls Try.prog 21 #[.agg (cellsD cap A l.length c), .int .i64 no] w (DiskEEnd (makeD ⟨cap, l⟩ no) w) := by
  obtain ⟨w0, hw0⟩ : ∃ w0, (w.alloc (.cells (cellsD cap A l.length c) 24)).alloc (.cells (cellsD 0 none 0 0) 24) = w0 := ⟨_, rfl⟩
  have hb0 : Below w.heap.size w w0 := by rw [← hw0]; exact below_alloc (below_alloc (Below.refl _ _) _) _
  have hz0 : w0.heap.size = w.heap.size + 2 := by rw [← hw0]; simp
  have bD : BoxC w0 w.heap.size (cellsD cap A l.length c) 24 := by rw [← hw0]; exact (BoxC.new w _ _).alloc _
  have bE : BoxC w0 (w.heap.size + 1) (cellsD 0 none 0 0) 24 := by
    rw [← hw0]
    have := BoxC.new (w.alloc (.cells (cellsD cap A l.length c) 24)) (cellsD 0 none 0 0) 24
    rw [World.size_alloc] at this
    exact this
  have d0 := bD.c 0 rfl
  have d1 := bD.c 1 rfl
  have HW0 := Lib.hid hw0
  have HR := Lib.hid (Kd.C_below hR hb0)
  have HS := Lib.hid hs
  have BD := Lib.hid bD
  have BE := Lib.hid bE
  have HB0 := Lib.hid hb0
  have HZ0 := Lib.hid hz0
  clear hR hs bD bE hb0 hz0
  go_enter Try.func21, Try.ntmps21
  go_wp2_with (fail)
  refine (own_calls cap A c l w0 HR.out hc (by omega) HS.out).mono ?_
  rintro e w1 ⟨A1, c1, xs, rfl, hH, hb1⟩
  have hba := below_alloc (Below.refl w1.heap.size w1) (.cells (cellsD cap A1 l.length c1) 24)
  have hst : MkSt w (w1.alloc (.cells (cellsD cap A1 l.length c1) 24)) cap A c l A1 c1 xs w.heap.size (w.heap.size + 1) w1.heap.size w0.heap.size :=
    ⟨(HB0.out.trans (hb1.mono HB0.out.size)).trans (hba.mono (Nat.le_trans HB0.out.size hb1.size)), (BD.out.below hb1).alloc _, (BE.out.below hb1).alloc _, BoxC.new w1 _ _, hH.own.moved (fun q _ hq => hba.block q hq), hH.1, Kd.C_below (Kd.C_below HR.out hb1) hba, by omega, by rw [HZ0.out]; omega, hb1.size, Nat.le_trans hb1.size hba.size⟩
  have x0 := hst.b2.c 0 rfl
  have x1 := hst.b2.c 1 rfl
  have HST := Lib.hid hst
  clear hH hb1 hba hst d0 d1
  go_wp2_with (fail)
  refine (may_calls cap A c l _ HST.out.read hc hu).mono ?_
  rintro e w3 ⟨rfl, hb3⟩
  have hst := HST.out.step hb3
  clear HST x0 x1 hb3
  have x0 := hst.b2.c 0 rfl
  have x1 := hst.b2.c 1 rfl
  have o0 := hst.b6.c 0 rfl
  have o1 := hst.b6.c 1 rfl
  have f0 := hst.b4.c 0 rfl
  have f1 := hst.b4.c 1 rfl
  have ff0 := hst.b4.f 0
  have ff1 := hst.b4.f 1
  have HP := Lib.hid hst.put
  have HST := Lib.hid hst
  clear hst
  by_cases hm : ¬ mayD ⟨cap, l⟩ ∨ no < 1 ∨ no > 1073741824
  · have HRS := Lib.hid (make_no hm)
    have hgo : decide (mayD ⟨cap, l⟩) = false ∨ (decide (mayD ⟨cap, l⟩) = true ∧ no < 1) ∨ (decide (mayD ⟨cap, l⟩) = true ∧ ¬ no < 1 ∧ 1073741824 < no) := by
      by_cases h1 : mayD ⟨cap, l⟩
      · by_cases h2 : no < 1
        · exact .inr (.inl ⟨decide_eq_true h1, h2⟩)
        · refine .inr (.inr ⟨decide_eq_true h1, h2, ?_⟩)
          rcases hm with h | h | h
          · exact absurd h1 h
          · exact absurd h h2
          · exact h
      · exact .inl (decide_eq_false h1)
    clear hm
    rcases hgo with h | ⟨h, h2⟩ | ⟨h, h2, h3⟩
    all_goals
      rw [h]
      clear h
      go_wp2_with (fail)
      refine bodyPost_ret (results_DE (fn := Try.f21) (p := 4) (t := 5) rfl _ _ (w.heap.size + 1) cap (.slice A1 l.length c1) rfl HP.out.1) rfl ?_
      rw [HRS.out]
      exact ⟨A1, c1, rfl, HP.out.2.1, HP.out.2.2.1, HP.out.2.2.2⟩
  · have HM := Lib.hid hm
    have h1 : mayD ⟨cap, l⟩ := Classical.not_not.1 (fun e => hm (.inl e))
    have h2 : ¬ no < 1 := fun e => hm (.inr (.inl e))
    have h3 : ¬ 1073741824 < no := fun e => hm (.inr (.inr e))
    rw [decide_eq_true h1]
    have HM1 := Lib.hid h1
    clear hm h1
    go_wp2_with (fail)
    refine (find_calls cap no A c l w3 HST.out.read hc hu).mono ?_
    rintro e w4 ⟨rfl, hb4⟩
    have hst := HST.out.step hb4
    clear HST x0 x1 o0 o1 f0 f1 ff0 ff1 HP hb4
    have x0 := hst.b2.c 0 rfl
    have x1 := hst.b2.c 1 rfl
    have o0 := hst.b6.c 0 rfl
    have o1 := hst.b6.c 1 rfl
    have f0 := hst.b4.c 0 rfl
    have f1 := hst.b4.c 1 rfl
    have ff0 := hst.b4.f 0
    have ff1 := hst.b4.f 1
    have HP := Lib.hid hst.put
    have HST := Lib.hid hst
    clear hst
    by_cases hf : findD ⟨cap, l⟩ no ≠ -1
    · have HRS := Lib.hid (make_there HM.out hf)
      generalize findD ⟨cap, l⟩ no = fd at *
      have hfb : (fd != -1) = true := by simpa using hf
      clear hf
      go_wp2_with (fail)
      refine bodyPost_ret (results_DE (fn := Try.f21) (p := 4) (t := 5) rfl _ _ (w.heap.size + 1) cap (.slice A1 l.length c1) rfl HP.out.1) rfl ?_
      rw [HRS.out]
      exact ⟨A1, c1, rfl, HP.out.2.1, HP.out.2.2.1, HP.out.2.2.2⟩
    · by_cases h12 : l.length = 12
      · have HRS := Lib.hid (make_full HM.out hf h12)
        have h12i : ((l.length : Int) == 12) = true := by rw [beq_iff_eq]; omega
        rw [Classical.not_not.1 hf]
        clear hf h12
        go_wp2_with (fail)
        refine bodyPost_ret (results_DE (fn := Try.f21) (p := 4) (t := 5) rfl _ _ (w.heap.size + 1) cap (.slice A1 l.length c1) rfl HP.out.1) rfl ?_
        rw [HRS.out]
        exact ⟨A1, c1, rfl, HP.out.2.1, HP.out.2.2.1, HP.out.2.2.2⟩
      · have HRS := Lib.hid (make_ok HM.out hf h12).1
        have h12i : ¬ (l.length : Int) = 12 := by omega
        rw [Classical.not_not.1 hf]
        clear hf h12
        have HRIS := Lib.hid (show risF 0 l from HM1.out.1)
        have HPL := Lib.hid (placeF_le no l)
        have SD := Lib.hid (HST.out.step (Below.refl _ w4).drew)
        have SA := Lib.hid (HST.out.step (below_alloc (Below.refl _ w4).drew (.cells #[.int .i64 no, .slice none 0 0, .int .i64 0] 32)))
        have xd0 := SD.out.b2.c 0 rfl
        have xd1 := SD.out.b2.c 1 rfl
        have od1 := SD.out.b6.c 1 rfl
        have xa0 := SA.out.b2.c 0 rfl
        have xa1 := SA.out.b2.c 1 rfl
        have oa1 := SA.out.b6.c 1 rfl
        have SB := Lib.hid (HST.out.step (below_alloc (Below.refl _ w4) (.cells #[.int .i64 no, .slice none 0 0, .int .i64 0] 32)))
        have xb0 := SB.out.b2.c 0 rfl
        have xb1 := SB.out.b2.c 1 rfl
        have ob1 := SB.out.b6.c 1 rfl
        have SC := Lib.hid (SB.out.step (Below.refl _ _).drew)
        have xc0 := SC.out.b2.c 0 rfl
        have xc1 := SC.out.b2.c 1 rfl
        have oc1 := SC.out.b6.c 1 rfl
        go_wp2_with (fail)
        go_region_with (first
          | (go_at_call 37; refine (place_calls cap no A c l w4.drew SD.out.read hc (by omega) HRIS.out).mono ?_; rintro e v1 ⟨rfl, hq1⟩; have S1 := Lib.hid (SD.out.step hq1); have SA1 := Lib.hid (S1.out.step (below_alloc (Below.refl _ v1) (.cells #[.int .i64 no, .slice none 0 0, .int .i64 0] 32))); have ov1 := S1.out.b6.c 1 rfl; have ov2 := SA1.out.b6.c 1 rfl; clear hq1)
          | (go_at_call 37; refine (place_calls cap no A c l (w4.drew.alloc (.cells #[.int .i64 no, .slice none 0 0, .int .i64 0] 32)) SA.out.read hc (by omega) HRIS.out).mono ?_; rintro e v1 ⟨rfl, hq1⟩; have S2 := Lib.hid (SA.out.step hq1); have HVB := Lib.hid ((BoxC.new w4.drew #[.int .i64 no, .slice none 0 0, .int .i64 0] 32).below hq1); have ov1 := S2.out.b6.c 1 rfl; clear hq1)
          | (go_at_call 43; have hov := own_lt S1.out.own.2.1; refine (mk_insert SA1.out no v1.heap.size (BoxC.new v1 _ _) (fun e => Nat.lt_irrefl _ (hov _ e)) hl).mono ?_; rintro e v2 ⟨A', c', rfl, hlc, hF⟩; have FIN := Lib.hid hF; have HLC := Lib.hid hlc; have q0 := FIN.out.1.1; have q1 := FIN.out.1.2.1; have q2 := FIN.out.1.2.2; clear hlc hF)
          | (go_at_call 43; have hov := own_lt SD.out.own.2.1; refine (mk_insert S2.out no w4.heap.size HVB.out (fun e => Nat.lt_irrefl _ (hov _ e)) hl).mono ?_; rintro e v2 ⟨A', c', rfl, hlc, hF⟩; have FIN := Lib.hid hF; have HLC := Lib.hid hlc; have q0 := FIN.out.1.1; have q1 := FIN.out.1.2.1; have q2 := FIN.out.1.2.2; clear hlc hF))
        all_goals
          have r0 := FIN.out.2.1.1
          have r1 := FIN.out.2.1.2
          have r2 := FIN.out.2.2.1.1
          have r3 := FIN.out.2.2.1.2.1
          have r4 := FIN.out.2.2.1.2.2.1
          have r5 := FIN.out.2.2.1.2.2.2
          clear q0 q1 q2 x0 x1 xd0 xd1 od1 xa0 xa1 oa1 xb0 xb1 ob1 xc0 xc1 oc1
          go_wp2_with (fail)
          refine bodyPost_ret (results_DE (fn := Try.f21) (p := 4) (t := 5) rfl _ _ (w.heap.size + 1) cap (.slice A' (makeL no l).length c') rfl FIN.out.2.2.2.1) rfl ?_
          rw [HRS.out]
          exact ⟨A', c', rfl, HLC.out, FIN.out.2.2.2.2.1, FIN.out.2.2.2.2.2⟩
end Go.Proofs.Ytahiigcofgnncaa.H
