import Derived.Test.YtahiigcofgnncaaDiskG
import Derived.Test.YtahiigcofgnncaaDiskEnd
/-! Layer 6: at, walked. -/
namespace Go.Proofs.Ytahiigcofgnncaa.H
open Go.RowKit Moor Go.Proofs.YtahiigcofgnncaaW.PrintWords Go.Proofs.YtahiigcofgnncaaW.PrintLast Go.Proofs.YtahiigcofgnncaaW.PrintMore
set_option linter.unusedVariables false
set_option linter.unusedSimpArgs false

/-- What a closure that is handed to at does to a disk of one's own. -/
def DoOk (g : FuncId) (lb : Array Value) (cap : Int) (l : List Fl) (i : Nat) (res : List Fl × Int) (wq : World) : Prop :=
  ∀ (W : World) (B base : Nat) (A1 : Option Addr) (c1 : Nat) (xs : List FX), Below wq.heap.size wq W → wq.heap.size ≤ base → base ≤ B → BoxC W B (cellsD cap A1 l.length c1) 24 → OwnF W base (.slice A1 l.length c1) l.length xs → xs.map flX = l →
    Calls Try.prog g (#[.pointer (some ⟨B, 0, none⟩), .int .i64 (i : Int)] ++ lb) W fun e w' => e = .returned (.int .i64 res.2) ∧ Below base W w' ∧ (res.2 = 0 → ∃ (A' : Option Addr) (c' : Nat), BoxC w' B (cellsD cap A' res.1.length c') 24 ∧ res.1.length ≤ c' ∧ CFrom base w' A' res.1)
def atR (cap : Int) (l : List Fl) (no : Int) (g : Nat → List Fl × Int) : Dk × Int :=
  if mayD ⟨cap, l⟩ then match idxF no l with
    | some i => if (g i).2 = 0 then (⟨cap, (g i).1⟩, 0) else (⟨cap, l⟩, (g i).2)
    | none => (⟨cap, l⟩, 5) else (⟨cap, l⟩, 1)
theorem findD_idx {cap : Int} {l : List Fl} {no : Int} (h : mayD ⟨cap, l⟩) : findD ⟨cap, l⟩ no = match idxF no l with
    | some i => (i : Int)
    | none => -1 := by unfold findD; rw [if_pos h]; rfl
set_option maxRecDepth 100000 in
set_option maxHeartbeats 16000000 in
theorem at_calls (cap no : Int) (A : Option Addr) (c : Nat) (l : List Fl) (g : FuncId) (lb : Array Value) (res : Nat → List Fl × Int) (w : World) (hR : Kd.C kF w A l.length l) (hc : l.length ≤ c) (hl : l.length ≤ 1000000) (hs : smallF l) (hu : usedF l ≤ 4611686018427387904)
    (hdo : ∀ i, mayD ⟨cap, l⟩ → idxF no l = some i → DoOk g lb cap l i (res i) w) (eg : ∀ args w, (callFunc g args).run Try.prog w = .ok (.enter g args) w) :
    Calls Try.prog 38 #[.agg (cellsD cap A l.length c), .int .i64 no, .func (.func g) #[] lb] w (DiskEEnd (atR cap l no res) w) := by
  obtain ⟨w0, hw0⟩ : ∃ w0, (w.alloc (.cells (cellsD cap A l.length c) 24)).alloc (.cells (cellsD 0 none 0 0) 24) = w0 := ⟨_, rfl⟩
  have hb0 : Below w.heap.size w w0 := by rw [← hw0]; exact below_alloc (below_alloc (Below.refl _ _) _) _
  have hz0 : w0.heap.size = w.heap.size + 2 := by rw [← hw0]; simp
  have bD : BoxC w0 w.heap.size (cellsD cap A l.length c) 24 := by rw [← hw0]; exact (BoxC.new w _ _).alloc _
  have bE : BoxC w0 (w.heap.size + 1) (cellsD 0 none 0 0) 24 := by
    rw [← hw0]
    have := BoxC.new (w.alloc (.cells (cellsD cap A l.length c) 24)) (cellsD 0 none 0 0) 24
    rw [World.size_alloc] at this
    exact this
  have d0 := bD.c 0 rfl
  have d1 := bD.c 1 rfl
  have HW0 := Lib.hid hw0
  have HR := Lib.hid (Kd.C_below hR hb0)
  have HR00 := Lib.hid hR
  have HS := Lib.hid hs
  have BD := Lib.hid bD
  have BE := Lib.hid bE
  have HZ0 := Lib.hid hz0
  have HDO := Lib.hid hdo
  clear hR hs bD bE hz0 hdo
  go_enter Try.func38, Try.ntmps38
  go_wp2_with (fail)
  refine (may_calls cap A c l w0 HR.out hc hu).mono ?_
  rintro e w1 ⟨rfl, hb1⟩
  have hB1 := hb0.trans (hb1.mono hb0.size)
  have bD1 := BD.out.below hb1
  have bE1 := BE.out.below hb1
  have e0 := bD1.c 0 rfl
  have e1 := bD1.c 1 rfl
  have HR1 := Lib.hid (Kd.C_below HR.out hb1)
  have BD1 := Lib.hid bD1
  have BE1 := Lib.hid bE1
  have hz1 : w.heap.size + 2 ≤ w1.heap.size := by have := HZ0.out; have := hb1.size; omega
  clear bD1 bE1 d0 d1
  by_cases hm : mayD ⟨cap, l⟩
  · rw [decide_eq_true hm]
    have hfd := findD_idx (no := no) hm
    have HM := Lib.hid hm
    have HRES : Hid (atR cap l no res = match idxF no l with
      | some i => if (res i).2 = 0 then (⟨cap, (res i).1⟩, 0) else (⟨cap, l⟩, (res i).2)
      | none => (⟨cap, l⟩, 5)) := Lib.hid (by unfold atR; rw [if_pos hm])
    clear hm hb1
    go_wp2_with (fail)
    have q := find_calls cap no A c l w1 HR1.out hc hu
    rw [hfd] at q
    clear hfd
    cases hi : idxF no l with
    | none =>
      rw [hi] at q HRES
      dsimp only at q HRES
      refine q.mono ?_
      clear q hi
      rintro e w2 ⟨rfl, hb2⟩
      have hB2 := hB1.trans (hb2.mono hB1.size)
      have e0 := (BD1.out.below hb2).c 0 rfl
      have e1 := (BD1.out.below hb2).c 1 rfl
      have HR2 := Lib.hid (Kd.C_below HR1.out hb2)
      have BE2 := Lib.hid (BE1.out.below hb2)
      have hz2 : w.heap.size + 2 ≤ w2.heap.size := Nat.le_trans hz1 hb2.size
      clear hb2
      go_wp2_with (fail)
      refine (own_calls cap A c l w2 HR2.out hc hl HS.out).mono ?_
      rintro e w3 ⟨A1, c1, xs, rfl, hH, hb9⟩
      have hBz := hB2.trans (hb9.mono hB2.size)
      have bE9 := BE2.out.below hb9
      have f0 := bE9.c 0 rfl
      have f1 := bE9.c 1 rfl
      have ff0 := bE9.f 0
      have ff1 := bE9.f 1
      have pr := put_result (cap := cap) hBz (by omega) (by omega) bE9 hH.own hH.1
      have PR := Lib.hid pr
      clear hH hb9 bE9 pr
      go_wp2_with (fail)
      refine bodyPost_ret (results_DE (fn := Try.f38) (p := 6) (t := 7) rfl _ _ (w.heap.size + 1) cap (.slice A1 l.length c1) rfl PR.out.1) rfl ?_
      rw [HRES.out]
      exact ⟨A1, c1, rfl, PR.out.2.1, PR.out.2.2.1, PR.out.2.2.2⟩
    | some i =>
      rw [hi] at q HRES
      dsimp only at q HRES
      have HDI := Lib.hid (HDO.out i HM.out hi)
      refine q.mono ?_
      clear q hi
      rintro e w2 ⟨rfl, hb2⟩
      have hB2 := hB1.trans (hb2.mono hB1.size)
      have e0 := (BD1.out.below hb2).c 0 rfl
      have e1 := (BD1.out.below hb2).c 1 rfl
      have HR2 := Lib.hid (Kd.C_below HR1.out hb2)
      have BE2 := Lib.hid (BE1.out.below hb2)
      have BD2 := Lib.hid (BD1.out.below hb2)
      have hz2 : w.heap.size + 2 ≤ w2.heap.size := Nat.le_trans hz1 hb2.size
      have hin : ((i : Int) == -1) = false := by rw [beq_eq_false_iff_ne]; omega
      clear hb2
      go_wp2_with (fail)
      refine (own_calls cap A c l w2 HR2.out hc hl HS.out).mono ?_
      rintro e w3 ⟨A1, c1, xs, rfl, hH, hb3⟩
      have hba := below_alloc (Below.refl w3.heap.size w3) (.cells (cellsD cap A1 l.length c1) 24)
      have hb4 := hb3.trans (hba.mono hb3.size)
      have hB4 := hB2.trans (hb4.mono hB2.size)
      have hq := HDI.out (w3.alloc (.cells (cellsD cap A1 l.length c1) 24)) w3.heap.size w2.heap.size A1 c1 xs hB4 (by omega) hb3.size (BoxC.new w3 _ _) (hH.own.moved (fun q _ hq => hba.block q hq)) hH.1
      have HQ := Lib.hid hq
      have hz3 : w2.heap.size ≤ w3.heap.size := hb3.size
      have HB4 := Lib.hid hb4
      clear hH hb3 hba hq hb4 e0 e1
      go_wp2_with (fail)
      refine HQ.out.mono ?_
      rintro e w4 ⟨rfl, hbl, hok⟩
      have hB5 := hB4.trans (hbl.mono (by omega))
      have bD5 := (hbl.block w.heap.size (by omega)).trans (BD2.out.below HB4.out)
      have bE5 := (hbl.block (w.heap.size + 1) (by omega)).trans (BE2.out.below HB4.out)
      have BE5 := Lib.hid (show BoxC w4 (w.heap.size + 1) _ _ from bE5)
      have e0 := BoxC.c (show BoxC w4 w.heap.size _ _ from bD5) 0 rfl
      have e1 := BoxC.c (show BoxC w4 w.heap.size _ _ from bD5) 1 rfl
      have HR5 := Lib.hid (Kd.C_below HR00.out hB5)
      have hz5 : w.heap.size + 2 ≤ w4.heap.size := by have := hbl.size; have := HB4.out.size; omega
      clear hbl bD5 bE5 HQ
      generalize res i = r at *
      obtain ⟨m, er⟩ := r
      dsimp only at hok HRES ⊢
      by_cases her : er = 0
      · subst her
        obtain ⟨A', c', hO, hmc, hF⟩ := hok rfl
        have o0 := hO.c 0 rfl
        have o1 := hO.c 1 rfl
        have f0 := BE5.out.c 0 rfl
        have f1 := BE5.out.c 1 rfl
        have ff0 := BE5.out.f 0
        have ff1 := BE5.out.f 1
        have hEE := (BE5.out.set 0 (.int .i64 cap)).set 1 (.slice A' m.length c')
        have hBE := (hB5.setCell (p := ⟨w.heap.size + 1, 0, none⟩) (by show w.heap.size ≤ w.heap.size + 1; omega) (.int .i64 cap)).setCell (p := ⟨w.heap.size + 1, 1, none⟩) (by show w.heap.size ≤ w.heap.size + 1; omega) (.slice A' m.length c')
        have HEE := Lib.hid hEE
        have HCC := Lib.hid (show CFrom w.heap.size ((w4.setCell ⟨w.heap.size + 1, 0, none⟩ (.int .i64 cap)).setCell ⟨w.heap.size + 1, 1, none⟩ (.slice A' m.length c')) A' m from fun W'' hW'' => hF W'' (fun q hq hq2 => (hW'' q (by omega) (by simpa using hq2)).trans ((Below.heap_setCell _ _ _ q (by show q ≠ w.heap.size + 1; omega)).trans (Below.heap_setCell _ _ _ q (by show q ≠ w.heap.size + 1; omega)))))
        have hres : atR cap l no res = (⟨cap, m⟩, 0) := by rw [HRES.out, if_pos rfl]
        have HRS := Lib.hid hres
        clear hO hF hok hEE hres HRES
        go_wp2_with (fail)
        refine bodyPost_ret (results_DE (fn := Try.f38) (p := 6) (t := 7) rfl _ _ (w.heap.size + 1) cap (.slice A' m.length c') rfl HEE.out) rfl ?_
        rw [HRS.out]
        exact ⟨A', c', rfl, hmc, HCC.out, hBE⟩
      · have hne : (er != 0) = true := by simpa using her
        have hres : atR cap l no res = (⟨cap, l⟩, er) := by rw [HRES.out, if_neg her]
        have HRS := Lib.hid hres
        clear hok hres HRES her
        go_wp2_with (fail)
        refine (own_calls cap A c l w4 HR5.out hc hl HS.out).mono ?_
        rintro e w5 ⟨A1, c1, xs, rfl, hH, hb9⟩
        have hBz := hB5.trans (hb9.mono hB5.size)
        have bE9 := BE5.out.below hb9
        have f0 := bE9.c 0 rfl
        have f1 := bE9.c 1 rfl
        have ff0 := bE9.f 0
        have ff1 := bE9.f 1
        have pr := put_result (cap := cap) hBz (by omega) (by omega) bE9 hH.own hH.1
        have PR := Lib.hid pr
        clear hH hb9 bE9 pr
        go_wp2_with (fail)
        refine bodyPost_ret (results_DE (fn := Try.f38) (p := 6) (t := 7) rfl _ _ (w.heap.size + 1) cap (.slice A1 l.length c1) rfl PR.out.1) rfl ?_
        rw [HRS.out]
        exact ⟨A1, c1, rfl, PR.out.2.1, PR.out.2.2.1, PR.out.2.2.2⟩
  · rw [decide_eq_false hm]
    have hres : atR cap l no res = (⟨cap, l⟩, 1) := by unfold atR; rw [if_neg hm]
    have HRS := Lib.hid hres
    clear hm hres hb1
    go_wp2_with (fail)
    refine (own_calls cap A c l w1 HR1.out hc hl HS.out).mono ?_
    rintro e w2 ⟨A1, c1, xs, rfl, hH, hb9⟩
    have hBz := hB1.trans (hb9.mono hB1.size)
    have bE9 := BE1.out.below hb9
    have f0 := bE9.c 0 rfl
    have f1 := bE9.c 1 rfl
    have ff0 := bE9.f 0
    have ff1 := bE9.f 1
    have pr := put_result (cap := cap) hBz (by omega) (by omega) bE9 hH.own hH.1
    have PR := Lib.hid pr
    clear hH hb9 bE9 pr
    go_wp2_with (fail)
    refine bodyPost_ret (results_DE (fn := Try.f38) (p := 6) (t := 7) rfl _ _ (w.heap.size + 1) cap (.slice A1 l.length c1) rfl PR.out.1) rfl ?_
    rw [HRS.out]
    exact ⟨A1, c1, rfl, PR.out.2.1, PR.out.2.2.1, PR.out.2.2.2⟩
end Go.Proofs.Ytahiigcofgnncaa.H
