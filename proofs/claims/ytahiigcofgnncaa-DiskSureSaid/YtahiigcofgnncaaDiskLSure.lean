import Derived.Test.YtahiigcofgnncaaDiskOp
import Derived.Test.YtahiigcofgnncaaDiskZ
import Derived.OpenShut
import Derived.Deep.RegionHeldLaw
import Derived.Deep.RegionHeld3
/-! The law DiskSure, walked. -/
namespace Go.Proofs.Ytahiigcofgnncaa.H
open Go.RowKit Moor Go.Proofs.YtahiigcofgnncaaW.PrintWords Go.Proofs.YtahiigcofgnncaaW.PrintLast Go.Proofs.YtahiigcofgnncaaW.PrintMore
set_option linter.unusedVariables false
set_option linter.unusedSimpArgs false

set_option maxRecDepth 100000 in
set_option maxHeartbeats 16000000 in
theorem diskSure_walk (a0 : Int) (A0 : Option Addr) (c0 : Nat) (l0 : List Fl) (k1 n1 m1 : Int) (A1 : Option Addr) (c1 : Nat) (l1 : List Int) (P1 : Option Addr) (q1 : Nat) (p1 : List Int) (a2 : Int) (w : World) (hr0 : Kd.C kF w A0 l0.length l0) (hc0 : l0.length ≤ c0) (ho0 : ∀ f ∈ l0, okB f.data) (hr1 : Kd.C kB w A1 l1.length l1) (hc1 : l1.length ≤ c1) (ho1 : okB l1) (hr1p : Kd.C (Kd.int .i64) w P1 p1.length p1) (hc1p : p1.length ≤ q1) (hw2 : (Lit.int .i64 a2).wf = true) :
    Calls Try.prog 8 #[.agg (cellsD a0 A0 l0.length c0), .agg (cellsO k1 n1 m1 A1 l1.length c1 P1 p1.length q1), .int .i64 a2] w fun e w' => e = .returned (.bool true) ∧ Below w.heap.size w w' := by
  obtain ⟨w0, hw0⟩ : ∃ w0, (w.alloc (.cells (cellsD a0 A0 l0.length c0) 24)).alloc (.cells (cellsO k1 n1 m1 A1 l1.length c1 P1 p1.length q1) 45) = w0 := ⟨_, rfl⟩
  have hB : Below w.heap.size w w0 := by rw [← hw0]; exact below_alloc (below_alloc (Below.refl _ _) _) _
  have bx : BoxC w0 w.heap.size (cellsD a0 A0 l0.length c0) 24 := by rw [← hw0]; exact (BoxC.new w _ _).alloc _
  have by_ : BoxC w0 (w.heap.size + 1) (cellsO k1 n1 m1 A1 l1.length c1 P1 p1.length q1) 45 := by
    rw [← hw0]
    have h9 := BoxC.new (w.alloc (.cells (cellsD a0 A0 l0.length c0) 24)) (cellsO k1 n1 m1 A1 l1.length c1 P1 p1.length q1) 45
    rw [World.size_alloc] at h9
    exact h9
  have HR0 := Lib.hid hr0
  have HR1 := Lib.hid hr1
  have HR1P := Lib.hid hr1p
  have HO0 := Lib.hid ho0
  have HW0 := Lib.hid hw0
  clear hr0 hr1 hr1p ho0 ho1
  go_enter Try.func8, Try.ntmps8
  go_wp2_with (fail)
  refine (awake_true _).mono ?_
  rintro e w1 ⟨rfl, hb1⟩
  replace hB := hB.trans (hb1.mono hB.size)
  replace bx := bx.below hb1
  replace by_ := by_.below hb1
  clear hb1
  try clear x0 x1
  have x0 := bx.c 0 rfl
  have x1 := bx.c 1 rfl
  try clear y0 y1 y2 y3 y4
  have y0 := by_.c 0 rfl
  have y1 := by_.c 1 rfl
  have y2 := by_.c 2 rfl
  have y3 := by_.c 3 rfl
  have y4 := by_.c 4 rfl
  go_wp2_with (fail)
  refine (few_calls a0 A0 c0 l0 w1 (Kd.C_below HR0.out hB) hc0).mono ?_
  rintro e w2 ⟨rfl, hb2⟩
  replace hB := hB.trans (hb2.mono hB.size)
  replace bx := bx.below hb2
  replace by_ := by_.below hb2
  clear hb2
  try clear x0 x1
  have x0 := bx.c 0 rfl
  have x1 := bx.c 1 rfl
  try clear y0 y1 y2 y3 y4
  have y0 := by_.c 0 rfl
  have y1 := by_.c 1 rfl
  have y2 := by_.c 2 rfl
  have y3 := by_.c 3 rfl
  have y4 := by_.c 4 rfl
  by_cases hf : fewF l0
  · rw [decide_eq_true hf]
    have hsm : smallF l0 := fun f hf' => by have := hf.1 f hf'; omega
    have hus := fewF_used hf.1
    have hl14 : l0.length ≤ 14 := hf.2
    have HSM := Lib.hid hsm
    have hu : usedF l0 ≤ 42000 := by omega
    have HU := Lib.hid hu
    clear hf hsm hus hu
    go_wp2_with (fail)
    refine (small_calls k1 n1 m1 A1 l1.length c1 P1 p1.length q1 w2).mono ?_
    rintro e w3 ⟨rfl, hb3⟩
    replace hB := hB.trans (hb3.mono hB.size)
    replace bx := bx.below hb3
    replace by_ := by_.below hb3
    clear hb3
    try clear x0 x1
    have x0 := bx.c 0 rfl
    have x1 := bx.c 1 rfl
    try clear y0 y1 y2 y3 y4
    have y0 := by_.c 0 rfl
    have y1 := by_.c 1 rfl
    have y2 := by_.c 2 rfl
    have y3 := by_.c 3 rfl
    have y4 := by_.c 4 rfl
    by_cases hz : l1.length ≤ 3000 ∧ p1.length ≤ 60
    · rw [decide_eq_true hz]
      go_wp2_with (fail)
      refine (may_calls a0 A0 c0 l0 w3 (Kd.C_below HR0.out hB) hc0 (by have := HU.out; omega)).mono ?_
      rintro e w4 ⟨rfl, hb4⟩
      replace hB := hB.trans (hb4.mono hB.size)
      replace bx := bx.below hb4
      replace by_ := by_.below hb4
      clear hb4
      try clear x0 x1
      have x0 := bx.c 0 rfl
      have x1 := bx.c 1 rfl
      try clear y0 y1 y2 y3 y4
      have y0 := by_.c 0 rfl
      have y1 := by_.c 1 rfl
      have y2 := by_.c 2 rfl
      have y3 := by_.c 3 rfl
      have y4 := by_.c 4 rfl
      by_cases hm : mayD ⟨a0, l0⟩
      · rw [decide_eq_true hm]
        have HM := Lib.hid hm
        clear hm
        go_wp2_with (fail)
        refine (find_calls a0 a2 A0 c0 l0 w4 (Kd.C_below HR0.out hB) hc0 (by have := HU.out; omega)).mono ?_
        rintro e w5 ⟨rfl, hb5⟩
        replace hB := hB.trans (hb5.mono hB.size)
        replace bx := bx.below hb5
        replace by_ := by_.below hb5
        clear hb5
        try clear x0 x1
        have x0 := bx.c 0 rfl
        have x1 := bx.c 1 rfl
        try clear y0 y1 y2 y3 y4
        have y0 := by_.c 0 rfl
        have y1 := by_.c 1 rfl
        have y2 := by_.c 2 rfl
        have y3 := by_.c 3 rfl
        have y4 := by_.c 4 rfl
        have q := do_calls a0 A0 c0 l0 k1 n1 m1 A1 c1 l1 P1 q1 p1 w5 (Kd.C_below HR0.out hB) hc0 (by omega) HSM.out (by have := HU.out; omega) HO0.out (Kd.C_below HR1.out hB) hc1 (by omega) (Kd.C_below HR1P.out hB) hc1p
        have Q := Lib.hid q
        clear q
        have HLAW := Lib.hid (fun h1 h2 => sure_law HM.out ⟨k1, n1, m1, l1, p1⟩ a2 h1 h2)
        have HMD := Lib.hid (may_do HM.out ⟨k1, n1, m1, l1, p1⟩)
        dsimp only at HLAW HMD
        generalize doD ⟨a0, l0⟩ ⟨k1, n1, m1, l1, p1⟩ = r at *
        obtain ⟨⟨cp, m⟩, er⟩ := r
        dsimp only at HLAW HMD
        have hum : usedF m ≤ 70000 := by have := (may_small HMD.out).1; dsimp only at this; omega
        have HUM := Lib.hid hum
        have HFD := Lib.hid (rfl : findD ⟨a0, l0⟩ a2 = findD ⟨a0, l0⟩ a2)
        generalize hfd : findD ⟨a0, l0⟩ a2 = fd at *
        have HFD := Lib.hid hfd
        clear hum hfd
        go_wp2_with (fail)
        refine Q.out.mono ?_
        rintro e w6 ⟨A5, c5, rfl, hc5, hF5, hb6⟩
        dsimp only at hc5 hF5 ⊢
        obtain ⟨w7, hw7⟩ : ∃ w7, w6.alloc (.cells (cellsD cp A5 m.length c5) 24) = w7 := ⟨_, rfl⟩
        have hba : Below w6.heap.size w6 w7 := by rw [← hw7]; exact below_alloc (Below.refl _ _) _
        have bz : BoxC w7 w6.heap.size (cellsD cp A5 m.length c5) 24 := by rw [← hw7]; exact BoxC.new _ _ _
        have hC5 := (hF5.below hba).now
        have hb := hb6.trans (hba.mono hb6.size)
        replace hB := hB.trans (hb.mono hB.size)
        replace bx := bx.below hb
        replace by_ := by_.below hb
        clear hF5 hb6 hba hb Q
        try clear x0 x1
        have x0 := bx.c 0 rfl
        have x1 := bx.c 1 rfl
        try clear y0 y1 y2 y3 y4
        have y0 := by_.c 0 rfl
        have y1 := by_.c 1 rfl
        have y2 := by_.c 2 rfl
        have y3 := by_.c 3 rfl
        have y4 := by_.c 4 rfl
        try clear bz0 bz1
        have bz0 := bz.c 0 rfl
        have bz1 := bz.c 1 rfl
        go_wp2_with (fail)
        refine (find_calls cp a2 A5 c5 m w7 hC5 hc5 (by have := HUM.out; omega)).mono ?_
        rintro e w8 ⟨rfl, hb8⟩
        replace hC5 := Kd.C_below hC5 hb8
        replace hB := hB.trans (hb8.mono hB.size)
        replace bx := bx.below hb8
        replace by_ := by_.below hb8
        replace bz := bz.below hb8
        clear hb8
        try clear x0 x1
        have x0 := bx.c 0 rfl
        have x1 := bx.c 1 rfl
        try clear y0 y1 y2 y3 y4
        have y0 := by_.c 0 rfl
        have y1 := by_.c 1 rfl
        have y2 := by_.c 2 rfl
        have y3 := by_.c 3 rfl
        have y4 := by_.c 4 rfl
        try clear bz0 bz1
        have bz0 := bz.c 0 rfl
        have bz1 := bz.c 1 rfl
        generalize hfk : findD ⟨cp, m⟩ a2 = fk at *
        have HFK := Lib.hid hfk
        clear hfk
        by_cases h1 : fd < 0
        · skip
          go_wp2_with (fail)
          go_ret
          exact ⟨rfl, hB⟩
        · by_cases h2 : (l0.length : Int) ≤ fd
          · skip
            go_wp2_with (fail)
            go_ret
            exact ⟨rfl, hB⟩
          · by_cases h3 : n1 = a2 ∧ (k1 = 3 ∨ k1 = 4)
            · obtain ⟨rfl, rfl | rfl⟩ := h3
              · skip
                go_wp2_with (fail)
                go_ret
                exact ⟨rfl, hB⟩
              · skip
                go_wp2_with (fail)
                go_ret
                exact ⟨rfl, hB⟩
            · obtain ⟨i, k, f, g, e1, hf, e2, hg, s0, s1, hs⟩ := HLAW.out (by omega) h3
              obtain rfl : fd = (i : Int) := by omega
              obtain rfl : fk = (k : Int) := by have := HFK.out; omega
              clear HLAW e1 e2 HFD HFK
              obtain ⟨hil, hfi⟩ := List.getElem?_eq_some_iff.1 hf
              obtain ⟨hkl, hgk⟩ := List.getElem?_eq_some_iff.1 hg
              obtain ⟨ad, Af, cf, rfl, u0, u1, u2, hcf, hCf⟩ := file_at (Kd.C_below HR0.out hB) i hil
              obtain ⟨w9, hw9⟩ : ∃ w9, w8.alloc (.cells #[.int .i64 f.no, .slice Af f.data.length cf, .int .i64 f.sure] 32) = w9 := ⟨_, rfl⟩
              have hb9 : Below w8.heap.size w8 w9 := by rw [← hw9]; exact below_alloc (Below.refl _ _) _
              have bf : BoxC w9 w8.heap.size #[.int .i64 f.no, .slice Af f.data.length cf, .int .i64 f.sure] 32 := by rw [← hw9]; exact BoxC.new _ _ _
              obtain ⟨ad2, Ag, cg, rfl, v0, v1, v2, hcg, hCg⟩ := file_at (Kd.C_below hC5 hb9) k hkl
              obtain ⟨w10, hw10⟩ : ∃ w10, w9.alloc (.cells #[.int .i64 g.no, .slice Ag g.data.length cg, .int .i64 g.sure] 32) = w10 := ⟨_, rfl⟩
              have hb10 : Below w9.heap.size w9 w10 := by rw [← hw10]; exact below_alloc (Below.refl _ _) _
              have bg : BoxC w10 w9.heap.size #[.int .i64 g.no, .slice Ag g.data.length cg, .int .i64 g.sure] 32 := by rw [← hw10]; exact BoxC.new _ _ _
              replace bf := bf.below hb10
              rw [hfi] at u0 u1 u2 hcf hCf
              rw [hgk] at v0 v1 v2 hcg hCg
              have hz9 := (bz.below hb9).c 1 rfl
              obtain ⟨-, hs1, hs2, hs3⟩ := hs
              obtain ⟨s, hsn⟩ := Int.eq_ofNat_of_zero_le s0
              rw [hsn] at u2 s1 hs1 hs2 hs3 bf hw9
              obtain ⟨fdl, hfdl⟩ : ∃ x, f.data.length = x := ⟨_, rfl⟩
              obtain ⟨gdl, hgdl⟩ : ∃ x, g.data.length = x := ⟨_, rfl⟩
              have hCf1 := Kd.C_take (Kd.C_below (Kd.C_below hCf hb9) hb10) (show s ≤ f.data.length by omega)
              have hCg1 := Kd.C_take (Kd.C_below hCg hb10) (show s ≤ g.data.length by omega)
              have hq : g.data.take s = f.data.take s := hs3
              have hlf : (f.data.take s).length = s := by rw [List.length_take]; omega
              have hlg : (g.data.take s).length = s := by rw [List.length_take]; omega
              rw [hlf] at hCf1
              rw [hlg, hq] at hCg1
              rw [hfdl] at u1 hcf s1 bf hw9
              rw [hgdl] at v1 hcg hs2 bg hw10
              generalize f.data.take s = ys at *
              obtain ⟨gs, hgs⟩ : ∃ x, g.sure = x := ⟨_, rfl⟩
              rw [hgs] at v2 hs1 bg hw10
              obtain ⟨gno, hgno⟩ : ∃ x, g.no = x := ⟨_, rfl⟩
              rw [hgno] at v0 bg hw10
              obtain ⟨fno, hfno⟩ : ∃ x, f.no = x := ⟨_, rfl⟩
              rw [hfno] at u0 bf hw9
              have hB10 := (hB.trans (hb9.mono hB.size)).trans (hb10.mono (Nat.le_trans hB.size hb9.size))
              have b1 : (0 : Int) ≤ (s : Int) := by omega
              have b2 : (s : Int) ≤ (fdl : Int) := by omega
              have b3 : (s : Int) ≤ (gdl : Int) := by omega
              have b4 : (s : Int) ≤ (cf : Int) := by omega
              have b5 : (s : Int) ≤ (cg : Int) := by omega
              have b6 : ((s : Int) ≤ gs) := hs1
              have hil' : (i : Int) < (l0.length : Int) := by omega
              have hkl' : (k : Int) < (m.length : Int) := by omega
              have hk0 : ¬ (k : Int) < 0 := by omega
              have hk1 : ¬ (m.length : Int) ≤ (k : Int) := by omega
              have hCV := fun W (h : Below w10.heap.size w10 W) => Kd.C_string (P := Try.prog) (src := 30) (dst := 9) (e := 5) (c := cf) Try.underlying30 Try.underlying5 Try.underlying9 (Kd.C_below hCf1 h)
              have hCW := fun W (h : Below w10.heap.size w10 W) => Kd.C_string (P := Try.prog) (src := 30) (dst := 9) (e := 5) (c := cg) Try.underlying30 Try.underlying5 Try.underlying9 (Kd.C_below hCg1 h)
              have HSS := Lib.hid (show ∀ W, Below w10.heap.size w10 W → W.cell? ⟨w8.heap.size, 0, none⟩ = some (.int .i64 fno) ∧ W.cell? ⟨w8.heap.size, 1, none⟩ = some (.slice Af fdl cf) ∧ W.cell? ⟨w8.heap.size, 2, none⟩ = some (.int .i64 (s : Int)) ∧ W.cell? ⟨w9.heap.size, 0, none⟩ = some (.int .i64 gno) ∧ W.cell? ⟨w9.heap.size, 1, none⟩ = some (.slice Ag gdl cg) ∧ W.cell? ⟨w9.heap.size, 2, none⟩ = some (.int .i64 gs) ∧ Sem.run Try.prog (convert 30 9 (Value.slice Af s cf)) W = Result.ok (Value.string (strOfNums ys)) W ∧ Sem.run Try.prog (convert 30 9 (Value.slice Ag s cg)) W = Result.ok (Value.string (strOfNums ys)) W from fun W h => ⟨(bf.below h).c 0 rfl, (bf.below h).c 1 rfl, (bf.below h).c 2 rfl, (bg.below h).c 0 rfl, (bg.below h).c 1 rfl, (bg.below h).c 2 rfl, hCV W h, hCW W h⟩)
              have D0 := Lib.hid (show Below w10.heap.size w10 w10.drew from (Below.refl _ w10).drew)
              clear hCV hCW bf bg hCf1 hCg1 hCf hCg hq hlf hlg hs1 hs2 hs3 hgs hgno hfno hfdl hgdl hsn hf hg hfi hgk s0 s1 hb9 hb10 hC5 bx by_ bz y2 y3 y4
              have h3' : n1 = a2 → ¬ k1 = 3 ∧ ¬ k1 = 4 := fun e => ⟨fun e2 => h3 ⟨e, .inl e2⟩, fun e2 => h3 ⟨e, .inr e2⟩⟩
              clear h3
              by_cases h4 : n1 = a2
              · subst h4
                have h5 := (h3' rfl).1
                have h6 := (h3' rfl).2
                have h5b : (k1 == 3) = false := by simpa using h5
                have h6b : (k1 == 4) = false := by simpa using h6
                clear h3'
                go_wp2_with (fail)
                go_region_held3 (fun W => W.cell? ⟨w8.heap.size, 0, none⟩ = some (.int .i64 fno) ∧ W.cell? ⟨w8.heap.size, 1, none⟩ = some (.slice Af fdl cf) ∧ W.cell? ⟨w8.heap.size, 2, none⟩ = some (.int .i64 (s : Int)) ∧ W.cell? ⟨w9.heap.size, 0, none⟩ = some (.int .i64 gno) ∧ W.cell? ⟨w9.heap.size, 1, none⟩ = some (.slice Ag gdl cg) ∧ W.cell? ⟨w9.heap.size, 2, none⟩ = some (.int .i64 gs) ∧ Sem.run Try.prog (convert 30 9 (Value.slice Af s cf)) W = Result.ok (Value.string (strOfNums ys)) W ∧ Sem.run Try.prog (convert 30 9 (Value.slice Ag s cg)) W = Result.ok (Value.string (strOfNums ys)) W)
                  (first | (with_reducible exact HSS.out _ D0.out)) (fail)
                all_goals
                  go_wp2_with (fail)
                  go_ret
                  exact ⟨by simp, hB10.trans (D0.out.mono hB10.size)⟩
              · clear h3'
                go_wp2_with (fail)
                go_region_held3 (fun W => W.cell? ⟨w8.heap.size, 0, none⟩ = some (.int .i64 fno) ∧ W.cell? ⟨w8.heap.size, 1, none⟩ = some (.slice Af fdl cf) ∧ W.cell? ⟨w8.heap.size, 2, none⟩ = some (.int .i64 (s : Int)) ∧ W.cell? ⟨w9.heap.size, 0, none⟩ = some (.int .i64 gno) ∧ W.cell? ⟨w9.heap.size, 1, none⟩ = some (.slice Ag gdl cg) ∧ W.cell? ⟨w9.heap.size, 2, none⟩ = some (.int .i64 gs) ∧ Sem.run Try.prog (convert 30 9 (Value.slice Af s cf)) W = Result.ok (Value.string (strOfNums ys)) W ∧ Sem.run Try.prog (convert 30 9 (Value.slice Ag s cg)) W = Result.ok (Value.string (strOfNums ys)) W)
                  (first | (with_reducible exact HSS.out _ D0.out)) (fail)
                all_goals
                  go_wp2_with (fail)
                  go_ret
                  exact ⟨by simp, hB10.trans (D0.out.mono hB10.size)⟩
      · rw [decide_eq_false hm]
        go_wp2_with (fail)
        go_ret
        exact ⟨rfl, hB⟩
    · rw [decide_eq_false hz]
      go_wp2_with (fail)
      go_ret
      exact ⟨rfl, hB⟩
  · rw [decide_eq_false hf]
    go_wp2_with (fail)
    refine (small_calls k1 n1 m1 A1 l1.length c1 P1 p1.length q1 w2).mono ?_
    rintro e w3 ⟨rfl, hb3⟩
    replace hB := hB.trans (hb3.mono hB.size)
    generalize decide (l1.length ≤ 3000 ∧ p1.length ≤ 60) = zz
    go_wp2_with (fail)
    go_ret
    exact ⟨rfl, hB⟩
end Go.Proofs.Ytahiigcofgnncaa.H
