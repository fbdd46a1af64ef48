import Derived.Test.YtahiigcofgnncaaDiskOp
import Derived.Test.YtahiigcofgnncaaDiskZ
import Derived.OpenShut
import Derived.Deep.RegionHeldLaw
import Derived.Deep.RegionHeld3
/-! The law DiskFiles, walked. -/
namespace Go.Proofs.Ytahiigcofgnncaa.H
open Go.RowKit Moor Go.Proofs.YtahiigcofgnncaaW.PrintWords Go.Proofs.YtahiigcofgnncaaW.PrintLast Go.Proofs.YtahiigcofgnncaaW.PrintMore
set_option linter.unusedVariables false
set_option linter.unusedSimpArgs false

set_option maxRecDepth 100000 in
set_option maxHeartbeats 16000000 in
theorem diskFiles_walk (a0 : Int) (A0 : Option Addr) (c0 : Nat) (l0 : List Fl) (a1 a2 : Int) (w : World) (hr0 : Kd.C kF w A0 l0.length l0) (hc0 : l0.length ≤ c0) (ho0 : ∀ f ∈ l0, okB f.data) (hw1 : (Lit.int .i64 a1).wf = true) (hw2 : (Lit.int .i64 a2).wf = true) :
    Calls Try.prog 6 #[.agg (cellsD a0 A0 l0.length c0), .int .i64 a1, .int .i64 a2] w fun e w' => e = .returned (.bool true) ∧ Below w.heap.size w w' := by
  obtain ⟨w0, hw0⟩ : ∃ w0, w.alloc (.cells (cellsD a0 A0 l0.length c0) 24) = w0 := ⟨_, rfl⟩
  have hB : Below w.heap.size w w0 := by rw [← hw0]; exact below_alloc (Below.refl _ _) _
  have bx : BoxC w0 w.heap.size (cellsD a0 A0 l0.length c0) 24 := by rw [← hw0]; exact BoxC.new w _ _
  have HR0 := Lib.hid hr0
  have HW0 := Lib.hid hw0
  clear hr0 ho0
  go_enter Try.func6, Try.ntmps6
  go_wp2_with (fail)
  refine (awake_true _).mono ?_
  rintro e w1 ⟨rfl, hb1⟩
  replace hB := hB.trans (hb1.mono hB.size)
  replace bx := bx.below hb1
  clear hb1
  try clear x0 x1
  have x0 := bx.c 0 rfl
  have x1 := bx.c 1 rfl
  go_wp2_with (fail)
  refine (few_calls a0 A0 c0 l0 w1 (Kd.C_below HR0.out hB) hc0).mono ?_
  rintro e w2 ⟨rfl, hb2⟩
  replace hB := hB.trans (hb2.mono hB.size)
  replace bx := bx.below hb2
  clear hb2
  try clear x0 x1
  have x0 := bx.c 0 rfl
  have x1 := bx.c 1 rfl
  by_cases hf : fewF l0
  · rw [decide_eq_true hf]
    have hsm : smallF l0 := fun f hf' => by have := hf.1 f hf'; omega
    have hus := fewF_used hf.1
    have hl14 : l0.length ≤ 14 := hf.2
    have HSM := Lib.hid hsm
    have hu : usedF l0 ≤ 42000 := by omega
    have HU := Lib.hid hu
    clear hf hsm hus hu
    go_wp2_with (fail)
    refine (may_calls a0 A0 c0 l0 w2 (Kd.C_below HR0.out hB) hc0 (by have := HU.out; omega)).mono ?_
    rintro e w3 ⟨rfl, hb3⟩
    replace hB := hB.trans (hb3.mono hB.size)
    replace bx := bx.below hb3
    clear hb3
    try clear x0 x1
    have x0 := bx.c 0 rfl
    have x1 := bx.c 1 rfl
    by_cases hm : mayD ⟨a0, l0⟩
    · rw [decide_eq_true hm]
      have HFM := Lib.hid (files_make hm a1 a2)
      have HFR := Lib.hid (files_drop hm a1 a2)
      clear hm
      have Q1 := Lib.hid (make_calls a0 a1 A0 c0 l0 w3 (Kd.C_below HR0.out hB) hc0 (by omega) HSM.out (by have := HU.out; omega))
      have Q2 := Lib.hid (fun W (h : Below w.heap.size w W) => drop_calls a0 a1 A0 c0 l0 W (Kd.C_below HR0.out h) hc0 (by omega) HSM.out (by have := HU.out; omega))
      generalize makeD ⟨a0, l0⟩ a1 = r at *
      generalize dropD ⟨a0, l0⟩ a1 = s at *
      obtain ⟨⟨ca, ma⟩, ea⟩ := r
      obtain ⟨⟨cb, mb⟩, eb⟩ := s
      dsimp only at HFM HFR
      have hua : usedF ma ≤ 70000 := by have := (may_small HFM.out.1).1; dsimp only at this; omega
      have hub : usedF mb ≤ 70000 := by have := (may_small HFR.out.1).1; dsimp only at this; omega
      have HUA := Lib.hid hua
      have HUB := Lib.hid hub
      clear hua hub
      go_wp2_with (fail)
      refine Q1.out.mono ?_
      rintro e w4 ⟨Aa, c3, rfl, hc3, hF, hb4⟩
      dsimp only at hc3 hF ⊢
      obtain ⟨w5, hw5⟩ : ∃ w5, w4.alloc (.cells (cellsD ca Aa ma.length c3) 24) = w5 := ⟨_, rfl⟩
      have hba : Below w4.heap.size w4 w5 := by rw [← hw5]; exact below_alloc (Below.refl _ _) _
      have hb := hb4.trans (hba.mono hb4.size)
      replace bx := bx.below hb
      have ba : BoxC w5 w4.heap.size (cellsD ca Aa ma.length c3) 24 := by rw [← hw5]; exact BoxC.new _ _ _
      have hCba := (hF.below hba).now
      replace hB := hB.trans (hb.mono hB.size)
      clear hF hb4 hba
      clear hb
      try clear x0 x1
      have x0 := bx.c 0 rfl
      have x1 := bx.c 1 rfl
      try clear ba0 ba1
      have ba0 := ba.c 0 rfl
      have ba1 := ba.c 1 rfl
      go_wp2_with (fail)
      refine (Q2.out _ hB).mono ?_
      rintro e w6 ⟨Ab, c4, rfl, hc4, hF, hb6⟩
      dsimp only at hc4 hF ⊢
      obtain ⟨w7, hw7⟩ : ∃ w7, w6.alloc (.cells (cellsD cb Ab mb.length c4) 24) = w7 := ⟨_, rfl⟩
      have hba : Below w6.heap.size w6 w7 := by rw [← hw7]; exact below_alloc (Below.refl _ _) _
      have hb := hb6.trans (hba.mono hb6.size)
      replace bx := bx.below hb
      replace ba := ba.below hb
      have bb : BoxC w7 w6.heap.size (cellsD cb Ab mb.length c4) 24 := by rw [← hw7]; exact BoxC.new _ _ _
      have hCbb := (hF.below hba).now
      replace hB := hB.trans (hb.mono hB.size)
      clear hF hb6 hba
      replace hCba := Kd.C_below hCba hb
      clear hb
      try clear x0 x1
      have x0 := bx.c 0 rfl
      have x1 := bx.c 1 rfl
      try clear ba0 ba1
      have ba0 := ba.c 0 rfl
      have ba1 := ba.c 1 rfl
      try clear bb0 bb1
      have bb0 := bb.c 0 rfl
      have bb1 := bb.c 1 rfl
      go_wp2_with (fail)
      refine (find_calls ca a1 Aa c3 ma w7 hCba hc3 (by have := HUA.out; omega)).mono ?_
      rintro e w8 ⟨rfl, hb8⟩
      replace hCba := Kd.C_below hCba hb8
      replace hCbb := Kd.C_below hCbb hb8
      clear Q1 Q2
      replace hB := hB.trans (hb8.mono hB.size)
      replace bx := bx.below hb8
      replace ba := ba.below hb8
      replace bb := bb.below hb8
      clear hb8
      try clear x0 x1
      have x0 := bx.c 0 rfl
      have x1 := bx.c 1 rfl
      try clear ba0 ba1
      have ba0 := ba.c 0 rfl
      have ba1 := ba.c 1 rfl
      try clear bb0 bb1
      have bb0 := bb.c 0 rfl
      have bb1 := bb.c 1 rfl
      by_cases hea : ea = 0
      · subst hea
        obtain ⟨i, g, e1, hg, hgd, hml⟩ := HFM.out.2.1 rfl
        obtain ⟨hil, hgi⟩ := List.getElem?_eq_some_iff.1 hg
        obtain ⟨ad, Ag, cg, rfl, v0, v1, v2, -, -⟩ := file_at hCba i hil
        rw [hgi, hgd] at v1
        rw [e1]
        have b1 : ¬ (i : Int) < 0 := by omega
        have b2 : ¬ (ma.length : Int) ≤ (i : Int) := by omega
        have b3 : ((ma.length : Int) != (l0.length : Int) + 1) = false := by simp; omega
        clear v0 v2 hg hgi hgd hml e1
        by_cases heb : eb = 0
        · subst heb
          obtain ⟨e1, e2⟩ := HFR.out.2.1 rfl
          have hlb : ((mb.length : Int) != (l0.length : Int) - 1) = false := by simp; omega
          clear e2
          have E1 := Lib.hid e1
          clear e1
          go_wp2_with (fail)
          refine (find_calls cb a1 _ c4 mb w8 hCbb hc4 (by have := HUB.out; omega)).mono ?_
          rintro e w9 ⟨rfl, hb9⟩
          replace hCba := Kd.C_below hCba hb9
          replace hCbb := Kd.C_below hCbb hb9
          replace hB := hB.trans (hb9.mono hB.size)
          replace bx := bx.below hb9
          replace ba := ba.below hb9
          replace bb := bb.below hb9
          clear hb9
          try clear x0 x1
          have x0 := bx.c 0 rfl
          have x1 := bx.c 1 rfl
          try clear ba0 ba1
          have ba0 := ba.c 0 rfl
          have ba1 := ba.c 1 rfl
          try clear bb0 bb1
          have bb0 := bb.c 0 rfl
          have bb1 := bb.c 1 rfl
          rw [E1.out]
          go_wp2_with (fail)
          refine (find_calls a0 a2 A0 c0 l0 w9 (Kd.C_below HR0.out hB) hc0 (by have := HU.out; omega)).mono ?_
          rintro e w10 ⟨rfl, hb10⟩
          replace hCba := Kd.C_below hCba hb10
          replace hCbb := Kd.C_below hCbb hb10
          replace hB := hB.trans (hb10.mono hB.size)
          replace bx := bx.below hb10
          replace ba := ba.below hb10
          replace bb := bb.below hb10
          clear hb10
          try clear x0 x1
          have x0 := bx.c 0 rfl
          have x1 := bx.c 1 rfl
          try clear ba0 ba1
          have ba0 := ba.c 0 rfl
          have ba1 := ba.c 1 rfl
          try clear bb0 bb1
          have bb0 := bb.c 0 rfl
          have bb1 := bb.c 1 rfl
          generalize hfo : findD ⟨a0, l0⟩ a2 = fo at *
          have HFO := Lib.hid hfo
          clear hfo
          go_wp2_with (fail)
          refine (find_calls a0 a1 A0 c0 l0 w10 (Kd.C_below HR0.out hB) hc0 (by have := HU.out; omega)).mono ?_
          rintro e w11 ⟨rfl, hb11⟩
          replace hCba := Kd.C_below hCba hb11
          replace hCbb := Kd.C_below hCbb hb11
          replace hB := hB.trans (hb11.mono hB.size)
          replace bx := bx.below hb11
          replace ba := ba.below hb11
          replace bb := bb.below hb11
          clear hb11
          try clear x0 x1
          have x0 := bx.c 0 rfl
          have x1 := bx.c 1 rfl
          try clear ba0 ba1
          have ba0 := ba.c 0 rfl
          have ba1 := ba.c 1 rfl
          try clear bb0 bb1
          have bb0 := bb.c 0 rfl
          have bb1 := bb.c 1 rfl
          have hfd := HFR.out.2.2.1
          generalize findD ⟨a0, l0⟩ a1 = fd at *
          have hfd2 : (0 : Int) ≤ fd := hfd.1 (by first | rfl | trivial)
          clear hfd
          have HG := Lib.hid (show a2 ≠ a1 → (0 ≤ findD ⟨ca, ma⟩ a2 ↔ 0 ≤ fo) ∧ (0 ≤ findD ⟨cb, mb⟩ a2 ↔ 0 ≤ fo) from fun ho => ⟨HFM.out.2.2 ho, HFR.out.2.2.2 ho⟩)
          clear HFM HFR HFO
          skip
          by_cases ho : a2 = a1
          · subst ho
            clear HG
            go_wp2_with (fail)
            go_ret
            exact ⟨by simp [hfd2], hB⟩
          · have hg := HG.out ho
            have hob : (a2 == a1) = false := by simpa using ho
            clear HG
            obtain ⟨f1, hf1⟩ : ∃ x, findD ⟨ca, ma⟩ a2 = x := ⟨_, rfl⟩
            obtain ⟨f2, hf2⟩ : ∃ x, findD ⟨cb, mb⟩ a2 = x := ⟨_, rfl⟩
            rw [hf1, hf2] at hg
            have HF1 := Lib.hid hf1
            have HF2 := Lib.hid hf2
            clear hf1 hf2
            obtain ⟨hg1, hg2⟩ := hg
            by_cases hfo : 0 ≤ fo
            · have g1 := hg1.2 hfo
              have g2 := hg2.2 hfo
              clear hg1 hg2
              go_wp2_with (fail)
              refine (find_calls ca a2 _ c3 ma w11 hCba hc3 (by have := HUA.out; omega)).mono ?_
              rintro e w12 ⟨rfl, hb12⟩
              replace hCba := Kd.C_below hCba hb12
              replace hCbb := Kd.C_below hCbb hb12
              replace hB := hB.trans (hb12.mono hB.size)
              replace bx := bx.below hb12
              replace ba := ba.below hb12
              replace bb := bb.below hb12
              clear hb12
              try clear x0 x1
              have x0 := bx.c 0 rfl
              have x1 := bx.c 1 rfl
              try clear ba0 ba1
              have ba0 := ba.c 0 rfl
              have ba1 := ba.c 1 rfl
              try clear bb0 bb1
              have bb0 := bb.c 0 rfl
              have bb1 := bb.c 1 rfl
              rw [HF1.out]
              go_wp2_with (fail)
              refine (find_calls cb a2 _ c4 mb w12 hCbb hc4 (by have := HUB.out; omega)).mono ?_
              rintro e w13 ⟨rfl, hb13⟩
              replace hCba := Kd.C_below hCba hb13
              replace hCbb := Kd.C_below hCbb hb13
              replace hB := hB.trans (hb13.mono hB.size)
              replace bx := bx.below hb13
              replace ba := ba.below hb13
              replace bb := bb.below hb13
              clear hb13
              try clear x0 x1
              have x0 := bx.c 0 rfl
              have x1 := bx.c 1 rfl
              try clear ba0 ba1
              have ba0 := ba.c 0 rfl
              have ba1 := ba.c 1 rfl
              try clear bb0 bb1
              have bb0 := bb.c 0 rfl
              have bb1 := bb.c 1 rfl
              rw [HF2.out]
              go_wp2_with (fail)
              go_ret
              exact ⟨by simp [hfo, g1, g2, hfd2] <;> omega, hB⟩
            · have g1 : ¬ 0 ≤ f1 := fun e => hfo (hg1.1 e)
              have g2 : ¬ 0 ≤ f2 := fun e => hfo (hg2.1 e)
              clear hg1 hg2
              go_wp2_with (fail)
              refine (find_calls ca a2 _ c3 ma w11 hCba hc3 (by have := HUA.out; omega)).mono ?_
              rintro e w12 ⟨rfl, hb12⟩
              replace hCba := Kd.C_below hCba hb12
              replace hCbb := Kd.C_below hCbb hb12
              replace hB := hB.trans (hb12.mono hB.size)
              replace bx := bx.below hb12
              replace ba := ba.below hb12
              replace bb := bb.below hb12
              clear hb12
              try clear x0 x1
              have x0 := bx.c 0 rfl
              have x1 := bx.c 1 rfl
              try clear ba0 ba1
              have ba0 := ba.c 0 rfl
              have ba1 := ba.c 1 rfl
              try clear bb0 bb1
              have bb0 := bb.c 0 rfl
              have bb1 := bb.c 1 rfl
              rw [HF1.out]
              go_wp2_with (fail)
              refine (find_calls cb a2 _ c4 mb w12 hCbb hc4 (by have := HUB.out; omega)).mono ?_
              rintro e w13 ⟨rfl, hb13⟩
              replace hCba := Kd.C_below hCba hb13
              replace hCbb := Kd.C_below hCbb hb13
              replace hB := hB.trans (hb13.mono hB.size)
              replace bx := bx.below hb13
              replace ba := ba.below hb13
              replace bb := bb.below hb13
              clear hb13
              try clear x0 x1
              have x0 := bx.c 0 rfl
              have x1 := bx.c 1 rfl
              try clear ba0 ba1
              have ba0 := ba.c 0 rfl
              have ba1 := ba.c 1 rfl
              try clear bb0 bb1
              have bb0 := bb.c 0 rfl
              have bb1 := bb.c 1 rfl
              rw [HF2.out]
              go_wp2_with (fail)
              go_ret
              exact ⟨by simp [hfo, g1, g2, hfd2] <;> omega, hB⟩
        · have hebb : (eb == 0) = false := by simpa using heb
          go_wp2_with (fail)
          refine (find_calls a0 a2 A0 c0 l0 w8 (Kd.C_below HR0.out hB) hc0 (by have := HU.out; omega)).mono ?_
          rintro e w9 ⟨rfl, hb9⟩
          replace hCba := Kd.C_below hCba hb9
          replace hCbb := Kd.C_below hCbb hb9
          replace hB := hB.trans (hb9.mono hB.size)
          replace bx := bx.below hb9
          replace ba := ba.below hb9
          replace bb := bb.below hb9
          clear hb9
          try clear x0 x1
          have x0 := bx.c 0 rfl
          have x1 := bx.c 1 rfl
          try clear ba0 ba1
          have ba0 := ba.c 0 rfl
          have ba1 := ba.c 1 rfl
          try clear bb0 bb1
          have bb0 := bb.c 0 rfl
          have bb1 := bb.c 1 rfl
          generalize hfo : findD ⟨a0, l0⟩ a2 = fo at *
          have HFO := Lib.hid hfo
          clear hfo
          go_wp2_with (fail)
          refine (find_calls a0 a1 A0 c0 l0 w9 (Kd.C_below HR0.out hB) hc0 (by have := HU.out; omega)).mono ?_
          rintro e w10 ⟨rfl, hb10⟩
          replace hCba := Kd.C_below hCba hb10
          replace hCbb := Kd.C_below hCbb hb10
          replace hB := hB.trans (hb10.mono hB.size)
          replace bx := bx.below hb10
          replace ba := ba.below hb10
          replace bb := bb.below hb10
          clear hb10
          try clear x0 x1
          have x0 := bx.c 0 rfl
          have x1 := bx.c 1 rfl
          try clear ba0 ba1
          have ba0 := ba.c 0 rfl
          have ba1 := ba.c 1 rfl
          try clear bb0 bb1
          have bb0 := bb.c 0 rfl
          have bb1 := bb.c 1 rfl
          have hfd := HFR.out.2.2.1
          generalize findD ⟨a0, l0⟩ a1 = fd at *
          have hfd2 : ¬ (0 : Int) ≤ fd := fun e => heb (hfd.2 e)
          clear hfd
          have HG := Lib.hid (show a2 ≠ a1 → (0 ≤ findD ⟨ca, ma⟩ a2 ↔ 0 ≤ fo) ∧ (0 ≤ findD ⟨cb, mb⟩ a2 ↔ 0 ≤ fo) from fun ho => ⟨HFM.out.2.2 ho, HFR.out.2.2.2 ho⟩)
          clear HFM HFR HFO
          skip
          by_cases ho : a2 = a1
          · subst ho
            clear HG
            go_wp2_with (fail)
            go_ret
            exact ⟨by simp [hfd2, heb], hB⟩
          · have hg := HG.out ho
            have hob : (a2 == a1) = false := by simpa using ho
            clear HG
            obtain ⟨f1, hf1⟩ : ∃ x, findD ⟨ca, ma⟩ a2 = x := ⟨_, rfl⟩
            obtain ⟨f2, hf2⟩ : ∃ x, findD ⟨cb, mb⟩ a2 = x := ⟨_, rfl⟩
            rw [hf1, hf2] at hg
            have HF1 := Lib.hid hf1
            have HF2 := Lib.hid hf2
            clear hf1 hf2
            obtain ⟨hg1, hg2⟩ := hg
            by_cases hfo : 0 ≤ fo
            · have g1 := hg1.2 hfo
              have g2 := hg2.2 hfo
              clear hg1 hg2
              go_wp2_with (fail)
              refine (find_calls ca a2 _ c3 ma w10 hCba hc3 (by have := HUA.out; omega)).mono ?_
              rintro e w11 ⟨rfl, hb11⟩
              replace hCba := Kd.C_below hCba hb11
              replace hCbb := Kd.C_below hCbb hb11
              replace hB := hB.trans (hb11.mono hB.size)
              replace bx := bx.below hb11
              replace ba := ba.below hb11
              replace bb := bb.below hb11
              clear hb11
              try clear x0 x1
              have x0 := bx.c 0 rfl
              have x1 := bx.c 1 rfl
              try clear ba0 ba1
              have ba0 := ba.c 0 rfl
              have ba1 := ba.c 1 rfl
              try clear bb0 bb1
              have bb0 := bb.c 0 rfl
              have bb1 := bb.c 1 rfl
              rw [HF1.out]
              go_wp2_with (fail)
              refine (find_calls cb a2 _ c4 mb w11 hCbb hc4 (by have := HUB.out; omega)).mono ?_
              rintro e w12 ⟨rfl, hb12⟩
              replace hCba := Kd.C_below hCba hb12
              replace hCbb := Kd.C_below hCbb hb12
              replace hB := hB.trans (hb12.mono hB.size)
              replace bx := bx.below hb12
              replace ba := ba.below hb12
              replace bb := bb.below hb12
              clear hb12
              try clear x0 x1
              have x0 := bx.c 0 rfl
              have x1 := bx.c 1 rfl
              try clear ba0 ba1
              have ba0 := ba.c 0 rfl
              have ba1 := ba.c 1 rfl
              try clear bb0 bb1
              have bb0 := bb.c 0 rfl
              have bb1 := bb.c 1 rfl
              rw [HF2.out]
              go_wp2_with (fail)
              go_ret
              exact ⟨by simp [hfo, g1, g2, hfd2, heb] <;> omega, hB⟩
            · have g1 : ¬ 0 ≤ f1 := fun e => hfo (hg1.1 e)
              have g2 : ¬ 0 ≤ f2 := fun e => hfo (hg2.1 e)
              clear hg1 hg2
              go_wp2_with (fail)
              refine (find_calls ca a2 _ c3 ma w10 hCba hc3 (by have := HUA.out; omega)).mono ?_
              rintro e w11 ⟨rfl, hb11⟩
              replace hCba := Kd.C_below hCba hb11
              replace hCbb := Kd.C_below hCbb hb11
              replace hB := hB.trans (hb11.mono hB.size)
              replace bx := bx.below hb11
              replace ba := ba.below hb11
              replace bb := bb.below hb11
              clear hb11
              try clear x0 x1
              have x0 := bx.c 0 rfl
              have x1 := bx.c 1 rfl
              try clear ba0 ba1
              have ba0 := ba.c 0 rfl
              have ba1 := ba.c 1 rfl
              try clear bb0 bb1
              have bb0 := bb.c 0 rfl
              have bb1 := bb.c 1 rfl
              rw [HF1.out]
              go_wp2_with (fail)
              refine (find_calls cb a2 _ c4 mb w11 hCbb hc4 (by have := HUB.out; omega)).mono ?_
              rintro e w12 ⟨rfl, hb12⟩
              replace hCba := Kd.C_below hCba hb12
              replace hCbb := Kd.C_below hCbb hb12
              replace hB := hB.trans (hb12.mono hB.size)
              replace bx := bx.below hb12
              replace ba := ba.below hb12
              replace bb := bb.below hb12
              clear hb12
              try clear x0 x1
              have x0 := bx.c 0 rfl
              have x1 := bx.c 1 rfl
              try clear ba0 ba1
              have ba0 := ba.c 0 rfl
              have ba1 := ba.c 1 rfl
              try clear bb0 bb1
              have bb0 := bb.c 0 rfl
              have bb1 := bb.c 1 rfl
              rw [HF2.out]
              go_wp2_with (fail)
              go_ret
              exact ⟨by simp [hfo, g1, g2, hfd2, heb] <;> omega, hB⟩
      · have heab : (ea == 0) = false := by simpa using hea
        generalize findD ⟨ca, ma⟩ a1 = fi at *
        by_cases heb : eb = 0
        · subst heb
          obtain ⟨e1, e2⟩ := HFR.out.2.1 rfl
          have hlb : ((mb.length : Int) != (l0.length : Int) - 1) = false := by simp; omega
          clear e2
          have E1 := Lib.hid e1
          clear e1
          go_wp2_with (fail)
          refine (find_calls cb a1 _ c4 mb w8 hCbb hc4 (by have := HUB.out; omega)).mono ?_
          rintro e w9 ⟨rfl, hb9⟩
          replace hCba := Kd.C_below hCba hb9
          replace hCbb := Kd.C_below hCbb hb9
          replace hB := hB.trans (hb9.mono hB.size)
          replace bx := bx.below hb9
          replace ba := ba.below hb9
          replace bb := bb.below hb9
          clear hb9
          try clear x0 x1
          have x0 := bx.c 0 rfl
          have x1 := bx.c 1 rfl
          try clear ba0 ba1
          have ba0 := ba.c 0 rfl
          have ba1 := ba.c 1 rfl
          try clear bb0 bb1
          have bb0 := bb.c 0 rfl
          have bb1 := bb.c 1 rfl
          rw [E1.out]
          go_wp2_with (fail)
          refine (find_calls a0 a2 A0 c0 l0 w9 (Kd.C_below HR0.out hB) hc0 (by have := HU.out; omega)).mono ?_
          rintro e w10 ⟨rfl, hb10⟩
          replace hCba := Kd.C_below hCba hb10
          replace hCbb := Kd.C_below hCbb hb10
          replace hB := hB.trans (hb10.mono hB.size)
          replace bx := bx.below hb10
          replace ba := ba.below hb10
          replace bb := bb.below hb10
          clear hb10
          try clear x0 x1
          have x0 := bx.c 0 rfl
          have x1 := bx.c 1 rfl
          try clear ba0 ba1
          have ba0 := ba.c 0 rfl
          have ba1 := ba.c 1 rfl
          try clear bb0 bb1
          have bb0 := bb.c 0 rfl
          have bb1 := bb.c 1 rfl
          generalize hfo : findD ⟨a0, l0⟩ a2 = fo at *
          have HFO := Lib.hid hfo
          clear hfo
          go_wp2_with (fail)
          refine (find_calls a0 a1 A0 c0 l0 w10 (Kd.C_below HR0.out hB) hc0 (by have := HU.out; omega)).mono ?_
          rintro e w11 ⟨rfl, hb11⟩
          replace hCba := Kd.C_below hCba hb11
          replace hCbb := Kd.C_below hCbb hb11
          replace hB := hB.trans (hb11.mono hB.size)
          replace bx := bx.below hb11
          replace ba := ba.below hb11
          replace bb := bb.below hb11
          clear hb11
          try clear x0 x1
          have x0 := bx.c 0 rfl
          have x1 := bx.c 1 rfl
          try clear ba0 ba1
          have ba0 := ba.c 0 rfl
          have ba1 := ba.c 1 rfl
          try clear bb0 bb1
          have bb0 := bb.c 0 rfl
          have bb1 := bb.c 1 rfl
          have hfd := HFR.out.2.2.1
          generalize findD ⟨a0, l0⟩ a1 = fd at *
          have hfd2 : (0 : Int) ≤ fd := hfd.1 (by first | rfl | trivial)
          clear hfd
          have HG := Lib.hid (show a2 ≠ a1 → (0 ≤ findD ⟨ca, ma⟩ a2 ↔ 0 ≤ fo) ∧ (0 ≤ findD ⟨cb, mb⟩ a2 ↔ 0 ≤ fo) from fun ho => ⟨HFM.out.2.2 ho, HFR.out.2.2.2 ho⟩)
          clear HFM HFR HFO
          skip
          by_cases ho : a2 = a1
          · subst ho
            clear HG
            go_wp2_with (fail)
            go_ret
            exact ⟨by simp [hfd2], hB⟩
          · have hg := HG.out ho
            have hob : (a2 == a1) = false := by simpa using ho
            clear HG
            obtain ⟨f1, hf1⟩ : ∃ x, findD ⟨ca, ma⟩ a2 = x := ⟨_, rfl⟩
            obtain ⟨f2, hf2⟩ : ∃ x, findD ⟨cb, mb⟩ a2 = x := ⟨_, rfl⟩
            rw [hf1, hf2] at hg
            have HF1 := Lib.hid hf1
            have HF2 := Lib.hid hf2
            clear hf1 hf2
            obtain ⟨hg1, hg2⟩ := hg
            by_cases hfo : 0 ≤ fo
            · have g1 := hg1.2 hfo
              have g2 := hg2.2 hfo
              clear hg1 hg2
              go_wp2_with (fail)
              refine (find_calls ca a2 _ c3 ma w11 hCba hc3 (by have := HUA.out; omega)).mono ?_
              rintro e w12 ⟨rfl, hb12⟩
              replace hCba := Kd.C_below hCba hb12
              replace hCbb := Kd.C_below hCbb hb12
              replace hB := hB.trans (hb12.mono hB.size)
              replace bx := bx.below hb12
              replace ba := ba.below hb12
              replace bb := bb.below hb12
              clear hb12
              try clear x0 x1
              have x0 := bx.c 0 rfl
              have x1 := bx.c 1 rfl
              try clear ba0 ba1
              have ba0 := ba.c 0 rfl
              have ba1 := ba.c 1 rfl
              try clear bb0 bb1
              have bb0 := bb.c 0 rfl
              have bb1 := bb.c 1 rfl
              rw [HF1.out]
              go_wp2_with (fail)
              refine (find_calls cb a2 _ c4 mb w12 hCbb hc4 (by have := HUB.out; omega)).mono ?_
              rintro e w13 ⟨rfl, hb13⟩
              replace hCba := Kd.C_below hCba hb13
              replace hCbb := Kd.C_below hCbb hb13
              replace hB := hB.trans (hb13.mono hB.size)
              replace bx := bx.below hb13
              replace ba := ba.below hb13
              replace bb := bb.below hb13
              clear hb13
              try clear x0 x1
              have x0 := bx.c 0 rfl
              have x1 := bx.c 1 rfl
              try clear ba0 ba1
              have ba0 := ba.c 0 rfl
              have ba1 := ba.c 1 rfl
              try clear bb0 bb1
              have bb0 := bb.c 0 rfl
              have bb1 := bb.c 1 rfl
              rw [HF2.out]
              go_wp2_with (fail)
              go_ret
              exact ⟨by simp [hfo, g1, g2, hfd2] <;> omega, hB⟩
            · have g1 : ¬ 0 ≤ f1 := fun e => hfo (hg1.1 e)
              have g2 : ¬ 0 ≤ f2 := fun e => hfo (hg2.1 e)
              clear hg1 hg2
              go_wp2_with (fail)
              refine (find_calls ca a2 _ c3 ma w11 hCba hc3 (by have := HUA.out; omega)).mono ?_
              rintro e w12 ⟨rfl, hb12⟩
              replace hCba := Kd.C_below hCba hb12
              replace hCbb := Kd.C_below hCbb hb12
              replace hB := hB.trans (hb12.mono hB.size)
              replace bx := bx.below hb12
              replace ba := ba.below hb12
              replace bb := bb.below hb12
              clear hb12
              try clear x0 x1
              have x0 := bx.c 0 rfl
              have x1 := bx.c 1 rfl
              try clear ba0 ba1
              have ba0 := ba.c 0 rfl
              have ba1 := ba.c 1 rfl
              try clear bb0 bb1
              have bb0 := bb.c 0 rfl
              have bb1 := bb.c 1 rfl
              rw [HF1.out]
              go_wp2_with (fail)
              refine (find_calls cb a2 _ c4 mb w12 hCbb hc4 (by have := HUB.out; omega)).mono ?_
              rintro e w13 ⟨rfl, hb13⟩
              replace hCba := Kd.C_below hCba hb13
              replace hCbb := Kd.C_below hCbb hb13
              replace hB := hB.trans (hb13.mono hB.size)
              replace bx := bx.below hb13
              replace ba := ba.below hb13
              replace bb := bb.below hb13
              clear hb13
              try clear x0 x1
              have x0 := bx.c 0 rfl
              have x1 := bx.c 1 rfl
              try clear ba0 ba1
              have ba0 := ba.c 0 rfl
              have ba1 := ba.c 1 rfl
              try clear bb0 bb1
              have bb0 := bb.c 0 rfl
              have bb1 := bb.c 1 rfl
              rw [HF2.out]
              go_wp2_with (fail)
              go_ret
              exact ⟨by simp [hfo, g1, g2, hfd2] <;> omega, hB⟩
        · have hebb : (eb == 0) = false := by simpa using heb
          go_wp2_with (fail)
          refine (find_calls a0 a2 A0 c0 l0 w8 (Kd.C_below HR0.out hB) hc0 (by have := HU.out; omega)).mono ?_
          rintro e w9 ⟨rfl, hb9⟩
          replace hCba := Kd.C_below hCba hb9
          replace hCbb := Kd.C_below hCbb hb9
          replace hB := hB.trans (hb9.mono hB.size)
          replace bx := bx.below hb9
          replace ba := ba.below hb9
          replace bb := bb.below hb9
          clear hb9
          try clear x0 x1
          have x0 := bx.c 0 rfl
          have x1 := bx.c 1 rfl
          try clear ba0 ba1
          have ba0 := ba.c 0 rfl
          have ba1 := ba.c 1 rfl
          try clear bb0 bb1
          have bb0 := bb.c 0 rfl
          have bb1 := bb.c 1 rfl
          generalize hfo : findD ⟨a0, l0⟩ a2 = fo at *
          have HFO := Lib.hid hfo
          clear hfo
          go_wp2_with (fail)
          refine (find_calls a0 a1 A0 c0 l0 w9 (Kd.C_below HR0.out hB) hc0 (by have := HU.out; omega)).mono ?_
          rintro e w10 ⟨rfl, hb10⟩
          replace hCba := Kd.C_below hCba hb10
          replace hCbb := Kd.C_below hCbb hb10
          replace hB := hB.trans (hb10.mono hB.size)
          replace bx := bx.below hb10
          replace ba := ba.below hb10
          replace bb := bb.below hb10
          clear hb10
          try clear x0 x1
          have x0 := bx.c 0 rfl
          have x1 := bx.c 1 rfl
          try clear ba0 ba1
          have ba0 := ba.c 0 rfl
          have ba1 := ba.c 1 rfl
          try clear bb0 bb1
          have bb0 := bb.c 0 rfl
          have bb1 := bb.c 1 rfl
          have hfd := HFR.out.2.2.1
          generalize findD ⟨a0, l0⟩ a1 = fd at *
          have hfd2 : ¬ (0 : Int) ≤ fd := fun e => heb (hfd.2 e)
          clear hfd
          have HG := Lib.hid (show a2 ≠ a1 → (0 ≤ findD ⟨ca, ma⟩ a2 ↔ 0 ≤ fo) ∧ (0 ≤ findD ⟨cb, mb⟩ a2 ↔ 0 ≤ fo) from fun ho => ⟨HFM.out.2.2 ho, HFR.out.2.2.2 ho⟩)
          clear HFM HFR HFO
          skip
          by_cases ho : a2 = a1
          · subst ho
            clear HG
            go_wp2_with (fail)
            go_ret
            exact ⟨by simp [hfd2, heb], hB⟩
          · have hg := HG.out ho
            have hob : (a2 == a1) = false := by simpa using ho
            clear HG
            obtain ⟨f1, hf1⟩ : ∃ x, findD ⟨ca, ma⟩ a2 = x := ⟨_, rfl⟩
            obtain ⟨f2, hf2⟩ : ∃ x, findD ⟨cb, mb⟩ a2 = x := ⟨_, rfl⟩
            rw [hf1, hf2] at hg
            have HF1 := Lib.hid hf1
            have HF2 := Lib.hid hf2
            clear hf1 hf2
            obtain ⟨hg1, hg2⟩ := hg
            by_cases hfo : 0 ≤ fo
            · have g1 := hg1.2 hfo
              have g2 := hg2.2 hfo
              clear hg1 hg2
              go_wp2_with (fail)
              refine (find_calls ca a2 _ c3 ma w10 hCba hc3 (by have := HUA.out; omega)).mono ?_
              rintro e w11 ⟨rfl, hb11⟩
              replace hCba := Kd.C_below hCba hb11
              replace hCbb := Kd.C_below hCbb hb11
              replace hB := hB.trans (hb11.mono hB.size)
              replace bx := bx.below hb11
              replace ba := ba.below hb11
              replace bb := bb.below hb11
              clear hb11
              try clear x0 x1
              have x0 := bx.c 0 rfl
              have x1 := bx.c 1 rfl
              try clear ba0 ba1
              have ba0 := ba.c 0 rfl
              have ba1 := ba.c 1 rfl
              try clear bb0 bb1
              have bb0 := bb.c 0 rfl
              have bb1 := bb.c 1 rfl
              rw [HF1.out]
              go_wp2_with (fail)
              refine (find_calls cb a2 _ c4 mb w11 hCbb hc4 (by have := HUB.out; omega)).mono ?_
              rintro e w12 ⟨rfl, hb12⟩
              replace hCba := Kd.C_below hCba hb12
              replace hCbb := Kd.C_below hCbb hb12
              replace hB := hB.trans (hb12.mono hB.size)
              replace bx := bx.below hb12
              replace ba := ba.below hb12
              replace bb := bb.below hb12
              clear hb12
              try clear x0 x1
              have x0 := bx.c 0 rfl
              have x1 := bx.c 1 rfl
              try clear ba0 ba1
              have ba0 := ba.c 0 rfl
              have ba1 := ba.c 1 rfl
              try clear bb0 bb1
              have bb0 := bb.c 0 rfl
              have bb1 := bb.c 1 rfl
              rw [HF2.out]
              go_wp2_with (fail)
              go_ret
              exact ⟨by simp [hfo, g1, g2, hfd2, heb] <;> omega, hB⟩
            · have g1 : ¬ 0 ≤ f1 := fun e => hfo (hg1.1 e)
              have g2 : ¬ 0 ≤ f2 := fun e => hfo (hg2.1 e)
              clear hg1 hg2
              go_wp2_with (fail)
              refine (find_calls ca a2 _ c3 ma w10 hCba hc3 (by have := HUA.out; omega)).mono ?_
              rintro e w11 ⟨rfl, hb11⟩
              replace hCba := Kd.C_below hCba hb11
              replace hCbb := Kd.C_below hCbb hb11
              replace hB := hB.trans (hb11.mono hB.size)
              replace bx := bx.below hb11
              replace ba := ba.below hb11
              replace bb := bb.below hb11
              clear hb11
              try clear x0 x1
              have x0 := bx.c 0 rfl
              have x1 := bx.c 1 rfl
              try clear ba0 ba1
              have ba0 := ba.c 0 rfl
              have ba1 := ba.c 1 rfl
              try clear bb0 bb1
              have bb0 := bb.c 0 rfl
              have bb1 := bb.c 1 rfl
              rw [HF1.out]
              go_wp2_with (fail)
              refine (find_calls cb a2 _ c4 mb w11 hCbb hc4 (by have := HUB.out; omega)).mono ?_
              rintro e w12 ⟨rfl, hb12⟩
              replace hCba := Kd.C_below hCba hb12
              replace hCbb := Kd.C_below hCbb hb12
              replace hB := hB.trans (hb12.mono hB.size)
              replace bx := bx.below hb12
              replace ba := ba.below hb12
              replace bb := bb.below hb12
              clear hb12
              try clear x0 x1
              have x0 := bx.c 0 rfl
              have x1 := bx.c 1 rfl
              try clear ba0 ba1
              have ba0 := ba.c 0 rfl
              have ba1 := ba.c 1 rfl
              try clear bb0 bb1
              have bb0 := bb.c 0 rfl
              have bb1 := bb.c 1 rfl
              rw [HF2.out]
              go_wp2_with (fail)
              go_ret
              exact ⟨by simp [hfo, g1, g2, hfd2, heb] <;> omega, hB⟩
    · rw [decide_eq_false hm]
      go_wp2_with (fail)
      go_ret
      exact ⟨rfl, hB⟩
  · rw [decide_eq_false hf]
    go_wp2_with (fail)
    go_ret
    exact ⟨rfl, hB⟩
end Go.Proofs.Ytahiigcofgnncaa.H
