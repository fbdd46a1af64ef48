import Derived.Test.YtahiigcofgnncaaDiskR
import Derived.OpenShut
import Derived.Deep.RegionHeldLaw
/-! The law DiskWrites, walked. -/
namespace Go.Proofs.Ytahiigcofgnncaa.H
open Go.RowKit Moor Go.Proofs.YtahiigcofgnncaaW.PrintWords Go.Proofs.YtahiigcofgnncaaW.PrintLast Go.Proofs.YtahiigcofgnncaaW.PrintMore
set_option linter.unusedVariables false
set_option linter.unusedSimpArgs false

/-- A world with a new box. -/
theorem box_new (W : World) (cs : Array Value) (t : TypeId) : ∃ W', W.alloc (.cells cs t) = W' ∧ Below W.heap.size W W' ∧ BoxC W' W.heap.size cs t := ⟨_, rfl, below_alloc (Below.refl _ _) _, BoxC.new _ _ _⟩
theorem fewF_few {l : List Fl} (h : fewF l) : smallF l ∧ usedF l ≤ 42000 ∧ l.length ≤ 14 := by
  have h1 := fewF_used h.1
  have h2 := h.2
  exact ⟨fun f hf => by have := h.1 f hf; omega, by omega, h2⟩
set_option maxRecDepth 100000 in
set_option maxHeartbeats 16000000 in
theorem diskWrites_walk (a0 : Int) (A0 : Option Addr) (c0 : Nat) (l0 : List Fl) (a1 : Int) (A2 : Option Addr) (c2 : Nat) (l2 : List Int) (A3 : Option Addr) (c3 : Nat) (l3 : List Int) (a4 : Int) (w : World) (hr0 : Kd.C kF w A0 l0.length l0) (hc0 : l0.length ≤ c0) (ho0 : ∀ f ∈ l0, okB f.data) (hw1 : (Lit.int .i64 a1).wf = true)
    (hr2 : Kd.C kB w A2 l2.length l2) (hc2 : l2.length ≤ c2) (ho2 : okB l2) (hr3 : Kd.C (Kd.int .i64) w A3 l3.length l3) (hc3 : l3.length ≤ c3) (hw4 : (Lit.int .i64 a4).wf = true) :
    Calls Try.prog 5 #[.agg (cellsD a0 A0 l0.length c0), .int .i64 a1, .slice A2 l2.length c2, .slice A3 l3.length c3, .int .i64 a4] w fun e w' => e = .returned (.bool true) ∧ Below w.heap.size w w' := by
  have bx := BoxC.new w (cellsD a0 A0 l0.length c0) 24
  have hBa := below_alloc (Below.refl w.heap.size w) (.cells (cellsD a0 A0 l0.length c0) 24)
  have HR0 := Lib.hid hr0
  have HR2 := Lib.hid hr2
  have HR3 := Lib.hid hr3
  have HO0 := Lib.hid ho0
  have HO2 := Lib.hid ho2
  clear hr0 hr2 hr3 ho0 ho2
  go_enter Try.func5, Try.ntmps5
  go_wp2_with (fail)
  refine (awake_true _).mono ?_
  rintro e w1 ⟨rfl, hb1⟩
  have hB1 : Below w.heap.size w w1 := hBa.trans (hb1.mono hBa.size)
  replace bx := bx.below hb1
  have x0 := bx.c 0 rfl
  have x1 := bx.c 1 rfl
  clear hb1 hBa
  go_wp2_with (fail)
  refine (few_calls a0 A0 c0 l0 w1 (Kd.C_below HR0.out hB1) hc0).mono ?_
  rintro e w2 ⟨rfl, hb2⟩
  have hB2 := hB1.trans (hb2.mono hB1.size)
  replace bx := bx.below hb2
  clear x0 x1
  have x0 := bx.c 0 rfl
  have x1 := bx.c 1 rfl
  clear hb2 hB1
  by_cases hf : fewF l0
  · rw [decide_eq_true hf]
    obtain ⟨hsm, hu, hl14⟩ := fewF_few hf
    have HSM := Lib.hid hsm
    have HU := Lib.hid hu
    have HFW := Lib.hid hf.1
    clear hf hsm hu
    by_cases h2 : l2.length ≤ 3000
    · have h2i : ¬ (3000 : Int) < (l2.length : Int) := by omega
      by_cases h3 : l3.length ≤ 60
      · have h3i : ¬ (60 : Int) < (l3.length : Int) := by omega
        go_wp2_with (fail)
        refine (find_calls a0 a1 A0 c0 l0 w2 (Kd.C_below HR0.out hB2) hc0 (by have := HU.out; omega)).mono ?_
        rintro e w4 ⟨rfl, hb4⟩
        have hB4 := hB2.trans (hb4.mono hB2.size)
        replace bx := bx.below hb4
        clear x0 x1
        have x0 := bx.c 0 rfl
        have x1 := bx.c 1 rfl
        clear hb4 hB2
        have q := write_calls a0 a1 A0 c0 l0 A2 c2 l2 w4 (Kd.C_below HR0.out hB4) hc0 (by omega) HSM.out (by have := HU.out; omega) (Kd.C_below HR2.out hB4) hc2 (by omega)
        have herr : (writeD ⟨a0, l0⟩ a1 l2).2 ≠ 0 → (writeD ⟨a0, l0⟩ a1 l2).1 = ⟨a0, l0⟩ := by rw [writeD_atR]; exact atR_err
        by_cases he : (writeD ⟨a0, l0⟩ a1 l2).2 = 0
        · obtain ⟨i, f, W⟩ := writes_ok he
          have WW := Lib.hid W
          rw [W.find]
          rw [W.write] at q
          have hil := W.lt
          have hdl : f.data.length ≤ 3000 := HFW.out f (List.mem_of_getElem? W.at_)
          have Q := Lib.hid q
          clear q herr he W
          go_wp2_with (fail)
          refine Q.out.mono ?_
          clear Q
          rintro e w5 ⟨A5, c5, rfl, hc5, hF5, hb5⟩
          dsimp only at hc5 hF5 ⊢
          have hm1 := WW.out.may1
          have hx1 : (l0.set i ⟨f.no, f.data ++ l2, f.sure⟩)[i]? = some ⟨f.no, f.data ++ l2, f.sure⟩ := List.getElem?_set_self hil
          have hml : (l0.set i ⟨f.no, f.data ++ l2, f.sure⟩).length = l0.length := List.length_set
          have hsy := WW.out.sync
          have hus := WW.out.used
          generalize l0.set i ⟨f.no, f.data ++ l2, f.sure⟩ = m at *
          have hB5 := hB4.trans (hb5.mono hB4.size)
          obtain ⟨w6, hw6, hba, by6⟩ := box_new w5 (cellsD a0 A5 m.length c5) 24
          have bx6 := (bx.below hb5).below hba
          have hB6 := hB5.trans (hba.mono hB5.size)
          have hC6 := (hF5.below hba).now
          have y0 := by6.c 0 rfl
          have y1 := by6.c 1 rfl
          have q := sync_calls a0 a1 A5 c5 m w6 hC6 hc5 (by omega) (may_smallF hm1) (by have := may_small hm1; dsimp only at this; omega)
          rw [hsy] at q
          have HC6 := Lib.hid hC6
          have HX1 := Lib.hid hx1
          have HML := Lib.hid hml
          have HM1 := Lib.hid hm1
          have HUS := Lib.hid hus
          have Q := Lib.hid q
          clear q hsy hus hm1 hx1 hml hC6 hF5 hb5 hba bx x0 x1 hB5 hB4
          go_wp2_with (fail)
          refine Q.out.mono ?_
          clear Q
          rintro e w7 ⟨A7, c7, rfl, hc7, hF7, hb7⟩
          dsimp only at hc7 hF7 ⊢
          have hm2 := WW.out.may2
          have hcr := WW.out.crash l3
          have hcut := WW.out.cut a4
          have hml2 : (l0.set i ⟨f.no, f.data ++ l2, ((f.data ++ l2).length : Int)⟩).length = l0.length := List.length_set
          have hx2 : (l0.set i ⟨f.no, f.data ++ l2, ((f.data ++ l2).length : Int)⟩)[i]? = some ⟨f.no, f.data ++ l2, ((f.data ++ l2).length : Int)⟩ := List.getElem?_set_self hil
          have hokm : ∀ g ∈ l0.set i ⟨f.no, f.data ++ l2, ((f.data ++ l2).length : Int)⟩, okB g.data := fun g hg => by
            rcases List.mem_or_eq_of_mem_set hg with h9 | h9
            · exact HO0.out g h9
            · rw [h9]
              exact okB_append (HO0.out f (List.mem_of_getElem? WW.out.at_)) HO2.out
          generalize l0.set i ⟨f.no, f.data ++ l2, ((f.data ++ l2).length : Int)⟩ = m2 at *
          have hB7 := hB6.trans (hb7.mono hB6.size)
          obtain ⟨w8, hw8, hba, by8⟩ := box_new w7 (cellsD a0 A7 m2.length c7) 24
          have bx8 := (bx6.below hb7).below hba
          have by68 := (by6.below hb7).below hba
          have hB8 := hB7.trans (hba.mono hB7.size)
          have hC8 := (hF7.below hba).now
          have HC68 := Lib.hid (Kd.C_below (Kd.C_below HC6.out hb7) hba)
          have z0 := by8.c 0 rfl
          have z1 := by8.c 1 rfl
          have q := crash_calls a0 A7 c7 m2 A3 c3 l3 w8 hC8 hc7 (by omega) (may_smallF hm2) (by have := may_small hm2; dsimp only at this; omega) hokm (Kd.C_below HR3.out hB8) hc3
          rw [crashD_yes hm2] at q
          have hlen3 := crashL_len m2 l3
          have Q := Lib.hid q
          have HC8 := Lib.hid hC8
          have HX2 := Lib.hid hx2
          have HML2 := Lib.hid hml2
          have HM2 := Lib.hid hm2
          have HCUT := Lib.hid hcut
          clear q hcut hm2 hml2 hx2 hC8 hF7 hb7 hba bx6 by6 y0 y1 hB7 hB6 hokm
          go_wp2_with (fail)
          refine Q.out.mono ?_
          clear Q
          rintro e w9 ⟨A9, c9, rfl, hc9, hF9, hb9⟩
          dsimp only at hc9 hF9 ⊢
          generalize crashL m2 l3 = h at *
          obtain ⟨gh, hgh1, hgh2⟩ := hcr
          have hB9 := hB8.trans (hb9.mono hB8.size)
          obtain ⟨w10, hw10, hba, by10⟩ := box_new w9 (cellsD a0 A9 h.length c9) 24
          have bx10 := (bx8.below hb9).below hba
          have by610 := (by68.below hb9).below hba
          have by810 := (by8.below hb9).below hba
          have hB10 := hB9.trans (hba.mono hB9.size)
          have hC10 := (hF9.below hba).now
          have HC610 := Lib.hid (Kd.C_below (Kd.C_below HC68.out hb9) hba)
          have HC810 := Lib.hid (Kd.C_below (Kd.C_below HC8.out hb9) hba)
          have HR10 := Lib.hid (Kd.C_below HR0.out hB10)
          have hil1 : i < m.length := by have := HML.out; omega
          have hil3 : i < h.length := by have := HML2.out; omega
          have hfi : l0[i] = f := by
            have := List.getElem?_eq_getElem hil
            rw [WW.out.at_] at this
            injection this with this
            exact this.symm
          have hmi : m[i] = ⟨f.no, f.data ++ l2, f.sure⟩ := by
            have := List.getElem?_eq_getElem hil1
            rw [HX1.out] at this
            injection this with this
            exact this.symm
          have hhi : h[i] = gh := by
            have := List.getElem?_eq_getElem hil3
            rw [hgh1] at this
            injection this with this
            exact this.symm
          obtain ⟨ad, D1, e1, rfl, p0, p1, p2, -, pC⟩ := file_at HR10.out i hil
          obtain ⟨ad6, D6, e6, rfl, q0, q1, q2, -, qC⟩ := file_at HC610.out i hil1
          obtain ⟨ad9, D9, e9, rfl, r0, r1, r2, -, rC⟩ := file_at hC10 i hil3
          rw [hfi] at p1 pC
          rw [hmi] at q1 qC
          rw [hhi, hgh2] at r1 rC
          dsimp only at q1 qC
          have hneq1 : ((m.length : Int) != (l0.length : Int)) = false := by have := HML.out; simp; omega
          have hneq2 : ((h.length : Int) != (l0.length : Int)) = false := by have := HML2.out; simp; omega
          have hili : (i : Int) < (l0.length : Int) := by omega
          have hili1 : (i : Int) < (m.length : Int) := by omega
          have hili3 : (i : Int) < (h.length : Int) := by omega
          have hd1 : decide ((l0.length : Int) ≤ (i : Int)) = false := decide_eq_false (by omega)
          have hd2 : decide ((i : Int) < (0 : Int)) = false := decide_eq_false (by omega)
          obtain ⟨fd, hfd⟩ : ∃ fd, f.data = fd := ⟨_, rfl⟩
          obtain ⟨al, hal⟩ : ∃ al, f.data ++ l2 = al := ⟨_, rfl⟩
          rw [hal] at q1 qC r1 rC
          rw [hfd] at p1 pC hal
          have cv1 := fun n => Kd.C_string (P := Try.prog) (c := e1) Try.underlying30 Try.underlying5 Try.underlying9 (Kd.C_drewN pC n)
          have cv2 := fun n => Kd.C_string (P := Try.prog) (c := e6) Try.underlying30 Try.underlying5 Try.underlying9 (Kd.C_drewN qC n)
          have cv3 := fun n => Kd.C_string (P := Try.prog) (c := e9) Try.underlying30 Try.underlying5 Try.underlying9 (Kd.C_drewN rC n)
          have cv4 := fun n => Kd.C_string (P := Try.prog) (c := c2) Try.underlying30 Try.underlying5 Try.underlying9 (Kd.C_drewN (Kd.C_below HR2.out hB10) n)
          have u1 := bx10.c 1 rfl
          have u6 := by610.c 1 rfl
          have u9 := by10.c 1 rfl
          have hsne : ((strOfNums al).toList != (strOfNums al).toList) = false := by simp
          have hstr : strOfNums fd ++ strOfNums l2 = strOfNums al := by rw [str_append, hal]
          have hfl : fd.length ≤ 3000 := by rw [← hfd]; exact hdl
          have hall : al.length ≤ 6000 := by rw [← hal, List.length_append]; omega
          have hss : (strOfNums fd).size + (strOfNums l2).size ≤ 9223372036854775807 := by rw [str_size, str_size]; omega
          have hso : ∀ W : World, (Op.stringOp .add (strOfNums fd) (strOfNums l2)).run Try.prog W = .ok (.string (strOfNums al)) W := fun W => by rw [run_string_add_sum W _ _ hss, hstr]
          have hadd : ∀ W : World, (binOp .add 9 (.string (strOfNums fd)) (.string (strOfNums l2))).run Try.prog W = .ok (.string (strOfNums al)) W := fun W => by simp [binOp, hso]
          have BX := Lib.hid bx10
          have BY6 := Lib.hid by610
          have BY8 := Lib.hid by810
          have HB10 := Lib.hid hB10
          have HFD := Lib.hid hfd
          have HAL := Lib.hid hal
          clear hF9 hb9 hba bx8 by68 by8 z0 z1 hB8 hB9 hB10 hC10 pC qC rC hfi hmi hhi hgh1 hgh2 hlen3 bx10 by610 by810 by10 hfd hal p0 p2 q0 q2 r0 r2 hdl
          go_wp2_with (fail)
          go_quiet (fail)
          all_goals
            have bX : BoxC (w10.drewN nq) w.heap.size (cellsD a0 (some ad) l0.length c0) 24 := BX.out
            have bY6 : BoxC (w10.drewN nq) w5.heap.size (cellsD a0 (some ad6) m.length c5) 24 := BY6.out
            have bY8 : BoxC (w10.drewN nq) w7.heap.size (cellsD a0 A7 m2.length c7) 24 := BY8.out
            have hB11 : Below w.heap.size w (w10.drewN nq) := pw_below_drewN HB10.out nq
            have hC8' : Kd.C kF (w10.drewN nq) A7 m2.length m2 := Kd.C_drewN HC810.out nq
            have HC6' : Hid (Kd.C kF (w10.drewN nq) (some ad6) m.length m) := Lib.hid (Kd.C_drewN HC610.out nq)
            clear cv1 cv2 cv3 cv4 u1 u6 u9 p1 q1 r1 hstr hss hso hadd hsne
            generalize w10.drewN nq = W1 at *
            have z0 := bY8.c 0 rfl
            have z1 := bY8.c 1 rfl
            have hm2s := may_small HM2.out
            have hm1s := may_small HM1.out
            dsimp only at hm2s hm1s
            have q := cut_calls a0 a1 A7 c7 m2 a4 W1 hC8' hc7 (by omega) (may_smallF HM2.out) (by omega)
            rw [HCUT.out, HFD.out, HAL.out] at q
            obtain ⟨u, hu⟩ : ∃ u, usedF l0 = u := ⟨_, rfl⟩
            obtain ⟨um, hum⟩ : ∃ um, usedF m = um := ⟨_, rfl⟩
            have hu42 : u ≤ 42000 := by have := HU.out; omega
            have hume : um = u + l2.length := by have := HUS.out; omega
            have HUD := Lib.hid (show usedD ⟨a0, l0⟩ = (u : Int) by unfold usedD; rw [if_pos WW.out.may, ← hu])
            have HUA := Lib.hid (show usedD ⟨a0, m⟩ = (um : Int) by unfold usedD; rw [if_pos HM1.out, ← hum])
            have HUM := Lib.hid (show usedF m ≤ 65536 by omega)
            have hsum : IntKind.i64.wrap ((u : Int) + (l2.length : Int)) = (u : Int) + (l2.length : Int) := i64_of (by omega) (by omega)
            have hueq : ((um : Int) == (u : Int) + (l2.length : Int)) = true := by rw [hume]; simp
            have HSUM := Lib.hid hsum
            have HUEQ := Lib.hid hueq
            clear hC8' hm1s hm2s hume hsum hueq hu hum hneq1 hneq2 hd1 hd2
            by_cases hcc : a4 < 0 ∨ a4 > (al.length : Int)
            · rw [if_pos hcc] at q
              have Q := Lib.hid q
              clear q hcc
              go_wp2_with (fail)
              refine Q.out.mono ?_
              clear Q
              rintro e w11 ⟨A11, c11, rfl, hc11, hF11, hb11⟩
              dsimp only at hc11 hF11 ⊢
              have hB11b := hB11.trans (hb11.mono hB11.size)
              obtain ⟨w12, hw12, hba, by12⟩ := box_new w11 (cellsD a0 A11 m2.length c11) 24
              have hbb := hb11.trans (hba.mono hb11.size)
              have hB12 := hB11b.trans (hba.mono hB11b.size)
              have bx12 := bX.below hbb
              have by612 := bY6.below hbb
              have HR12 := Lib.hid (Kd.C_below HR0.out hB12)
              have HC612 := Lib.hid (Kd.C_below HC6'.out hbb)
              have HSS := Lib.hid (show ∀ W, Below w12.heap.size w12 W → W.cell? ⟨w5.heap.size, 0, none⟩ = some (.int .i64 a0) ∧ W.cell? ⟨w5.heap.size, 1, none⟩ = some (.slice (some ad6) m.length c5) ∧ W.cell? ⟨w.heap.size, 0, none⟩ = some (.int .i64 a0) ∧ W.cell? ⟨w.heap.size, 1, none⟩ = some (.slice (some ad) l0.length c0) from fun W h => ⟨(by612.below h).c 0 rfl, (by612.below h).c 1 rfl, (bx12.below h).c 0 rfl, (bx12.below h).c 1 rfl⟩)
              have D0 := Lib.hid (show Below w12.heap.size w12 w12.drew from (Below.refl _ w12).drew)
              have hsum := HSUM.out
              have hueq := HUEQ.out
              clear hF11 hb11 hba by12 hbb bx12 by612 bX bY6 bY8 z0 z1 hB11 hB11b
              go_wp2_with (fail)
              refine wp_region_held_drew (S := (fun W => W.cell? ⟨w5.heap.size, 0, none⟩ = some (.int .i64 a0) ∧ W.cell? ⟨w5.heap.size, 1, none⟩ = some (.slice (some ad6) m.length c5) ∧ W.cell? ⟨w.heap.size, 0, none⟩ = some (.int .i64 a0) ∧ W.cell? ⟨w.heap.size, 1, none⟩ = some (.slice (some ad) l0.length c0))) (by kernel_rfl) (HSS.out _ D0.out) (fun hHeld => ?_)
              refine wpAnyH_take (i := 0) (oi := ?oi0a) (v := ?v0a) ?hi0a (by kernel_rfl) (by kernel_rfl) (by kernel_rfl) ?hQ0a ?hy0a (by assumption) ?rest0a
              case hi0a => (simp only [List.getElem?_toArray, List.getElem?_cons_zero, List.getElem?_cons_succ]; rfl)
              case hQ0a => exact fun _ _ _ h => h
              case hy0a =>
                first
                  | (refine Or.inr ⟨by rfl, ?_⟩; rfl)
                  | (refine Or.inl ⟨by rfl, ?_⟩; intro w hSw; (try dsimp only at hSw); go_simp; done)
                  | (refine Or.inl ⟨by rfl, ?_⟩; intro w hSw; (try dsimp only at hSw); go_simp; with_reducible rfl)
              try simp only [Act.put, List.setIfInBounds_toArray, List.set_cons_zero, List.set_cons_succ]
              refine wpAnyH_take (i := 2) (oi := ?oi2a) (v := ?v2a) ?hi2a (by kernel_rfl) (by kernel_rfl) (by kernel_rfl) ?hQ2a ?hy2a (by assumption) ?rest2a
              case hi2a => (simp only [List.getElem?_toArray, List.getElem?_cons_zero, List.getElem?_cons_succ]; rfl)
              case hQ2a => exact fun _ _ _ h => h
              case hy2a =>
                first
                  | (refine Or.inr ⟨by rfl, ?_⟩; rfl)
                  | (refine Or.inl ⟨by rfl, ?_⟩; intro w hSw; (try dsimp only at hSw); go_simp; done)
                  | (refine Or.inl ⟨by rfl, ?_⟩; intro w hSw; (try dsimp only at hSw); go_simp; with_reducible rfl)
              try simp only [Act.put, List.setIfInBounds_toArray, List.set_cons_zero, List.set_cons_succ]
              refine wpAnyH_take (i := 4) (oi := ?oi4a) (v := ?v4a) ?hi4a (by kernel_rfl) (by kernel_rfl) (by kernel_rfl) ?hQ4a ?hy4a (by assumption) ?rest4a
              case hi4a => (simp only [List.getElem?_toArray, List.getElem?_cons_zero, List.getElem?_cons_succ]; rfl)
              case hQ4a => exact fun _ _ _ h => h
              case hy4a =>
                first
                  | (refine Or.inr ⟨by rfl, ?_⟩; rfl)
                  | (refine Or.inl ⟨by rfl, ?_⟩; intro w hSw; (try dsimp only at hSw); go_simp; done)
                  | (refine Or.inl ⟨by rfl, ?_⟩; intro w hSw; (try dsimp only at hSw); go_simp; with_reducible rfl)
              try simp only [Act.put, List.setIfInBounds_toArray, List.set_cons_zero, List.set_cons_succ]
              refine wpAnyH_take (i := 5) (oi := ?oi5a) (v := ?v5a) ?hi5a (by kernel_rfl) (by kernel_rfl) (by kernel_rfl) ?hQ5a ?hy5a (by assumption) ?rest5a
              case hi5a => (simp only [List.getElem?_toArray, List.getElem?_cons_zero, List.getElem?_cons_succ]; rfl)
              case hQ5a => exact fun _ _ _ h => h
              case hy5a =>
                first
                  | (refine Or.inr ⟨by rfl, ?_⟩; rfl)
                  | (refine Or.inl ⟨by rfl, ?_⟩; intro w hSw; (try dsimp only at hSw); go_simp; done)
                  | (refine Or.inl ⟨by rfl, ?_⟩; intro w hSw; (try dsimp only at hSw); go_simp; with_reducible rfl)
              try simp only [Act.put, List.setIfInBounds_toArray, List.set_cons_zero, List.set_cons_succ]
              refine wpAnyH_ready (rs := [1]) (by kernel_rfl) (by simp) ?_
              refine AllReadyH.cons rfl (fun K hK => ?_) AllReadyH.nil
              go_simp
              go_at_call 18
              refine (usedD_calls a0 (some ad6) c5 m _ (Kd.C_below HC612.out D0.out) hc5 (by have := HUM.out; omega)).mono ?_
              rintro e v1 ⟨rfl, hq1⟩
              rw [HUA.out]
              have D1 := Lib.hid (below_onR hq1 D0.out)
              (try go_wp2_with (fail))
              refine hK.out _ _ (HSS.out _ D1.out) (fun hHeld => ?_)
              clear hK K
              try simp only [Act.put, List.setIfInBounds_toArray, List.set_cons_zero, List.set_cons_succ]
              refine wpAnyH_ready (rs := [3]) (by kernel_rfl) (by simp) ?_
              refine AllReadyH.cons rfl (fun K hK => ?_) AllReadyH.nil
              go_simp
              go_at_call 18
              refine (usedD_calls a0 (some ad) c0 l0 _ (Kd.C_below HR12.out D1.out) hc0 (by have := HU.out; omega)).mono ?_
              rintro e v2 ⟨rfl, hq2⟩
              rw [HUD.out]
              have D2 := Lib.hid (below_onR hq2 D1.out)
              (try go_wp2_with (fail))
              refine hK.out _ _ (HSS.out _ D2.out) (fun hHeld => ?_)
              clear hK K
              try simp only [Act.put, List.setIfInBounds_toArray, List.set_cons_zero, List.set_cons_succ]
              refine wpAnyH_take (i := 6) (oi := ?oi6a) (v := ?v6a) ?hi6a (by kernel_rfl) (by kernel_rfl) (by kernel_rfl) ?hQ6a ?hy6a (by assumption) ?rest6a
              case hi6a => (simp only [List.getElem?_toArray, List.getElem?_cons_zero, List.getElem?_cons_succ]; rfl)
              case hQ6a => exact fun _ _ _ h => h
              case hy6a =>
                first
                  | (refine Or.inr ⟨by rfl, ?_⟩; rfl)
                  | (refine Or.inl ⟨by rfl, ?_⟩; intro w hSw; (try dsimp only at hSw); go_simp; done)
                  | (refine Or.inl ⟨by rfl, ?_⟩; intro w hSw; (try dsimp only at hSw); go_simp; with_reducible rfl)
              try simp only [Act.put, List.setIfInBounds_toArray, List.set_cons_zero, List.set_cons_succ]
              refine wpAnyH_take (i := 7) (oi := ?oi7a) (v := ?v7a) ?hi7a (by kernel_rfl) (by kernel_rfl) (by kernel_rfl) ?hQ7a ?hy7a (by assumption) ?rest7a
              case hi7a => (simp only [List.getElem?_toArray, List.getElem?_cons_zero, List.getElem?_cons_succ]; rfl)
              case hQ7a => exact fun _ _ _ h => h
              case hy7a =>
                first
                  | (refine Or.inr ⟨by rfl, ?_⟩; rfl)
                  | (refine Or.inl ⟨by rfl, ?_⟩; intro w hSw; (try dsimp only at hSw); go_simp; done)
                  | (refine Or.inl ⟨by rfl, ?_⟩; intro w hSw; (try dsimp only at hSw); go_simp; with_reducible rfl)
              try simp only [Act.put, List.setIfInBounds_toArray, List.set_cons_zero, List.set_cons_succ]
              refine wpAnyH_take (i := 8) (oi := ?oi8a) (v := ?v8a) ?hi8a (by kernel_rfl) (by kernel_rfl) (by kernel_rfl) ?hQ8a ?hy8a (by assumption) ?rest8a
              case hi8a => (simp only [List.getElem?_toArray, List.getElem?_cons_zero, List.getElem?_cons_succ]; rfl)
              case hQ8a => exact fun _ _ _ h => h
              case hy8a =>
                first
                  | (refine Or.inr ⟨by rfl, ?_⟩; rfl)
                  | (refine Or.inl ⟨by rfl, ?_⟩; intro w hSw; (try dsimp only at hSw); go_simp; done)
                  | (refine Or.inl ⟨by rfl, ?_⟩; intro w hSw; (try dsimp only at hSw); go_simp; with_reducible rfl)
              try simp only [Act.put, List.setIfInBounds_toArray, List.set_cons_zero, List.set_cons_succ]
              refine wpAnyH_take (i := 9) (oi := ?oi9a) (v := ?v9a) ?hi9a (by kernel_rfl) (by kernel_rfl) (by kernel_rfl) ?hQ9a ?hy9a (by assumption) ?rest9a
              case hi9a => (simp only [List.getElem?_toArray, List.getElem?_cons_zero, List.getElem?_cons_succ]; rfl)
              case hQ9a => exact fun _ _ _ h => h
              case hy9a =>
                first
                  | (refine Or.inr ⟨by rfl, ?_⟩; rfl)
                  | (refine Or.inl ⟨by rfl, ?_⟩; intro w hSw; (try dsimp only at hSw); go_simp; done)
                  | (refine Or.inl ⟨by rfl, ?_⟩; intro w hSw; (try dsimp only at hSw); go_simp; with_reducible rfl)
              try simp only [Act.put, List.setIfInBounds_toArray, List.set_cons_zero, List.set_cons_succ]
              refine wpAnyH_take (i := 10) (oi := ?oi10a) (v := ?v10a) ?hi10a (by kernel_rfl) (by kernel_rfl) (by kernel_rfl) ?hQ10a ?hy10a (by assumption) ?rest10a
              case hi10a => (simp only [List.getElem?_toArray, List.getElem?_cons_zero, List.getElem?_cons_succ]; rfl)
              case hQ10a => exact fun _ _ _ h => h
              case hy10a =>
                first
                  | (refine Or.inr ⟨by rfl, ?_⟩; rfl)
                  | (refine Or.inl ⟨by rfl, ?_⟩; intro w hSw; (try dsimp only at hSw); go_simp; done)
                  | (refine Or.inl ⟨by rfl, ?_⟩; intro w hSw; (try dsimp only at hSw); go_simp; with_reducible rfl)
              try simp only [Act.put, List.setIfInBounds_toArray, List.set_cons_zero, List.set_cons_succ]
              refine wpAnyH_take (i := 11) (oi := ?oi11a) (v := ?v11a) ?hi11a (by kernel_rfl) (by kernel_rfl) (by kernel_rfl) ?hQ11a ?hy11a (by assumption) ?rest11a
              case hi11a => (simp only [List.getElem?_toArray, List.getElem?_cons_zero, List.getElem?_cons_succ]; rfl)
              case hQ11a => exact fun _ _ _ h => h
              case hy11a =>
                first
                  | (refine Or.inr ⟨by rfl, ?_⟩; rfl)
                  | (refine Or.inl ⟨by rfl, ?_⟩; intro w hSw; (try dsimp only at hSw); go_simp; done)
                  | (refine Or.inl ⟨by rfl, ?_⟩; intro w hSw; (try dsimp only at hSw); go_simp; with_reducible rfl)
              try simp only [Act.put, List.setIfInBounds_toArray, List.set_cons_zero, List.set_cons_succ]
              refine wpAnyH_take (i := 12) (oi := ?oi12a) (v := ?v12a) ?hi12a (by kernel_rfl) (by kernel_rfl) (by kernel_rfl) ?hQ12a ?hy12a (by assumption) ?rest12a
              case hi12a => (simp only [List.getElem?_toArray, List.getElem?_cons_zero, List.getElem?_cons_succ]; rfl)
              case hQ12a => exact fun _ _ _ h => h
              case hy12a =>
                first
                  | (refine Or.inr ⟨by rfl, ?_⟩; rfl)
                  | (refine Or.inl ⟨by rfl, ?_⟩; intro w hSw; (try dsimp only at hSw); go_simp; done)
                  | (refine Or.inl ⟨by rfl, ?_⟩; intro w hSw; (try dsimp only at hSw); go_simp; with_reducible rfl)
              try simp only [Act.put, List.setIfInBounds_toArray, List.set_cons_zero, List.set_cons_succ]
              refine wpAnyH_take (i := 13) (oi := ?oi13a) (v := ?v13a) ?hi13a (by kernel_rfl) (by kernel_rfl) (by kernel_rfl) ?hQ13a ?hy13a (by assumption) ?rest13a
              case hi13a => (simp only [List.getElem?_toArray, List.getElem?_cons_zero, List.getElem?_cons_succ]; rfl)
              case hQ13a => exact fun _ _ _ h => h
              case hy13a =>
                first
                  | (refine Or.inr ⟨by rfl, ?_⟩; rfl)
                  | (refine Or.inl ⟨by rfl, ?_⟩; intro w hSw; (try dsimp only at hSw); go_simp; done)
                  | (refine Or.inl ⟨by rfl, ?_⟩; intro w hSw; (try dsimp only at hSw); go_simp; with_reducible rfl)
              try simp only [Act.put, List.setIfInBounds_toArray, List.set_cons_zero, List.set_cons_succ]
              refine wpAnyH_take (i := 14) (oi := ?oi14a) (v := ?v14a) ?hi14a (by kernel_rfl) (by kernel_rfl) (by kernel_rfl) ?hQ14a ?hy14a (by assumption) ?rest14a
              case hi14a => (simp only [List.getElem?_toArray, List.getElem?_cons_zero, List.getElem?_cons_succ]; rfl)
              case hQ14a => exact fun _ _ _ h => h
              case hy14a =>
                first
                  | (refine Or.inr ⟨by rfl, ?_⟩; rfl)
                  | (refine Or.inl ⟨by rfl, ?_⟩; intro w hSw; (try dsimp only at hSw); go_simp; done)
                  | (refine Or.inl ⟨by rfl, ?_⟩; intro w hSw; (try dsimp only at hSw); go_simp; with_reducible rfl)
              try simp only [Act.put, List.setIfInBounds_toArray, List.set_cons_zero, List.set_cons_succ]
              refine wpAnyH_take (i := 15) (oi := ?oi15a) (v := ?v15a) ?hi15a (by kernel_rfl) (by kernel_rfl) (by kernel_rfl) ?hQ15a ?hy15a (by assumption) ?rest15a
              case hi15a => (simp only [List.getElem?_toArray, List.getElem?_cons_zero, List.getElem?_cons_succ]; rfl)
              case hQ15a => exact fun _ _ _ h => h
              case hy15a =>
                first
                  | (refine Or.inr ⟨by rfl, ?_⟩; rfl)
                  | (refine Or.inl ⟨by rfl, ?_⟩; intro w hSw; (try dsimp only at hSw); go_simp; done)
                  | (refine Or.inl ⟨by rfl, ?_⟩; intro w hSw; (try dsimp only at hSw); go_simp; with_reducible rfl)
              try simp only [Act.put, List.setIfInBounds_toArray, List.set_cons_zero, List.set_cons_succ]
              refine wpAnyH_take (i := 16) (oi := ?oi16a) (v := ?v16a) ?hi16a (by kernel_rfl) (by kernel_rfl) (by kernel_rfl) ?hQ16a ?hy16a (by assumption) ?rest16a
              case hi16a => (simp only [List.getElem?_toArray, List.getElem?_cons_zero, List.getElem?_cons_succ]; rfl)
              case hQ16a => exact fun _ _ _ h => h
              case hy16a =>
                first
                  | (refine Or.inr ⟨by rfl, ?_⟩; rfl)
                  | (refine Or.inl ⟨by rfl, ?_⟩; intro w hSw; (try dsimp only at hSw); go_simp; done)
                  | (refine Or.inl ⟨by rfl, ?_⟩; intro w hSw; (try dsimp only at hSw); go_simp; with_reducible rfl)
              try simp only [Act.put, List.setIfInBounds_toArray, List.set_cons_zero, List.set_cons_succ]
              refine wpAnyH_take (i := 17) (oi := ?oi17a) (v := ?v17a) ?hi17a (by kernel_rfl) (by kernel_rfl) (by kernel_rfl) ?hQ17a ?hy17a (by assumption) ?rest17a
              case hi17a => (simp only [List.getElem?_toArray, List.getElem?_cons_zero, List.getElem?_cons_succ]; rfl)
              case hQ17a => exact fun _ _ _ h => h
              case hy17a =>
                first
                  | (refine Or.inr ⟨by rfl, ?_⟩; rfl)
                  | (refine Or.inl ⟨by rfl, ?_⟩; intro w hSw; (try dsimp only at hSw); go_simp; done)
                  | (refine Or.inl ⟨by rfl, ?_⟩; intro w hSw; (try dsimp only at hSw); go_simp; with_reducible rfl)
              try simp only [Act.put, List.setIfInBounds_toArray, List.set_cons_zero, List.set_cons_succ]
              refine wpAnyH_take (i := 18) (oi := ?oi18a) (v := ?v18a) ?hi18a (by kernel_rfl) (by kernel_rfl) (by kernel_rfl) ?hQ18a ?hy18a (by assumption) ?rest18a
              case hi18a => (simp only [List.getElem?_toArray, List.getElem?_cons_zero, List.getElem?_cons_succ]; rfl)
              case hQ18a => exact fun _ _ _ h => h
              case hy18a =>
                first
                  | (refine Or.inr ⟨by rfl, ?_⟩; rfl)
                  | (refine Or.inl ⟨by rfl, ?_⟩; intro w hSw; (try dsimp only at hSw); go_simp; done)
                  | (refine Or.inl ⟨by rfl, ?_⟩; intro w hSw; (try dsimp only at hSw); go_simp; with_reducible rfl)
              try simp only [Act.put, List.setIfInBounds_toArray, List.set_cons_zero, List.set_cons_succ]
              refine wpAnyH_take (i := 19) (oi := ?oi19a) (v := ?v19a) ?hi19a (by kernel_rfl) (by kernel_rfl) (by kernel_rfl) ?hQ19a ?hy19a (by assumption) ?rest19a
              case hi19a => (simp only [List.getElem?_toArray, List.getElem?_cons_zero, List.getElem?_cons_succ]; rfl)
              case hQ19a => exact fun _ _ _ h => h
              case hy19a =>
                first
                  | (refine Or.inr ⟨by rfl, ?_⟩; rfl)
                  | (refine Or.inl ⟨by rfl, ?_⟩; intro w hSw; (try dsimp only at hSw); go_simp; done)
                  | (refine Or.inl ⟨by rfl, ?_⟩; intro w hSw; (try dsimp only at hSw); go_simp; with_reducible rfl)
              try simp only [Act.put, List.setIfInBounds_toArray, List.set_cons_zero, List.set_cons_succ]
              refine wpAnyH_take (i := 20) (oi := ?oi20a) (v := ?v20a) ?hi20a (by kernel_rfl) (by kernel_rfl) (by kernel_rfl) ?hQ20a ?hy20a (by assumption) ?rest20a
              case hi20a => (simp only [List.getElem?_toArray, List.getElem?_cons_zero, List.getElem?_cons_succ]; rfl)
              case hQ20a => exact fun _ _ _ h => h
              case hy20a =>
                first
                  | (refine Or.inr ⟨by rfl, ?_⟩; rfl)
                  | (refine Or.inl ⟨by rfl, ?_⟩; intro w hSw; (try dsimp only at hSw); go_simp; done)
                  | (refine Or.inl ⟨by rfl, ?_⟩; intro w hSw; (try dsimp only at hSw); go_simp; with_reducible rfl)
              try simp only [Act.put, List.setIfInBounds_toArray, List.set_cons_zero, List.set_cons_succ]
              refine wpAnyH_take (i := 21) (oi := ?oi21a) (v := ?v21a) ?hi21a (by kernel_rfl) (by kernel_rfl) (by kernel_rfl) ?hQ21a ?hy21a (by assumption) ?rest21a
              case hi21a => (simp only [List.getElem?_toArray, List.getElem?_cons_zero, List.getElem?_cons_succ]; rfl)
              case hQ21a => exact fun _ _ _ h => h
              case hy21a =>
                first
                  | (refine Or.inr ⟨by rfl, ?_⟩; rfl)
                  | (refine Or.inl ⟨by rfl, ?_⟩; intro w hSw; (try dsimp only at hSw); go_simp; done)
                  | (refine Or.inl ⟨by rfl, ?_⟩; intro w hSw; (try dsimp only at hSw); go_simp; with_reducible rfl)
              try simp only [Act.put, List.setIfInBounds_toArray, List.set_cons_zero, List.set_cons_succ]
              refine wpAnyH_take (i := 22) (oi := ?oi22a) (v := ?v22a) ?hi22a (by kernel_rfl) (by kernel_rfl) (by kernel_rfl) ?hQ22a ?hy22a (by assumption) ?rest22a
              case hi22a => (simp only [List.getElem?_toArray, List.getElem?_cons_zero, List.getElem?_cons_succ]; rfl)
              case hQ22a => exact fun _ _ _ h => h
              case hy22a =>
                first
                  | (refine Or.inr ⟨by rfl, ?_⟩; rfl)
                  | (refine Or.inl ⟨by rfl, ?_⟩; intro w hSw; (try dsimp only at hSw); go_simp; done)
                  | (refine Or.inl ⟨by rfl, ?_⟩; intro w hSw; (try dsimp only at hSw); go_simp; with_reducible rfl)
              try simp only [Act.put, List.setIfInBounds_toArray, List.set_cons_zero, List.set_cons_succ]
              refine wpAnyH_take (i := 23) (oi := ?oi23a) (v := ?v23a) ?hi23a (by kernel_rfl) (by kernel_rfl) (by kernel_rfl) ?hQ23a ?hy23a (by assumption) ?rest23a
              case hi23a => (simp only [List.getElem?_toArray, List.getElem?_cons_zero, List.getElem?_cons_succ]; rfl)
              case hQ23a => exact fun _ _ _ h => h
              case hy23a =>
                first
                  | (refine Or.inr ⟨by rfl, ?_⟩; rfl)
                  | (refine Or.inl ⟨by rfl, ?_⟩; intro w hSw; (try dsimp only at hSw); go_simp; done)
                  | (refine Or.inl ⟨by rfl, ?_⟩; intro w hSw; (try dsimp only at hSw); go_simp; with_reducible rfl)
              try simp only [Act.put, List.setIfInBounds_toArray, List.set_cons_zero, List.set_cons_succ]
              refine wpAnyH_take (i := 24) (oi := ?oi24a) (v := ?v24a) ?hi24a (by kernel_rfl) (by kernel_rfl) (by kernel_rfl) ?hQ24a ?hy24a (by assumption) ?rest24a
              case hi24a => (simp only [List.getElem?_toArray, List.getElem?_cons_zero, List.getElem?_cons_succ]; rfl)
              case hQ24a => exact fun _ _ _ h => h
              case hy24a =>
                first
                  | (refine Or.inr ⟨by rfl, ?_⟩; rfl)
                  | (refine Or.inl ⟨by rfl, ?_⟩; intro w hSw; (try dsimp only at hSw); go_simp; done)
                  | (refine Or.inl ⟨by rfl, ?_⟩; intro w hSw; (try dsimp only at hSw); go_simp; with_reducible rfl)
              try simp only [Act.put, List.setIfInBounds_toArray, List.set_cons_zero, List.set_cons_succ]
              refine wpAnyH_take (i := 25) (oi := ?oi25a) (v := ?v25a) ?hi25a (by kernel_rfl) (by kernel_rfl) (by kernel_rfl) ?hQ25a ?hy25a (by assumption) ?rest25a
              case hi25a => (simp only [List.getElem?_toArray, List.getElem?_cons_zero, List.getElem?_cons_succ]; rfl)
              case hQ25a => exact fun _ _ _ h => h
              case hy25a =>
                first
                  | (refine Or.inr ⟨by rfl, ?_⟩; rfl)
                  | (refine Or.inl ⟨by rfl, ?_⟩; intro w hSw; (try dsimp only at hSw); go_simp; done)
                  | (refine Or.inl ⟨by rfl, ?_⟩; intro w hSw; (try dsimp only at hSw); go_simp; with_reducible rfl)
              try simp only [Act.put, List.setIfInBounds_toArray, List.set_cons_zero, List.set_cons_succ]
              refine wpAnyH_take (i := 26) (oi := ?oi26a) (v := ?v26a) ?hi26a (by kernel_rfl) (by kernel_rfl) (by kernel_rfl) ?hQ26a ?hy26a (by assumption) ?rest26a
              case hi26a => (simp only [List.getElem?_toArray, List.getElem?_cons_zero, List.getElem?_cons_succ]; rfl)
              case hQ26a => exact fun _ _ _ h => h
              case hy26a =>
                first
                  | (refine Or.inr ⟨by rfl, ?_⟩; rfl)
                  | (refine Or.inl ⟨by rfl, ?_⟩; intro w hSw; (try dsimp only at hSw); go_simp; done)
                  | (refine Or.inl ⟨by rfl, ?_⟩; intro w hSw; (try dsimp only at hSw); go_simp; with_reducible rfl)
              try simp only [Act.put, List.setIfInBounds_toArray, List.set_cons_zero, List.set_cons_succ]
              refine wpAnyH_take (i := 27) (oi := ?oi27a) (v := ?v27a) ?hi27a (by kernel_rfl) (by kernel_rfl) (by kernel_rfl) ?hQ27a ?hy27a (by assumption) ?rest27a
              case hi27a => (simp only [List.getElem?_toArray, List.getElem?_cons_zero, List.getElem?_cons_succ]; rfl)
              case hQ27a => exact fun _ _ _ h => h
              case hy27a =>
                first
                  | (refine Or.inr ⟨by rfl, ?_⟩; rfl)
                  | (refine Or.inl ⟨by rfl, ?_⟩; intro w hSw; (try dsimp only at hSw); go_simp; done)
                  | (refine Or.inl ⟨by rfl, ?_⟩; intro w hSw; (try dsimp only at hSw); go_simp; with_reducible rfl)
              try simp only [Act.put, List.setIfInBounds_toArray, List.set_cons_zero, List.set_cons_succ]
              refine wpAnyH_take (i := 28) (oi := ?oi28a) (v := ?v28a) ?hi28a (by kernel_rfl) (by kernel_rfl) (by kernel_rfl) ?hQ28a ?hy28a (by assumption) ?rest28a
              case hi28a => (simp only [List.getElem?_toArray, List.getElem?_cons_zero, List.getElem?_cons_succ]; rfl)
              case hQ28a => exact fun _ _ _ h => h
              case hy28a =>
                first
                  | (refine Or.inr ⟨by rfl, ?_⟩; rfl)
                  | (refine Or.inl ⟨by rfl, ?_⟩; intro w hSw; (try dsimp only at hSw); go_simp; done)
                  | (refine Or.inl ⟨by rfl, ?_⟩; intro w hSw; (try dsimp only at hSw); go_simp; with_reducible rfl)
              try simp only [Act.put, List.setIfInBounds_toArray, List.set_cons_zero, List.set_cons_succ]
              refine wpAnyH_take (i := 29) (oi := ?oi29a) (v := ?v29a) ?hi29a (by kernel_rfl) (by kernel_rfl) (by kernel_rfl) ?hQ29a ?hy29a (by assumption) ?rest29a
              case hi29a => (simp only [List.getElem?_toArray, List.getElem?_cons_zero, List.getElem?_cons_succ]; rfl)
              case hQ29a => exact fun _ _ _ h => h
              case hy29a =>
                first
                  | (refine Or.inr ⟨by rfl, ?_⟩; rfl)
                  | (refine Or.inl ⟨by rfl, ?_⟩; intro w hSw; (try dsimp only at hSw); go_simp; done)
                  | (refine Or.inl ⟨by rfl, ?_⟩; intro w hSw; (try dsimp only at hSw); go_simp; with_reducible rfl)
              try simp only [Act.put, List.setIfInBounds_toArray, List.set_cons_zero, List.set_cons_succ]
              refine wpAnyH_take (i := 30) (oi := ?oi30a) (v := ?v30a) ?hi30a (by kernel_rfl) (by kernel_rfl) (by kernel_rfl) ?hQ30a ?hy30a (by assumption) ?rest30a
              case hi30a => (simp only [List.getElem?_toArray, List.getElem?_cons_zero, List.getElem?_cons_succ]; rfl)
              case hQ30a => exact fun _ _ _ h => h
              case hy30a =>
                first
                  | (refine Or.inr ⟨by rfl, ?_⟩; rfl)
                  | (refine Or.inl ⟨by rfl, ?_⟩; intro w hSw; (try dsimp only at hSw); go_simp; done)
                  | (refine Or.inl ⟨by rfl, ?_⟩; intro w hSw; (try dsimp only at hSw); go_simp; with_reducible rfl)
              try simp only [Act.put, List.setIfInBounds_toArray, List.set_cons_zero, List.set_cons_succ]
              refine wpAnyH_take (i := 31) (oi := ?oi31a) (v := ?v31a) ?hi31a (by kernel_rfl) (by kernel_rfl) (by kernel_rfl) ?hQ31a ?hy31a (by assumption) ?rest31a
              case hi31a => (simp only [List.getElem?_toArray, List.getElem?_cons_zero, List.getElem?_cons_succ]; rfl)
              case hQ31a => exact fun _ _ _ h => h
              case hy31a =>
                first
                  | (refine Or.inr ⟨by rfl, ?_⟩; rfl)
                  | (refine Or.inl ⟨by rfl, ?_⟩; intro w hSw; (try dsimp only at hSw); go_simp; done)
                  | (refine Or.inl ⟨by rfl, ?_⟩; intro w hSw; (try dsimp only at hSw); go_simp; with_reducible rfl)
              try simp only [Act.put, List.setIfInBounds_toArray, List.set_cons_zero, List.set_cons_succ]
              refine wpAnyH_take (i := 32) (oi := ?oi32a) (v := ?v32a) ?hi32a (by kernel_rfl) (by kernel_rfl) (by kernel_rfl) ?hQ32a ?hy32a (by assumption) ?rest32a
              case hi32a => (simp only [List.getElem?_toArray, List.getElem?_cons_zero, List.getElem?_cons_succ]; rfl)
              case hQ32a => exact fun _ _ _ h => h
              case hy32a =>
                first
                  | (refine Or.inr ⟨by rfl, ?_⟩; rfl)
                  | (refine Or.inl ⟨by rfl, ?_⟩; intro w hSw; (try dsimp only at hSw); go_simp; done)
                  | (refine Or.inl ⟨by rfl, ?_⟩; intro w hSw; (try dsimp only at hSw); go_simp; with_reducible rfl)
              try simp only [Act.put, List.setIfInBounds_toArray, List.set_cons_zero, List.set_cons_succ]
              refine wpAnyH_take (i := 33) (oi := ?oi33a) (v := ?v33a) ?hi33a (by kernel_rfl) (by kernel_rfl) (by kernel_rfl) ?hQ33a ?hy33a (by assumption) ?rest33a
              case hi33a => (simp only [List.getElem?_toArray, List.getElem?_cons_zero, List.getElem?_cons_succ]; rfl)
              case hQ33a => exact fun _ _ _ h => h
              case hy33a =>
                first
                  | (refine Or.inr ⟨by rfl, ?_⟩; rfl)
                  | (refine Or.inl ⟨by rfl, ?_⟩; intro w hSw; (try dsimp only at hSw); go_simp; done)
                  | (refine Or.inl ⟨by rfl, ?_⟩; intro w hSw; (try dsimp only at hSw); go_simp; with_reducible rfl)
              try simp only [Act.put, List.setIfInBounds_toArray, List.set_cons_zero, List.set_cons_succ]
              refine wpAnyH_take (i := 34) (oi := ?oi34a) (v := ?v34a) ?hi34a (by kernel_rfl) (by kernel_rfl) (by kernel_rfl) ?hQ34a ?hy34a (by assumption) ?rest34a
              case hi34a => (simp only [List.getElem?_toArray, List.getElem?_cons_zero, List.getElem?_cons_succ]; rfl)
              case hQ34a => exact fun _ _ _ h => h
              case hy34a =>
                first
                  | (refine Or.inr ⟨by rfl, ?_⟩; rfl)
                  | (refine Or.inl ⟨by rfl, ?_⟩; intro w hSw; (try dsimp only at hSw); go_simp; done)
                  | (refine Or.inl ⟨by rfl, ?_⟩; intro w hSw; (try dsimp only at hSw); go_simp; with_reducible rfl)
              try simp only [Act.put, List.setIfInBounds_toArray, List.set_cons_zero, List.set_cons_succ]
              refine wpAnyH_take (i := 35) (oi := ?oi35a) (v := ?v35a) ?hi35a (by kernel_rfl) (by kernel_rfl) (by kernel_rfl) ?hQ35a ?hy35a (by assumption) ?rest35a
              case hi35a => (simp only [List.getElem?_toArray, List.getElem?_cons_zero, List.getElem?_cons_succ]; rfl)
              case hQ35a => exact fun _ _ _ h => h
              case hy35a =>
                first
                  | (refine Or.inr ⟨by rfl, ?_⟩; rfl)
                  | (refine Or.inl ⟨by rfl, ?_⟩; intro w hSw; (try dsimp only at hSw); go_simp; done)
                  | (refine Or.inl ⟨by rfl, ?_⟩; intro w hSw; (try dsimp only at hSw); go_simp; with_reducible rfl)
              try simp only [Act.put, List.setIfInBounds_toArray, List.set_cons_zero, List.set_cons_succ]
              refine wpAnyH_take (i := 36) (oi := ?oi36a) (v := ?v36a) ?hi36a (by kernel_rfl) (by kernel_rfl) (by kernel_rfl) ?hQ36a ?hy36a (by assumption) ?rest36a
              case hi36a => (simp only [List.getElem?_toArray, List.getElem?_cons_zero, List.getElem?_cons_succ]; rfl)
              case hQ36a => exact fun _ _ _ h => h
              case hy36a =>
                first
                  | (refine Or.inr ⟨by rfl, ?_⟩; rfl)
                  | (refine Or.inl ⟨by rfl, ?_⟩; intro w hSw; (try dsimp only at hSw); go_simp; done)
                  | (refine Or.inl ⟨by rfl, ?_⟩; intro w hSw; (try dsimp only at hSw); go_simp; with_reducible rfl)
              try simp only [Act.put, List.setIfInBounds_toArray, List.set_cons_zero, List.set_cons_succ]
              refine wpAnyH_take (i := 37) (oi := ?oi37a) (v := ?v37a) ?hi37a (by kernel_rfl) (by kernel_rfl) (by kernel_rfl) ?hQ37a ?hy37a (by assumption) ?rest37a
              case hi37a => (simp only [List.getElem?_toArray, List.getElem?_cons_zero, List.getElem?_cons_succ]; rfl)
              case hQ37a => exact fun _ _ _ h => h
              case hy37a =>
                first
                  | (refine Or.inr ⟨by rfl, ?_⟩; rfl)
                  | (refine Or.inl ⟨by rfl, ?_⟩; intro w hSw; (try dsimp only at hSw); go_simp; done)
                  | (refine Or.inl ⟨by rfl, ?_⟩; intro w hSw; (try dsimp only at hSw); go_simp; with_reducible rfl)
              try simp only [Act.put, List.setIfInBounds_toArray, List.set_cons_zero, List.set_cons_succ]
              refine wpAnyH_take (i := 38) (oi := ?oi38a) (v := ?v38a) ?hi38a (by kernel_rfl) (by kernel_rfl) (by kernel_rfl) ?hQ38a ?hy38a (by assumption) ?rest38a
              case hi38a => (simp only [List.getElem?_toArray, List.getElem?_cons_zero, List.getElem?_cons_succ]; rfl)
              case hQ38a => exact fun _ _ _ h => h
              case hy38a =>
                first
                  | (refine Or.inr ⟨by rfl, ?_⟩; rfl)
                  | (refine Or.inl ⟨by rfl, ?_⟩; intro w hSw; (try dsimp only at hSw); go_simp; done)
                  | (refine Or.inl ⟨by rfl, ?_⟩; intro w hSw; (try dsimp only at hSw); go_simp; with_reducible rfl)
              try simp only [Act.put, List.setIfInBounds_toArray, List.set_cons_zero, List.set_cons_succ]
              refine wpAnyH_take (i := 39) (oi := ?oi39a) (v := ?v39a) ?hi39a (by kernel_rfl) (by kernel_rfl) (by kernel_rfl) ?hQ39a ?hy39a (by assumption) ?rest39a
              case hi39a => (simp only [List.getElem?_toArray, List.getElem?_cons_zero, List.getElem?_cons_succ]; rfl)
              case hQ39a => exact fun _ _ _ h => h
              case hy39a =>
                first
                  | (refine Or.inr ⟨by rfl, ?_⟩; rfl)
                  | (refine Or.inl ⟨by rfl, ?_⟩; intro w hSw; (try dsimp only at hSw); go_simp; done)
                  | (refine Or.inl ⟨by rfl, ?_⟩; intro w hSw; (try dsimp only at hSw); go_simp; with_reducible rfl)
              try simp only [Act.put, List.setIfInBounds_toArray, List.set_cons_zero, List.set_cons_succ]
              refine wpAnyH_take (i := 40) (oi := ?oi40a) (v := ?v40a) ?hi40a (by kernel_rfl) (by kernel_rfl) (by kernel_rfl) ?hQ40a ?hy40a (by assumption) ?rest40a
              case hi40a => (simp only [List.getElem?_toArray, List.getElem?_cons_zero, List.getElem?_cons_succ]; rfl)
              case hQ40a => exact fun _ _ _ h => h
              case hy40a =>
                first
                  | (refine Or.inr ⟨by rfl, ?_⟩; rfl)
                  | (refine Or.inl ⟨by rfl, ?_⟩; intro w hSw; (try dsimp only at hSw); go_simp; done)
                  | (refine Or.inl ⟨by rfl, ?_⟩; intro w hSw; (try dsimp only at hSw); go_simp; with_reducible rfl)
              try simp only [Act.put, List.setIfInBounds_toArray, List.set_cons_zero, List.set_cons_succ]
              refine wpAnyH_take (i := 41) (oi := ?oi41a) (v := ?v41a) ?hi41a (by kernel_rfl) (by kernel_rfl) (by kernel_rfl) ?hQ41a ?hy41a (by assumption) ?rest41a
              case hi41a => (simp only [List.getElem?_toArray, List.getElem?_cons_zero, List.getElem?_cons_succ]; rfl)
              case hQ41a => exact fun _ _ _ h => h
              case hy41a =>
                first
                  | (refine Or.inr ⟨by rfl, ?_⟩; rfl)
                  | (refine Or.inl ⟨by rfl, ?_⟩; intro w hSw; (try dsimp only at hSw); go_simp; done)
                  | (refine Or.inl ⟨by rfl, ?_⟩; intro w hSw; (try dsimp only at hSw); go_simp; with_reducible rfl)
              try simp only [Act.put, List.setIfInBounds_toArray, List.set_cons_zero, List.set_cons_succ]
              refine wpAnyH_take (i := 42) (oi := ?oi42a) (v := ?v42a) ?hi42a (by kernel_rfl) (by kernel_rfl) (by kernel_rfl) ?hQ42a ?hy42a (by assumption) ?rest42a
              case hi42a => (simp only [List.getElem?_toArray, List.getElem?_cons_zero, List.getElem?_cons_succ]; rfl)
              case hQ42a => exact fun _ _ _ h => h
              case hy42a =>
                first
                  | (refine Or.inr ⟨by rfl, ?_⟩; rfl)
                  | (refine Or.inl ⟨by rfl, ?_⟩; intro w hSw; (try dsimp only at hSw); go_simp; done)
                  | (refine Or.inl ⟨by rfl, ?_⟩; intro w hSw; (try dsimp only at hSw); go_simp; with_reducible rfl)
              try simp only [Act.put, List.setIfInBounds_toArray, List.set_cons_zero, List.set_cons_succ]
              refine wpAnyH_take (i := 43) (oi := ?oi43a) (v := ?v43a) ?hi43a (by kernel_rfl) (by kernel_rfl) (by kernel_rfl) ?hQ43a ?hy43a (by assumption) ?rest43a
              case hi43a => (simp only [List.getElem?_toArray, List.getElem?_cons_zero, List.getElem?_cons_succ]; rfl)
              case hQ43a => exact fun _ _ _ h => h
              case hy43a =>
                first
                  | (refine Or.inr ⟨by rfl, ?_⟩; rfl)
                  | (refine Or.inl ⟨by rfl, ?_⟩; intro w hSw; (try dsimp only at hSw); go_simp; done)
                  | (refine Or.inl ⟨by rfl, ?_⟩; intro w hSw; (try dsimp only at hSw); go_simp; with_reducible rfl)
              try simp only [Act.put, List.setIfInBounds_toArray, List.set_cons_zero, List.set_cons_succ]
              refine wpAnyH_take (i := 44) (oi := ?oi44a) (v := ?v44a) ?hi44a (by kernel_rfl) (by kernel_rfl) (by kernel_rfl) ?hQ44a ?hy44a (by assumption) ?rest44a
              case hi44a => (simp only [List.getElem?_toArray, List.getElem?_cons_zero, List.getElem?_cons_succ]; rfl)
              case hQ44a => exact fun _ _ _ h => h
              case hy44a =>
                first
                  | (refine Or.inr ⟨by rfl, ?_⟩; rfl)
                  | (refine Or.inl ⟨by rfl, ?_⟩; intro w hSw; (try dsimp only at hSw); go_simp; done)
                  | (refine Or.inl ⟨by rfl, ?_⟩; intro w hSw; (try dsimp only at hSw); go_simp; with_reducible rfl)
              try simp only [Act.put, List.setIfInBounds_toArray, List.set_cons_zero, List.set_cons_succ]
              refine wpAnyH_take (i := 45) (oi := ?oi45a) (v := ?v45a) ?hi45a (by kernel_rfl) (by kernel_rfl) (by kernel_rfl) ?hQ45a ?hy45a (by assumption) ?rest45a
              case hi45a => (simp only [List.getElem?_toArray, List.getElem?_cons_zero, List.getElem?_cons_succ]; rfl)
              case hQ45a => exact fun _ _ _ h => h
              case hy45a =>
                first
                  | (refine Or.inr ⟨by rfl, ?_⟩; rfl)
                  | (refine Or.inl ⟨by rfl, ?_⟩; intro w hSw; (try dsimp only at hSw); go_simp; done)
                  | (refine Or.inl ⟨by rfl, ?_⟩; intro w hSw; (try dsimp only at hSw); go_simp; with_reducible rfl)
              try simp only [Act.put, List.setIfInBounds_toArray, List.set_cons_zero, List.set_cons_succ]
              refine wpAnyH_take (i := 46) (oi := ?oi46a) (v := ?v46a) ?hi46a (by kernel_rfl) (by kernel_rfl) (by kernel_rfl) ?hQ46a ?hy46a (by assumption) ?rest46a
              case hi46a => (simp only [List.getElem?_toArray, List.getElem?_cons_zero, List.getElem?_cons_succ]; rfl)
              case hQ46a => exact fun _ _ _ h => h
              case hy46a =>
                first
                  | (refine Or.inr ⟨by rfl, ?_⟩; rfl)
                  | (refine Or.inl ⟨by rfl, ?_⟩; intro w hSw; (try dsimp only at hSw); go_simp; done)
                  | (refine Or.inl ⟨by rfl, ?_⟩; intro w hSw; (try dsimp only at hSw); go_simp; with_reducible rfl)
              try simp only [Act.put, List.setIfInBounds_toArray, List.set_cons_zero, List.set_cons_succ]
              refine wpAnyH_done (by kernel_rfl) ?_ _
              all_goals
                clear hsum
                go_wp2_with (fail)
                go_ret
                exact ⟨by simp, hB12.trans (D2.out.mono hB12.size)⟩
            · rw [if_neg hcc] at q
              obtain ⟨kn, rfl⟩ := Int.eq_ofNat_of_zero_le (show 0 ≤ a4 by omega)
              have hkn : kn ≤ al.length := by omega
              rw [Int.toNat_natCast] at q
              have hkx : (l0.set i ⟨f.no, al.take kn, (kn : Int)⟩)[i]? = some ⟨f.no, al.take kn, (kn : Int)⟩ := List.getElem?_set_self hil
              have hkl : (l0.set i ⟨f.no, al.take kn, (kn : Int)⟩).length = l0.length := List.length_set
              have htk : (al.take kn).length = kn := by rw [List.length_take]; omega
              generalize l0.set i ⟨f.no, al.take kn, (kn : Int)⟩ = kl at *
              have Q := Lib.hid q
              clear q hcc
              go_wp2_with (fail)
              refine Q.out.mono ?_
              clear Q
              rintro e w11 ⟨A11, c11, rfl, hc11, hF11, hb11⟩
              dsimp only at hc11 hF11 ⊢
              have hB11b := hB11.trans (hb11.mono hB11.size)
              obtain ⟨w12, hw12, hba, by12⟩ := box_new w11 (cellsD a0 A11 kl.length c11) 24
              have hbb := hb11.trans (hba.mono hb11.size)
              have hB12 := hB11b.trans (hba.mono hB11b.size)
              have bx12 := bX.below hbb
              have by612 := bY6.below hbb
              have HR12 := Lib.hid (Kd.C_below HR0.out hB12)
              have HC612 := Lib.hid (Kd.C_below HC6'.out hbb)
              have hC12 := (hF11.below hba).now
              have hilk : i < kl.length := by omega
              have hki : kl[i] = ⟨f.no, al.take kn, (kn : Int)⟩ := by
                have := List.getElem?_eq_getElem hilk
                rw [hkx] at this
                injection this with this
                exact this.symm
              obtain ⟨ad12, D12, e12, rfl, p0, p1, p2, -, -⟩ := file_at hC12 i hilk
              rw [hki] at p1 p2
              dsimp only at p1 p2
              rw [htk] at p1
              have hkli : (i : Int) < (kl.length : Int) := by omega
              have hkeq : ((kl.length : Int) == (l0.length : Int)) = true := by rw [hkl]; simp
              have hkn0 : (0 : Int) ≤ (kn : Int) := by omega
              have hkn1 : ((kn : Int) == (kn : Int)) = true := by simp
              have HSS := Lib.hid (show ∀ W, Below w12.heap.size w12 W → W.cell? ⟨w5.heap.size, 0, none⟩ = some (.int .i64 a0) ∧ W.cell? ⟨w5.heap.size, 1, none⟩ = some (.slice (some ad6) m.length c5) ∧ W.cell? ⟨w.heap.size, 0, none⟩ = some (.int .i64 a0) ∧ W.cell? ⟨w.heap.size, 1, none⟩ = some (.slice (some ad) l0.length c0) ∧ W.cell? ⟨w11.heap.size, 1, none⟩ = some (.slice (some ad12) kl.length c11) ∧ W.cell? ⟨(ad12.add (i * 3)).block, (ad12.add (i * 3)).off + 1, none⟩ = some (.slice D12 kn e12) ∧ W.cell? ⟨(ad12.add (i * 3)).block, (ad12.add (i * 3)).off + 2, none⟩ = some (.int .i64 (kn : Int)) from fun W h => ⟨(by612.below h).c 0 rfl, (by612.below h).c 1 rfl, (bx12.below h).c 0 rfl, (bx12.below h).c 1 rfl, (by12.below h).c 1 rfl, cell_belowD p1 h, cell_belowD p2 h⟩)
              have D0 := Lib.hid (show Below w12.heap.size w12 w12.drew from (Below.refl _ w12).drew)
              have hsum := HSUM.out
              have hueq := HUEQ.out
              clear hF11 hb11 hba by12 hbb bx12 by612 bX bY6 bY8 z0 z1 hB11 hB11b hC12 hki hkx p0 p1 p2 htk hkl
              go_wp2_with (fail)
              refine wp_region_held_drew (S := (fun W => W.cell? ⟨w5.heap.size, 0, none⟩ = some (.int .i64 a0) ∧ W.cell? ⟨w5.heap.size, 1, none⟩ = some (.slice (some ad6) m.length c5) ∧ W.cell? ⟨w.heap.size, 0, none⟩ = some (.int .i64 a0) ∧ W.cell? ⟨w.heap.size, 1, none⟩ = some (.slice (some ad) l0.length c0) ∧ W.cell? ⟨w11.heap.size, 1, none⟩ = some (.slice (some ad12) kl.length c11) ∧ W.cell? ⟨(ad12.add (i * 3)).block, (ad12.add (i * 3)).off + 1, none⟩ = some (.slice D12 kn e12) ∧ W.cell? ⟨(ad12.add (i * 3)).block, (ad12.add (i * 3)).off + 2, none⟩ = some (.int .i64 (kn : Int)))) (by kernel_rfl) (HSS.out _ D0.out) (fun hHeld => ?_)
              refine wpAnyH_take (i := 0) (oi := ?oi0b) (v := ?v0b) ?hi0b (by kernel_rfl) (by kernel_rfl) (by kernel_rfl) ?hQ0b ?hy0b (by assumption) ?rest0b
              case hi0b => (simp only [List.getElem?_toArray, List.getElem?_cons_zero, List.getElem?_cons_succ]; rfl)
              case hQ0b => exact fun _ _ _ h => h
              case hy0b =>
                first
                  | (refine Or.inr ⟨by rfl, ?_⟩; rfl)
                  | (refine Or.inl ⟨by rfl, ?_⟩; intro w hSw; (try dsimp only at hSw); go_simp; done)
                  | (refine Or.inl ⟨by rfl, ?_⟩; intro w hSw; (try dsimp only at hSw); go_simp; with_reducible rfl)
              try simp only [Act.put, List.setIfInBounds_toArray, List.set_cons_zero, List.set_cons_succ]
              refine wpAnyH_take (i := 2) (oi := ?oi2b) (v := ?v2b) ?hi2b (by kernel_rfl) (by kernel_rfl) (by kernel_rfl) ?hQ2b ?hy2b (by assumption) ?rest2b
              case hi2b => (simp only [List.getElem?_toArray, List.getElem?_cons_zero, List.getElem?_cons_succ]; rfl)
              case hQ2b => exact fun _ _ _ h => h
              case hy2b =>
                first
                  | (refine Or.inr ⟨by rfl, ?_⟩; rfl)
                  | (refine Or.inl ⟨by rfl, ?_⟩; intro w hSw; (try dsimp only at hSw); go_simp; done)
                  | (refine Or.inl ⟨by rfl, ?_⟩; intro w hSw; (try dsimp only at hSw); go_simp; with_reducible rfl)
              try simp only [Act.put, List.setIfInBounds_toArray, List.set_cons_zero, List.set_cons_succ]
              refine wpAnyH_take (i := 4) (oi := ?oi4b) (v := ?v4b) ?hi4b (by kernel_rfl) (by kernel_rfl) (by kernel_rfl) ?hQ4b ?hy4b (by assumption) ?rest4b
              case hi4b => (simp only [List.getElem?_toArray, List.getElem?_cons_zero, List.getElem?_cons_succ]; rfl)
              case hQ4b => exact fun _ _ _ h => h
              case hy4b =>
                first
                  | (refine Or.inr ⟨by rfl, ?_⟩; rfl)
                  | (refine Or.inl ⟨by rfl, ?_⟩; intro w hSw; (try dsimp only at hSw); go_simp; done)
                  | (refine Or.inl ⟨by rfl, ?_⟩; intro w hSw; (try dsimp only at hSw); go_simp; with_reducible rfl)
              try simp only [Act.put, List.setIfInBounds_toArray, List.set_cons_zero, List.set_cons_succ]
              refine wpAnyH_take (i := 5) (oi := ?oi5b) (v := ?v5b) ?hi5b (by kernel_rfl) (by kernel_rfl) (by kernel_rfl) ?hQ5b ?hy5b (by assumption) ?rest5b
              case hi5b => (simp only [List.getElem?_toArray, List.getElem?_cons_zero, List.getElem?_cons_succ]; rfl)
              case hQ5b => exact fun _ _ _ h => h
              case hy5b =>
                first
                  | (refine Or.inr ⟨by rfl, ?_⟩; rfl)
                  | (refine Or.inl ⟨by rfl, ?_⟩; intro w hSw; (try dsimp only at hSw); go_simp; done)
                  | (refine Or.inl ⟨by rfl, ?_⟩; intro w hSw; (try dsimp only at hSw); go_simp; with_reducible rfl)
              try simp only [Act.put, List.setIfInBounds_toArray, List.set_cons_zero, List.set_cons_succ]
              refine wpAnyH_ready (rs := [1]) (by kernel_rfl) (by simp) ?_
              refine AllReadyH.cons rfl (fun K hK => ?_) AllReadyH.nil
              go_simp
              go_at_call 18
              refine (usedD_calls a0 (some ad6) c5 m _ (Kd.C_below HC612.out D0.out) hc5 (by have := HUM.out; omega)).mono ?_
              rintro e v1 ⟨rfl, hq1⟩
              rw [HUA.out]
              have D1 := Lib.hid (below_onR hq1 D0.out)
              (try go_wp2_with (fail))
              refine hK.out _ _ (HSS.out _ D1.out) (fun hHeld => ?_)
              clear hK K
              try simp only [Act.put, List.setIfInBounds_toArray, List.set_cons_zero, List.set_cons_succ]
              refine wpAnyH_ready (rs := [3]) (by kernel_rfl) (by simp) ?_
              refine AllReadyH.cons rfl (fun K hK => ?_) AllReadyH.nil
              go_simp
              go_at_call 18
              refine (usedD_calls a0 (some ad) c0 l0 _ (Kd.C_below HR12.out D1.out) hc0 (by have := HU.out; omega)).mono ?_
              rintro e v2 ⟨rfl, hq2⟩
              rw [HUD.out]
              have D2 := Lib.hid (below_onR hq2 D1.out)
              (try go_wp2_with (fail))
              refine hK.out _ _ (HSS.out _ D2.out) (fun hHeld => ?_)
              clear hK K
              try simp only [Act.put, List.setIfInBounds_toArray, List.set_cons_zero, List.set_cons_succ]
              refine wpAnyH_take (i := 6) (oi := ?oi6b) (v := ?v6b) ?hi6b (by kernel_rfl) (by kernel_rfl) (by kernel_rfl) ?hQ6b ?hy6b (by assumption) ?rest6b
              case hi6b => (simp only [List.getElem?_toArray, List.getElem?_cons_zero, List.getElem?_cons_succ]; rfl)
              case hQ6b => exact fun _ _ _ h => h
              case hy6b =>
                first
                  | (refine Or.inr ⟨by rfl, ?_⟩; rfl)
                  | (refine Or.inl ⟨by rfl, ?_⟩; intro w hSw; (try dsimp only at hSw); go_simp; done)
                  | (refine Or.inl ⟨by rfl, ?_⟩; intro w hSw; (try dsimp only at hSw); go_simp; with_reducible rfl)
              try simp only [Act.put, List.setIfInBounds_toArray, List.set_cons_zero, List.set_cons_succ]
              refine wpAnyH_take (i := 7) (oi := ?oi7b) (v := ?v7b) ?hi7b (by kernel_rfl) (by kernel_rfl) (by kernel_rfl) ?hQ7b ?hy7b (by assumption) ?rest7b
              case hi7b => (simp only [List.getElem?_toArray, List.getElem?_cons_zero, List.getElem?_cons_succ]; rfl)
              case hQ7b => exact fun _ _ _ h => h
              case hy7b =>
                first
                  | (refine Or.inr ⟨by rfl, ?_⟩; rfl)
                  | (refine Or.inl ⟨by rfl, ?_⟩; intro w hSw; (try dsimp only at hSw); go_simp; done)
                  | (refine Or.inl ⟨by rfl, ?_⟩; intro w hSw; (try dsimp only at hSw); go_simp; with_reducible rfl)
              try simp only [Act.put, List.setIfInBounds_toArray, List.set_cons_zero, List.set_cons_succ]
              refine wpAnyH_take (i := 8) (oi := ?oi8b) (v := ?v8b) ?hi8b (by kernel_rfl) (by kernel_rfl) (by kernel_rfl) ?hQ8b ?hy8b (by assumption) ?rest8b
              case hi8b => (simp only [List.getElem?_toArray, List.getElem?_cons_zero, List.getElem?_cons_succ]; rfl)
              case hQ8b => exact fun _ _ _ h => h
              case hy8b =>
                first
                  | (refine Or.inr ⟨by rfl, ?_⟩; rfl)
                  | (refine Or.inl ⟨by rfl, ?_⟩; intro w hSw; (try dsimp only at hSw); go_simp; done)
                  | (refine Or.inl ⟨by rfl, ?_⟩; intro w hSw; (try dsimp only at hSw); go_simp; with_reducible rfl)
              try simp only [Act.put, List.setIfInBounds_toArray, List.set_cons_zero, List.set_cons_succ]
              refine wpAnyH_take (i := 9) (oi := ?oi9b) (v := ?v9b) ?hi9b (by kernel_rfl) (by kernel_rfl) (by kernel_rfl) ?hQ9b ?hy9b (by assumption) ?rest9b
              case hi9b => (simp only [List.getElem?_toArray, List.getElem?_cons_zero, List.getElem?_cons_succ]; rfl)
              case hQ9b => exact fun _ _ _ h => h
              case hy9b =>
                first
                  | (refine Or.inr ⟨by rfl, ?_⟩; rfl)
                  | (refine Or.inl ⟨by rfl, ?_⟩; intro w hSw; (try dsimp only at hSw); go_simp; done)
                  | (refine Or.inl ⟨by rfl, ?_⟩; intro w hSw; (try dsimp only at hSw); go_simp; with_reducible rfl)
              try simp only [Act.put, List.setIfInBounds_toArray, List.set_cons_zero, List.set_cons_succ]
              refine wpAnyH_take (i := 10) (oi := ?oi10b) (v := ?v10b) ?hi10b (by kernel_rfl) (by kernel_rfl) (by kernel_rfl) ?hQ10b ?hy10b (by assumption) ?rest10b
              case hi10b => (simp only [List.getElem?_toArray, List.getElem?_cons_zero, List.getElem?_cons_succ]; rfl)
              case hQ10b => exact fun _ _ _ h => h
              case hy10b =>
                first
                  | (refine Or.inr ⟨by rfl, ?_⟩; rfl)
                  | (refine Or.inl ⟨by rfl, ?_⟩; intro w hSw; (try dsimp only at hSw); go_simp; done)
                  | (refine Or.inl ⟨by rfl, ?_⟩; intro w hSw; (try dsimp only at hSw); go_simp; with_reducible rfl)
              try simp only [Act.put, List.setIfInBounds_toArray, List.set_cons_zero, List.set_cons_succ]
              refine wpAnyH_take (i := 11) (oi := ?oi11b) (v := ?v11b) ?hi11b (by kernel_rfl) (by kernel_rfl) (by kernel_rfl) ?hQ11b ?hy11b (by assumption) ?rest11b
              case hi11b => (simp only [List.getElem?_toArray, List.getElem?_cons_zero, List.getElem?_cons_succ]; rfl)
              case hQ11b => exact fun _ _ _ h => h
              case hy11b =>
                first
                  | (refine Or.inr ⟨by rfl, ?_⟩; rfl)
                  | (refine Or.inl ⟨by rfl, ?_⟩; intro w hSw; (try dsimp only at hSw); go_simp; done)
                  | (refine Or.inl ⟨by rfl, ?_⟩; intro w hSw; (try dsimp only at hSw); go_simp; with_reducible rfl)
              try simp only [Act.put, List.setIfInBounds_toArray, List.set_cons_zero, List.set_cons_succ]
              refine wpAnyH_take (i := 12) (oi := ?oi12b) (v := ?v12b) ?hi12b (by kernel_rfl) (by kernel_rfl) (by kernel_rfl) ?hQ12b ?hy12b (by assumption) ?rest12b
              case hi12b => (simp only [List.getElem?_toArray, List.getElem?_cons_zero, List.getElem?_cons_succ]; rfl)
              case hQ12b => exact fun _ _ _ h => h
              case hy12b =>
                first
                  | (refine Or.inr ⟨by rfl, ?_⟩; rfl)
                  | (refine Or.inl ⟨by rfl, ?_⟩; intro w hSw; (try dsimp only at hSw); go_simp; done)
                  | (refine Or.inl ⟨by rfl, ?_⟩; intro w hSw; (try dsimp only at hSw); go_simp; with_reducible rfl)
              try simp only [Act.put, List.setIfInBounds_toArray, List.set_cons_zero, List.set_cons_succ]
              refine wpAnyH_take (i := 13) (oi := ?oi13b) (v := ?v13b) ?hi13b (by kernel_rfl) (by kernel_rfl) (by kernel_rfl) ?hQ13b ?hy13b (by assumption) ?rest13b
              case hi13b => (simp only [List.getElem?_toArray, List.getElem?_cons_zero, List.getElem?_cons_succ]; rfl)
              case hQ13b => exact fun _ _ _ h => h
              case hy13b =>
                first
                  | (refine Or.inr ⟨by rfl, ?_⟩; rfl)
                  | (refine Or.inl ⟨by rfl, ?_⟩; intro w hSw; (try dsimp only at hSw); go_simp; done)
                  | (refine Or.inl ⟨by rfl, ?_⟩; intro w hSw; (try dsimp only at hSw); go_simp; with_reducible rfl)
              try simp only [Act.put, List.setIfInBounds_toArray, List.set_cons_zero, List.set_cons_succ]
              refine wpAnyH_take (i := 14) (oi := ?oi14b) (v := ?v14b) ?hi14b (by kernel_rfl) (by kernel_rfl) (by kernel_rfl) ?hQ14b ?hy14b (by assumption) ?rest14b
              case hi14b => (simp only [List.getElem?_toArray, List.getElem?_cons_zero, List.getElem?_cons_succ]; rfl)
              case hQ14b => exact fun _ _ _ h => h
              case hy14b =>
                first
                  | (refine Or.inr ⟨by rfl, ?_⟩; rfl)
                  | (refine Or.inl ⟨by rfl, ?_⟩; intro w hSw; (try dsimp only at hSw); go_simp; done)
                  | (refine Or.inl ⟨by rfl, ?_⟩; intro w hSw; (try dsimp only at hSw); go_simp; with_reducible rfl)
              try simp only [Act.put, List.setIfInBounds_toArray, List.set_cons_zero, List.set_cons_succ]
              refine wpAnyH_take (i := 15) (oi := ?oi15b) (v := ?v15b) ?hi15b (by kernel_rfl) (by kernel_rfl) (by kernel_rfl) ?hQ15b ?hy15b (by assumption) ?rest15b
              case hi15b => (simp only [List.getElem?_toArray, List.getElem?_cons_zero, List.getElem?_cons_succ]; rfl)
              case hQ15b => exact fun _ _ _ h => h
              case hy15b =>
                first
                  | (refine Or.inr ⟨by rfl, ?_⟩; rfl)
                  | (refine Or.inl ⟨by rfl, ?_⟩; intro w hSw; (try dsimp only at hSw); go_simp; done)
                  | (refine Or.inl ⟨by rfl, ?_⟩; intro w hSw; (try dsimp only at hSw); go_simp; with_reducible rfl)
              try simp only [Act.put, List.setIfInBounds_toArray, List.set_cons_zero, List.set_cons_succ]
              refine wpAnyH_take (i := 16) (oi := ?oi16b) (v := ?v16b) ?hi16b (by kernel_rfl) (by kernel_rfl) (by kernel_rfl) ?hQ16b ?hy16b (by assumption) ?rest16b
              case hi16b => (simp only [List.getElem?_toArray, List.getElem?_cons_zero, List.getElem?_cons_succ]; rfl)
              case hQ16b => exact fun _ _ _ h => h
              case hy16b =>
                first
                  | (refine Or.inr ⟨by rfl, ?_⟩; rfl)
                  | (refine Or.inl ⟨by rfl, ?_⟩; intro w hSw; (try dsimp only at hSw); go_simp; done)
                  | (refine Or.inl ⟨by rfl, ?_⟩; intro w hSw; (try dsimp only at hSw); go_simp; with_reducible rfl)
              try simp only [Act.put, List.setIfInBounds_toArray, List.set_cons_zero, List.set_cons_succ]
              refine wpAnyH_take (i := 17) (oi := ?oi17b) (v := ?v17b) ?hi17b (by kernel_rfl) (by kernel_rfl) (by kernel_rfl) ?hQ17b ?hy17b (by assumption) ?rest17b
              case hi17b => (simp only [List.getElem?_toArray, List.getElem?_cons_zero, List.getElem?_cons_succ]; rfl)
              case hQ17b => exact fun _ _ _ h => h
              case hy17b =>
                first
                  | (refine Or.inr ⟨by rfl, ?_⟩; rfl)
                  | (refine Or.inl ⟨by rfl, ?_⟩; intro w hSw; (try dsimp only at hSw); go_simp; done)
                  | (refine Or.inl ⟨by rfl, ?_⟩; intro w hSw; (try dsimp only at hSw); go_simp; with_reducible rfl)
              try simp only [Act.put, List.setIfInBounds_toArray, List.set_cons_zero, List.set_cons_succ]
              refine wpAnyH_take (i := 18) (oi := ?oi18b) (v := ?v18b) ?hi18b (by kernel_rfl) (by kernel_rfl) (by kernel_rfl) ?hQ18b ?hy18b (by assumption) ?rest18b
              case hi18b => (simp only [List.getElem?_toArray, List.getElem?_cons_zero, List.getElem?_cons_succ]; rfl)
              case hQ18b => exact fun _ _ _ h => h
              case hy18b =>
                first
                  | (refine Or.inr ⟨by rfl, ?_⟩; rfl)
                  | (refine Or.inl ⟨by rfl, ?_⟩; intro w hSw; (try dsimp only at hSw); go_simp; done)
                  | (refine Or.inl ⟨by rfl, ?_⟩; intro w hSw; (try dsimp only at hSw); go_simp; with_reducible rfl)
              try simp only [Act.put, List.setIfInBounds_toArray, List.set_cons_zero, List.set_cons_succ]
              refine wpAnyH_take (i := 19) (oi := ?oi19b) (v := ?v19b) ?hi19b (by kernel_rfl) (by kernel_rfl) (by kernel_rfl) ?hQ19b ?hy19b (by assumption) ?rest19b
              case hi19b => (simp only [List.getElem?_toArray, List.getElem?_cons_zero, List.getElem?_cons_succ]; rfl)
              case hQ19b => exact fun _ _ _ h => h
              case hy19b =>
                first
                  | (refine Or.inr ⟨by rfl, ?_⟩; rfl)
                  | (refine Or.inl ⟨by rfl, ?_⟩; intro w hSw; (try dsimp only at hSw); go_simp; done)
                  | (refine Or.inl ⟨by rfl, ?_⟩; intro w hSw; (try dsimp only at hSw); go_simp; with_reducible rfl)
              try simp only [Act.put, List.setIfInBounds_toArray, List.set_cons_zero, List.set_cons_succ]
              refine wpAnyH_take (i := 20) (oi := ?oi20b) (v := ?v20b) ?hi20b (by kernel_rfl) (by kernel_rfl) (by kernel_rfl) ?hQ20b ?hy20b (by assumption) ?rest20b
              case hi20b => (simp only [List.getElem?_toArray, List.getElem?_cons_zero, List.getElem?_cons_succ]; rfl)
              case hQ20b => exact fun _ _ _ h => h
              case hy20b =>
                first
                  | (refine Or.inr ⟨by rfl, ?_⟩; rfl)
                  | (refine Or.inl ⟨by rfl, ?_⟩; intro w hSw; (try dsimp only at hSw); go_simp; done)
                  | (refine Or.inl ⟨by rfl, ?_⟩; intro w hSw; (try dsimp only at hSw); go_simp; with_reducible rfl)
              try simp only [Act.put, List.setIfInBounds_toArray, List.set_cons_zero, List.set_cons_succ]
              refine wpAnyH_take (i := 21) (oi := ?oi21b) (v := ?v21b) ?hi21b (by kernel_rfl) (by kernel_rfl) (by kernel_rfl) ?hQ21b ?hy21b (by assumption) ?rest21b
              case hi21b => (simp only [List.getElem?_toArray, List.getElem?_cons_zero, List.getElem?_cons_succ]; rfl)
              case hQ21b => exact fun _ _ _ h => h
              case hy21b =>
                first
                  | (refine Or.inr ⟨by rfl, ?_⟩; rfl)
                  | (refine Or.inl ⟨by rfl, ?_⟩; intro w hSw; (try dsimp only at hSw); go_simp; done)
                  | (refine Or.inl ⟨by rfl, ?_⟩; intro w hSw; (try dsimp only at hSw); go_simp; with_reducible rfl)
              try simp only [Act.put, List.setIfInBounds_toArray, List.set_cons_zero, List.set_cons_succ]
              refine wpAnyH_take (i := 22) (oi := ?oi22b) (v := ?v22b) ?hi22b (by kernel_rfl) (by kernel_rfl) (by kernel_rfl) ?hQ22b ?hy22b (by assumption) ?rest22b
              case hi22b => (simp only [List.getElem?_toArray, List.getElem?_cons_zero, List.getElem?_cons_succ]; rfl)
              case hQ22b => exact fun _ _ _ h => h
              case hy22b =>
                first
                  | (refine Or.inr ⟨by rfl, ?_⟩; rfl)
                  | (refine Or.inl ⟨by rfl, ?_⟩; intro w hSw; (try dsimp only at hSw); go_simp; done)
                  | (refine Or.inl ⟨by rfl, ?_⟩; intro w hSw; (try dsimp only at hSw); go_simp; with_reducible rfl)
              try simp only [Act.put, List.setIfInBounds_toArray, List.set_cons_zero, List.set_cons_succ]
              refine wpAnyH_take (i := 23) (oi := ?oi23b) (v := ?v23b) ?hi23b (by kernel_rfl) (by kernel_rfl) (by kernel_rfl) ?hQ23b ?hy23b (by assumption) ?rest23b
              case hi23b => (simp only [List.getElem?_toArray, List.getElem?_cons_zero, List.getElem?_cons_succ]; rfl)
              case hQ23b => exact fun _ _ _ h => h
              case hy23b =>
                first
                  | (refine Or.inr ⟨by rfl, ?_⟩; rfl)
                  | (refine Or.inl ⟨by rfl, ?_⟩; intro w hSw; (try dsimp only at hSw); go_simp; done)
                  | (refine Or.inl ⟨by rfl, ?_⟩; intro w hSw; (try dsimp only at hSw); go_simp; with_reducible rfl)
              try simp only [Act.put, List.setIfInBounds_toArray, List.set_cons_zero, List.set_cons_succ]
              refine wpAnyH_take (i := 24) (oi := ?oi24b) (v := ?v24b) ?hi24b (by kernel_rfl) (by kernel_rfl) (by kernel_rfl) ?hQ24b ?hy24b (by assumption) ?rest24b
              case hi24b => (simp only [List.getElem?_toArray, List.getElem?_cons_zero, List.getElem?_cons_succ]; rfl)
              case hQ24b => exact fun _ _ _ h => h
              case hy24b =>
                first
                  | (refine Or.inr ⟨by rfl, ?_⟩; rfl)
                  | (refine Or.inl ⟨by rfl, ?_⟩; intro w hSw; (try dsimp only at hSw); go_simp; done)
                  | (refine Or.inl ⟨by rfl, ?_⟩; intro w hSw; (try dsimp only at hSw); go_simp; with_reducible rfl)
              try simp only [Act.put, List.setIfInBounds_toArray, List.set_cons_zero, List.set_cons_succ]
              refine wpAnyH_take (i := 25) (oi := ?oi25b) (v := ?v25b) ?hi25b (by kernel_rfl) (by kernel_rfl) (by kernel_rfl) ?hQ25b ?hy25b (by assumption) ?rest25b
              case hi25b => (simp only [List.getElem?_toArray, List.getElem?_cons_zero, List.getElem?_cons_succ]; rfl)
              case hQ25b => exact fun _ _ _ h => h
              case hy25b =>
                first
                  | (refine Or.inr ⟨by rfl, ?_⟩; rfl)
                  | (refine Or.inl ⟨by rfl, ?_⟩; intro w hSw; (try dsimp only at hSw); go_simp; done)
                  | (refine Or.inl ⟨by rfl, ?_⟩; intro w hSw; (try dsimp only at hSw); go_simp; with_reducible rfl)
              try simp only [Act.put, List.setIfInBounds_toArray, List.set_cons_zero, List.set_cons_succ]
              refine wpAnyH_take (i := 26) (oi := ?oi26b) (v := ?v26b) ?hi26b (by kernel_rfl) (by kernel_rfl) (by kernel_rfl) ?hQ26b ?hy26b (by assumption) ?rest26b
              case hi26b => (simp only [List.getElem?_toArray, List.getElem?_cons_zero, List.getElem?_cons_succ]; rfl)
              case hQ26b => exact fun _ _ _ h => h
              case hy26b =>
                first
                  | (refine Or.inr ⟨by rfl, ?_⟩; rfl)
                  | (refine Or.inl ⟨by rfl, ?_⟩; intro w hSw; (try dsimp only at hSw); go_simp; done)
                  | (refine Or.inl ⟨by rfl, ?_⟩; intro w hSw; (try dsimp only at hSw); go_simp; with_reducible rfl)
              try simp only [Act.put, List.setIfInBounds_toArray, List.set_cons_zero, List.set_cons_succ]
              refine wpAnyH_take (i := 27) (oi := ?oi27b) (v := ?v27b) ?hi27b (by kernel_rfl) (by kernel_rfl) (by kernel_rfl) ?hQ27b ?hy27b (by assumption) ?rest27b
              case hi27b => (simp only [List.getElem?_toArray, List.getElem?_cons_zero, List.getElem?_cons_succ]; rfl)
              case hQ27b => exact fun _ _ _ h => h
              case hy27b =>
                first
                  | (refine Or.inr ⟨by rfl, ?_⟩; rfl)
                  | (refine Or.inl ⟨by rfl, ?_⟩; intro w hSw; (try dsimp only at hSw); go_simp; done)
                  | (refine Or.inl ⟨by rfl, ?_⟩; intro w hSw; (try dsimp only at hSw); go_simp; with_reducible rfl)
              try simp only [Act.put, List.setIfInBounds_toArray, List.set_cons_zero, List.set_cons_succ]
              refine wpAnyH_take (i := 28) (oi := ?oi28b) (v := ?v28b) ?hi28b (by kernel_rfl) (by kernel_rfl) (by kernel_rfl) ?hQ28b ?hy28b (by assumption) ?rest28b
              case hi28b => (simp only [List.getElem?_toArray, List.getElem?_cons_zero, List.getElem?_cons_succ]; rfl)
              case hQ28b => exact fun _ _ _ h => h
              case hy28b =>
                first
                  | (refine Or.inr ⟨by rfl, ?_⟩; rfl)
                  | (refine Or.inl ⟨by rfl, ?_⟩; intro w hSw; (try dsimp only at hSw); go_simp; done)
                  | (refine Or.inl ⟨by rfl, ?_⟩; intro w hSw; (try dsimp only at hSw); go_simp; with_reducible rfl)
              try simp only [Act.put, List.setIfInBounds_toArray, List.set_cons_zero, List.set_cons_succ]
              refine wpAnyH_take (i := 29) (oi := ?oi29b) (v := ?v29b) ?hi29b (by kernel_rfl) (by kernel_rfl) (by kernel_rfl) ?hQ29b ?hy29b (by assumption) ?rest29b
              case hi29b => (simp only [List.getElem?_toArray, List.getElem?_cons_zero, List.getElem?_cons_succ]; rfl)
              case hQ29b => exact fun _ _ _ h => h
              case hy29b =>
                first
                  | (refine Or.inr ⟨by rfl, ?_⟩; rfl)
                  | (refine Or.inl ⟨by rfl, ?_⟩; intro w hSw; (try dsimp only at hSw); go_simp; done)
                  | (refine Or.inl ⟨by rfl, ?_⟩; intro w hSw; (try dsimp only at hSw); go_simp; with_reducible rfl)
              try simp only [Act.put, List.setIfInBounds_toArray, List.set_cons_zero, List.set_cons_succ]
              refine wpAnyH_take (i := 30) (oi := ?oi30b) (v := ?v30b) ?hi30b (by kernel_rfl) (by kernel_rfl) (by kernel_rfl) ?hQ30b ?hy30b (by assumption) ?rest30b
              case hi30b => (simp only [List.getElem?_toArray, List.getElem?_cons_zero, List.getElem?_cons_succ]; rfl)
              case hQ30b => exact fun _ _ _ h => h
              case hy30b =>
                first
                  | (refine Or.inr ⟨by rfl, ?_⟩; rfl)
                  | (refine Or.inl ⟨by rfl, ?_⟩; intro w hSw; (try dsimp only at hSw); go_simp; done)
                  | (refine Or.inl ⟨by rfl, ?_⟩; intro w hSw; (try dsimp only at hSw); go_simp; with_reducible rfl)
              try simp only [Act.put, List.setIfInBounds_toArray, List.set_cons_zero, List.set_cons_succ]
              refine wpAnyH_take (i := 31) (oi := ?oi31b) (v := ?v31b) ?hi31b (by kernel_rfl) (by kernel_rfl) (by kernel_rfl) ?hQ31b ?hy31b (by assumption) ?rest31b
              case hi31b => (simp only [List.getElem?_toArray, List.getElem?_cons_zero, List.getElem?_cons_succ]; rfl)
              case hQ31b => exact fun _ _ _ h => h
              case hy31b =>
                first
                  | (refine Or.inr ⟨by rfl, ?_⟩; rfl)
                  | (refine Or.inl ⟨by rfl, ?_⟩; intro w hSw; (try dsimp only at hSw); go_simp; done)
                  | (refine Or.inl ⟨by rfl, ?_⟩; intro w hSw; (try dsimp only at hSw); go_simp; with_reducible rfl)
              try simp only [Act.put, List.setIfInBounds_toArray, List.set_cons_zero, List.set_cons_succ]
              refine wpAnyH_take (i := 32) (oi := ?oi32b) (v := ?v32b) ?hi32b (by kernel_rfl) (by kernel_rfl) (by kernel_rfl) ?hQ32b ?hy32b (by assumption) ?rest32b
              case hi32b => (simp only [List.getElem?_toArray, List.getElem?_cons_zero, List.getElem?_cons_succ]; rfl)
              case hQ32b => exact fun _ _ _ h => h
              case hy32b =>
                first
                  | (refine Or.inr ⟨by rfl, ?_⟩; rfl)
                  | (refine Or.inl ⟨by rfl, ?_⟩; intro w hSw; (try dsimp only at hSw); go_simp; done)
                  | (refine Or.inl ⟨by rfl, ?_⟩; intro w hSw; (try dsimp only at hSw); go_simp; with_reducible rfl)
              try simp only [Act.put, List.setIfInBounds_toArray, List.set_cons_zero, List.set_cons_succ]
              refine wpAnyH_take (i := 33) (oi := ?oi33b) (v := ?v33b) ?hi33b (by kernel_rfl) (by kernel_rfl) (by kernel_rfl) ?hQ33b ?hy33b (by assumption) ?rest33b
              case hi33b => (simp only [List.getElem?_toArray, List.getElem?_cons_zero, List.getElem?_cons_succ]; rfl)
              case hQ33b => exact fun _ _ _ h => h
              case hy33b =>
                first
                  | (refine Or.inr ⟨by rfl, ?_⟩; rfl)
                  | (refine Or.inl ⟨by rfl, ?_⟩; intro w hSw; (try dsimp only at hSw); go_simp; done)
                  | (refine Or.inl ⟨by rfl, ?_⟩; intro w hSw; (try dsimp only at hSw); go_simp; with_reducible rfl)
              try simp only [Act.put, List.setIfInBounds_toArray, List.set_cons_zero, List.set_cons_succ]
              refine wpAnyH_take (i := 34) (oi := ?oi34b) (v := ?v34b) ?hi34b (by kernel_rfl) (by kernel_rfl) (by kernel_rfl) ?hQ34b ?hy34b (by assumption) ?rest34b
              case hi34b => (simp only [List.getElem?_toArray, List.getElem?_cons_zero, List.getElem?_cons_succ]; rfl)
              case hQ34b => exact fun _ _ _ h => h
              case hy34b =>
                first
                  | (refine Or.inr ⟨by rfl, ?_⟩; rfl)
                  | (refine Or.inl ⟨by rfl, ?_⟩; intro w hSw; (try dsimp only at hSw); go_simp; done)
                  | (refine Or.inl ⟨by rfl, ?_⟩; intro w hSw; (try dsimp only at hSw); go_simp; with_reducible rfl)
              try simp only [Act.put, List.setIfInBounds_toArray, List.set_cons_zero, List.set_cons_succ]
              refine wpAnyH_take (i := 35) (oi := ?oi35b) (v := ?v35b) ?hi35b (by kernel_rfl) (by kernel_rfl) (by kernel_rfl) ?hQ35b ?hy35b (by assumption) ?rest35b
              case hi35b => (simp only [List.getElem?_toArray, List.getElem?_cons_zero, List.getElem?_cons_succ]; rfl)
              case hQ35b => exact fun _ _ _ h => h
              case hy35b =>
                first
                  | (refine Or.inr ⟨by rfl, ?_⟩; rfl)
                  | (refine Or.inl ⟨by rfl, ?_⟩; intro w hSw; (try dsimp only at hSw); go_simp; done)
                  | (refine Or.inl ⟨by rfl, ?_⟩; intro w hSw; (try dsimp only at hSw); go_simp; with_reducible rfl)
              try simp only [Act.put, List.setIfInBounds_toArray, List.set_cons_zero, List.set_cons_succ]
              refine wpAnyH_take (i := 36) (oi := ?oi36b) (v := ?v36b) ?hi36b (by kernel_rfl) (by kernel_rfl) (by kernel_rfl) ?hQ36b ?hy36b (by assumption) ?rest36b
              case hi36b => (simp only [List.getElem?_toArray, List.getElem?_cons_zero, List.getElem?_cons_succ]; rfl)
              case hQ36b => exact fun _ _ _ h => h
              case hy36b =>
                first
                  | (refine Or.inr ⟨by rfl, ?_⟩; rfl)
                  | (refine Or.inl ⟨by rfl, ?_⟩; intro w hSw; (try dsimp only at hSw); go_simp; done)
                  | (refine Or.inl ⟨by rfl, ?_⟩; intro w hSw; (try dsimp only at hSw); go_simp; with_reducible rfl)
              try simp only [Act.put, List.setIfInBounds_toArray, List.set_cons_zero, List.set_cons_succ]
              refine wpAnyH_take (i := 37) (oi := ?oi37b) (v := ?v37b) ?hi37b (by kernel_rfl) (by kernel_rfl) (by kernel_rfl) ?hQ37b ?hy37b (by assumption) ?rest37b
              case hi37b => (simp only [List.getElem?_toArray, List.getElem?_cons_zero, List.getElem?_cons_succ]; rfl)
              case hQ37b => exact fun _ _ _ h => h
              case hy37b =>
                first
                  | (refine Or.inr ⟨by rfl, ?_⟩; rfl)
                  | (refine Or.inl ⟨by rfl, ?_⟩; intro w hSw; (try dsimp only at hSw); go_simp; done)
                  | (refine Or.inl ⟨by rfl, ?_⟩; intro w hSw; (try dsimp only at hSw); go_simp; with_reducible rfl)
              try simp only [Act.put, List.setIfInBounds_toArray, List.set_cons_zero, List.set_cons_succ]
              refine wpAnyH_take (i := 38) (oi := ?oi38b) (v := ?v38b) ?hi38b (by kernel_rfl) (by kernel_rfl) (by kernel_rfl) ?hQ38b ?hy38b (by assumption) ?rest38b
              case hi38b => (simp only [List.getElem?_toArray, List.getElem?_cons_zero, List.getElem?_cons_succ]; rfl)
              case hQ38b => exact fun _ _ _ h => h
              case hy38b =>
                first
                  | (refine Or.inr ⟨by rfl, ?_⟩; rfl)
                  | (refine Or.inl ⟨by rfl, ?_⟩; intro w hSw; (try dsimp only at hSw); go_simp; done)
                  | (refine Or.inl ⟨by rfl, ?_⟩; intro w hSw; (try dsimp only at hSw); go_simp; with_reducible rfl)
              try simp only [Act.put, List.setIfInBounds_toArray, List.set_cons_zero, List.set_cons_succ]
              refine wpAnyH_take (i := 39) (oi := ?oi39b) (v := ?v39b) ?hi39b (by kernel_rfl) (by kernel_rfl) (by kernel_rfl) ?hQ39b ?hy39b (by assumption) ?rest39b
              case hi39b => (simp only [List.getElem?_toArray, List.getElem?_cons_zero, List.getElem?_cons_succ]; rfl)
              case hQ39b => exact fun _ _ _ h => h
              case hy39b =>
                first
                  | (refine Or.inr ⟨by rfl, ?_⟩; rfl)
                  | (refine Or.inl ⟨by rfl, ?_⟩; intro w hSw; (try dsimp only at hSw); go_simp; done)
                  | (refine Or.inl ⟨by rfl, ?_⟩; intro w hSw; (try dsimp only at hSw); go_simp; with_reducible rfl)
              try simp only [Act.put, List.setIfInBounds_toArray, List.set_cons_zero, List.set_cons_succ]
              refine wpAnyH_take (i := 40) (oi := ?oi40b) (v := ?v40b) ?hi40b (by kernel_rfl) (by kernel_rfl) (by kernel_rfl) ?hQ40b ?hy40b (by assumption) ?rest40b
              case hi40b => (simp only [List.getElem?_toArray, List.getElem?_cons_zero, List.getElem?_cons_succ]; rfl)
              case hQ40b => exact fun _ _ _ h => h
              case hy40b =>
                first
                  | (refine Or.inr ⟨by rfl, ?_⟩; rfl)
                  | (refine Or.inl ⟨by rfl, ?_⟩; intro w hSw; (try dsimp only at hSw); go_simp; done)
                  | (refine Or.inl ⟨by rfl, ?_⟩; intro w hSw; (try dsimp only at hSw); go_simp; with_reducible rfl)
              try simp only [Act.put, List.setIfInBounds_toArray, List.set_cons_zero, List.set_cons_succ]
              refine wpAnyH_take (i := 41) (oi := ?oi41b) (v := ?v41b) ?hi41b (by kernel_rfl) (by kernel_rfl) (by kernel_rfl) ?hQ41b ?hy41b (by assumption) ?rest41b
              case hi41b => (simp only [List.getElem?_toArray, List.getElem?_cons_zero, List.getElem?_cons_succ]; rfl)
              case hQ41b => exact fun _ _ _ h => h
              case hy41b =>
                first
                  | (refine Or.inr ⟨by rfl, ?_⟩; rfl)
                  | (refine Or.inl ⟨by rfl, ?_⟩; intro w hSw; (try dsimp only at hSw); go_simp; done)
                  | (refine Or.inl ⟨by rfl, ?_⟩; intro w hSw; (try dsimp only at hSw); go_simp; with_reducible rfl)
              try simp only [Act.put, List.setIfInBounds_toArray, List.set_cons_zero, List.set_cons_succ]
              refine wpAnyH_take (i := 42) (oi := ?oi42b) (v := ?v42b) ?hi42b (by kernel_rfl) (by kernel_rfl) (by kernel_rfl) ?hQ42b ?hy42b (by assumption) ?rest42b
              case hi42b => (simp only [List.getElem?_toArray, List.getElem?_cons_zero, List.getElem?_cons_succ]; rfl)
              case hQ42b => exact fun _ _ _ h => h
              case hy42b =>
                first
                  | (refine Or.inr ⟨by rfl, ?_⟩; rfl)
                  | (refine Or.inl ⟨by rfl, ?_⟩; intro w hSw; (try dsimp only at hSw); go_simp; done)
                  | (refine Or.inl ⟨by rfl, ?_⟩; intro w hSw; (try dsimp only at hSw); go_simp; with_reducible rfl)
              try simp only [Act.put, List.setIfInBounds_toArray, List.set_cons_zero, List.set_cons_succ]
              refine wpAnyH_take (i := 43) (oi := ?oi43b) (v := ?v43b) ?hi43b (by kernel_rfl) (by kernel_rfl) (by kernel_rfl) ?hQ43b ?hy43b (by assumption) ?rest43b
              case hi43b => (simp only [List.getElem?_toArray, List.getElem?_cons_zero, List.getElem?_cons_succ]; rfl)
              case hQ43b => exact fun _ _ _ h => h
              case hy43b =>
                first
                  | (refine Or.inr ⟨by rfl, ?_⟩; rfl)
                  | (refine Or.inl ⟨by rfl, ?_⟩; intro w hSw; (try dsimp only at hSw); go_simp; done)
                  | (refine Or.inl ⟨by rfl, ?_⟩; intro w hSw; (try dsimp only at hSw); go_simp; with_reducible rfl)
              try simp only [Act.put, List.setIfInBounds_toArray, List.set_cons_zero, List.set_cons_succ]
              refine wpAnyH_take (i := 44) (oi := ?oi44b) (v := ?v44b) ?hi44b (by kernel_rfl) (by kernel_rfl) (by kernel_rfl) ?hQ44b ?hy44b (by assumption) ?rest44b
              case hi44b => (simp only [List.getElem?_toArray, List.getElem?_cons_zero, List.getElem?_cons_succ]; rfl)
              case hQ44b => exact fun _ _ _ h => h
              case hy44b =>
                first
                  | (refine Or.inr ⟨by rfl, ?_⟩; rfl)
                  | (refine Or.inl ⟨by rfl, ?_⟩; intro w hSw; (try dsimp only at hSw); go_simp; done)
                  | (refine Or.inl ⟨by rfl, ?_⟩; intro w hSw; (try dsimp only at hSw); go_simp; with_reducible rfl)
              try simp only [Act.put, List.setIfInBounds_toArray, List.set_cons_zero, List.set_cons_succ]
              refine wpAnyH_take (i := 45) (oi := ?oi45b) (v := ?v45b) ?hi45b (by kernel_rfl) (by kernel_rfl) (by kernel_rfl) ?hQ45b ?hy45b (by assumption) ?rest45b
              case hi45b => (simp only [List.getElem?_toArray, List.getElem?_cons_zero, List.getElem?_cons_succ]; rfl)
              case hQ45b => exact fun _ _ _ h => h
              case hy45b =>
                first
                  | (refine Or.inr ⟨by rfl, ?_⟩; rfl)
                  | (refine Or.inl ⟨by rfl, ?_⟩; intro w hSw; (try dsimp only at hSw); go_simp; done)
                  | (refine Or.inl ⟨by rfl, ?_⟩; intro w hSw; (try dsimp only at hSw); go_simp; with_reducible rfl)
              try simp only [Act.put, List.setIfInBounds_toArray, List.set_cons_zero, List.set_cons_succ]
              refine wpAnyH_take (i := 46) (oi := ?oi46b) (v := ?v46b) ?hi46b (by kernel_rfl) (by kernel_rfl) (by kernel_rfl) ?hQ46b ?hy46b (by assumption) ?rest46b
              case hi46b => (simp only [List.getElem?_toArray, List.getElem?_cons_zero, List.getElem?_cons_succ]; rfl)
              case hQ46b => exact fun _ _ _ h => h
              case hy46b =>
                first
                  | (refine Or.inr ⟨by rfl, ?_⟩; rfl)
                  | (refine Or.inl ⟨by rfl, ?_⟩; intro w hSw; (try dsimp only at hSw); go_simp; done)
                  | (refine Or.inl ⟨by rfl, ?_⟩; intro w hSw; (try dsimp only at hSw); go_simp; with_reducible rfl)
              try simp only [Act.put, List.setIfInBounds_toArray, List.set_cons_zero, List.set_cons_succ]
              refine wpAnyH_done (by kernel_rfl) ?_ _
              all_goals
                clear hsum
                go_wp2_with (fail)
                go_ret
                exact ⟨by simp, hB12.trans (D2.out.mono hB12.size)⟩

        · have q2 := herr he
          skip
          generalize writeD ⟨a0, l0⟩ a1 l2 = r at *
          obtain ⟨rd, er⟩ := r
          dsimp only at q2 he
          subst q2
          have hne : (er != 0) = true := by simpa using he
          have Q := Lib.hid q
          have q9 : ∀ fd, fd = findD ⟨a0, l0⟩ a1 → True := fun _ _ => trivial
          generalize findD ⟨a0, l0⟩ a1 = fd at *
          clear q herr he q9
          go_wp2_with (fail)
          refine Q.out.mono ?_
          clear Q
          rintro e w5 ⟨A5, c5, rfl, hc5, hF5, hb5⟩
          dsimp only at hc5 hF5 ⊢
          have hB5 := hB4.trans (hb5.mono hB4.size)
          obtain ⟨w6, hw6, hba, by6⟩ := box_new w5 (cellsD a0 A5 l0.length c5) 24
          have bx6 := (bx.below hb5).below hba
          have hB6 := hB5.trans (hba.mono hB5.size)
          have hC6 := (hF5.below hba).now
          have y0 := by6.c 0 rfl
          have y1 := by6.c 1 rfl
          have v0 := bx6.c 0 rfl
          have v1 := bx6.c 1 rfl
          have q := same_calls a0 a0 A5 c5 l0 A0 c0 l0 w6 hC6 hc5 (Kd.C_below HR0.out hB6) hc0 HSM.out
          rw [decide_eq_true (show (⟨a0, l0⟩ : Dk) = ⟨a0, l0⟩ from rfl)] at q
          have Q := Lib.hid q
          clear q hC6 hF5 hb5 hba bx x0 x1 hB5 hB4
          go_wp2_with (fail)
          refine Q.out.mono ?_
          rintro e w7 ⟨rfl, hb7⟩
          have hB7 := hB6.trans (hb7.mono hB6.size)
          clear hb7
          go_wp2_with (fail)
          go_ret
          exact ⟨rfl, hB7⟩
      · have h3i : (60 : Int) < (l3.length : Int) := by omega
        go_wp2_with (fail)
        go_ret
        exact ⟨rfl, hB2⟩
    · have h2i : (3000 : Int) < (l2.length : Int) := by omega
      go_wp2_with (fail)
      go_ret
      exact ⟨rfl, hB2⟩
  · rw [decide_eq_false hf]
    go_wp2_with (fail)
    go_ret
    exact ⟨rfl, hB2⟩
end Go.Proofs.Ytahiigcofgnncaa.H
