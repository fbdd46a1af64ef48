import Derived.Test.YtnicndnbloohhaaRecAw
import Derived.Test.YtnicndnbloohhaaRecO
import Derived.Deep.RegionHeld3
import Derived.Deep.QuietTactic
import Derived.BigQuiet
import Derived.OpenShut
import Derived.Test.YtnicndnbloohhaaRecRS
/-! The law RecTells, walked. -/
namespace Go.Proofs.Ytnicndnbloohhaa.H
open Go.RowKit Moor Go.Proofs.YtnicndnbloohhaaW.PrintWords Go.Proofs.YtnicndnbloohhaaW.PrintLast Go.Proofs.YtnicndnbloohhaaW.PrintMore
set_option linter.unusedVariables false
set_option linter.unusedSimpArgs false

theorem lit_rec2 {W : World} {t : TypeId} {k k' : Int} {A A' : Option Addr} {c c' : Nat} {l l' : List Int} (h : Kd.C (Kd.int .u8) W A l.length l) (hc : l.length ≤ c) (h' : Kd.C (Kd.int .u8) W A' l'.length l') (hc' : l'.length ≤ c') :
    Kd.C kR (W.alloc (.cells #[.int .i64 k, .slice A l.length c, .int .i64 k', .slice A' l'.length c'] t)) (some ⟨W.heap.size, 0, none⟩) ([⟨k, l⟩, ⟨k', l'⟩].map toS : List Sr).length ([⟨k, l⟩, ⟨k', l'⟩].map toS) := by
  refine ⟨rfl, by simp, fun _ => ⟨_, rfl, fun j q hj => ?_⟩⟩
  have hz : kR.sz = 2 := rfl
  match j with
  | 0 =>
    obtain rfl : toS ⟨k, l⟩ = q := by simpa using hj
    refine ⟨[.int .i64 k, .slice A l.length c], rfl, B.k24_mk _ (toS ⟨k, l⟩) hc (Kd.C_alloc h _), fun i u hu => ?_⟩
    rw [hz, add_plain, blk_cell (heap_alloc_new W _)]
    match i with
    | 0 => simpa using hu
    | 1 => simpa using hu
    | i + 2 => simp at hu
  | 1 =>
    obtain rfl : toS ⟨k', l'⟩ = q := by simpa using hj
    refine ⟨[.int .i64 k', .slice A' l'.length c'], rfl, B.k24_mk _ (toS ⟨k', l'⟩) hc' (Kd.C_alloc h' _), fun i u hu => ?_⟩
    rw [hz, add_plain, blk_cell (heap_alloc_new W _)]
    match i with
    | 0 => simpa using hu
    | 1 => simpa using hu
    | i + 2 => simp at hu
  | j + 2 => simp at hj
theorem rGet_ok {b : List Int} (ho : okB b) (a : Int) : okB (rGet b a).1.body := by
  rcases rGet_cases b ho a with ⟨-, -, -, k, -, -, -, h⟩ | ⟨-, h, -⟩
  · have h1 : okB (joinR [(rGet b a).1]) := by
      have : joinR [(rGet b a).1] = recBytes (rGet b a).1 := by simp [joinR]
      rw [this, h]
      exact okB_take (okB_drop ho _) _
    exact okB_joined h1 _ (by simp)
  · rw [h]
    intro x hx
    cases hx

set_option maxRecDepth 100000 in
set_option maxHeartbeats 16000000 in
theorem recTells_walk (a0 : Int) (A0 : Option Addr) (c0 : Nat) (l0 : List Int) (a1 : Int) (A1 : Option Addr) (c1 : Nat) (l1 : List Int) (A2 : Option Addr) (c2 : Nat) (l2 : List Int) (a3 : Int) (w : World) (hr0 : Kd.C (Kd.int .u8) w A0 l0.length l0) (hc0 : l0.length ≤ c0) (ho0 : okB l0) (hr1 : Kd.C (Kd.int .u8) w A1 l1.length l1) (hc1 : l1.length ≤ c1) (ho1 : okB l1) (hr2 : Kd.C (Kd.int .u8) w A2 l2.length l2) (hc2 : l2.length ≤ c2) (ho2 : okB l2) (hs2 : l2.length ≤ 140737488351232) (hw3 : (Lit.int .i64 a3).wf = true) :
    Calls Try.prog 3 #[.agg #[.int .i64 a0, .slice A0 l0.length c0], .agg #[.int .i64 a1, .slice A1 l1.length c1], .slice A2 l2.length c2, .int .i64 a3] w fun e w' => e = .returned (.bool true) ∧ Below w.heap.size w w' := by
  go_enter Try.func3, Try.ntmps3
  go_wp2_with (fail)
  have hbx0 := BoxR.new w (.int .i64 a0) (.slice A0 l0.length c0)
  have hBa0 : Below w.heap.size w (w.alloc (.cells #[.int .i64 a0, .slice A0 l0.length c0] 24)) := below_alloc (Below.refl _ _) _
  have hbx1 := BoxR.new (w.alloc (.cells #[.int .i64 a0, .slice A0 l0.length c0] 24)) (.int .i64 a1) (.slice A1 l1.length c1)
  rw [World.size_alloc] at hbx1
  replace hbx0 := BoxR.below hbx0 (below_alloc (Below.refl _ _) (.cells #[.int .i64 a1, .slice A1 l1.length c1] 24))
  have hBa1 : Below w.heap.size w ((w.alloc (.cells #[.int .i64 a0, .slice A0 l0.length c0] 24)).alloc (.cells #[.int .i64 a1, .slice A1 l1.length c1] 24)) := below_alloc hBa0 _
  refine (awake_true _).mono ?_
  rintro e w1 ⟨rfl, hb1⟩
  have hB1 : Below w.heap.size w w1 := hBa1.trans (hb1.mono hBa1.size)
  replace hbx0 := BoxR.below hbx0 hb1
  have x00 := hbx0.c0
  have x01 := hbx0.c1
  replace hbx1 := BoxR.below hbx1 hb1
  have x10 := hbx1.c0
  have x11 := hbx1.c1
  clear hb1
  have HR0 := Lib.hid (Kd.C_below hr0 hB1)
  have HR1 := Lib.hid (Kd.C_below hr1 hB1)
  have HR2 := Lib.hid (Kd.C_below hr2 hB1)
  clear hr0 hr1 hr2
  obtain ⟨b5, hb5⟩ : ∃ b, fewR [⟨a0, l0⟩, ⟨a1, l1⟩] 2 = b := ⟨_, rfl⟩
  have HB5 := Lib.hid hb5
  clear hb5
  have hLA : Below w1.heap.size w1 (w1.alloc (.cells #[.int .i64 a0, .slice A0 l0.length c0, .int .i64 a1, .slice A1 l1.length c1] 24)) := below_alloc (Below.refl _ _) _
  go_wp2_with (fail)
  have q := few_calls [⟨a0, l0⟩, ⟨a1, l1⟩] 2 b5 HB5.out (some ⟨w1.heap.size, 0, none⟩) 2 _ (lit_rec2 (t := 24) HR0.out hc0 HR1.out hc1) (Nat.le_refl _) (by simp)
  refine q.mono ?_
  clear q
  rintro e w2 ⟨rfl, hb2⟩
  replace hb2 := below_onR hb2 hLA
  clear hLA
  replace hbx0 := BoxR.below hbx0 hb2
  clear x00 x01
  have x00 := hbx0.c0
  have x01 := hbx0.c1
  replace hbx1 := BoxR.below hbx1 hb2
  clear x10 x11
  have x10 := hbx1.c0
  have x11 := hbx1.c1
  replace HR0 := Lib.hid (Kd.C_below HR0.out hb2)
  replace HR1 := Lib.hid (Kd.C_below HR1.out hb2)
  replace HR2 := Lib.hid (Kd.C_below HR2.out hb2)
  have hB2 : Below w.heap.size w w2 := hB1.trans (hb2.mono hB1.size)
  clear hb2
  by_cases q5 : fewR [⟨a0, l0⟩, ⟨a1, l1⟩] 2 = true
  · skip
    obtain rfl : b5 = true := by rw [← HB5.out]; exact q5
    clear q5
    by_cases g2 : l2.length ≤ 3000
    · skip
      have gi2 : ¬ (3000 : Int) < (l2.length : Int) := by omega
      obtain ⟨P, hP⟩ : ∃ P, rPut ⟨a0, l0⟩ = P := ⟨_, rfl⟩
      have hPo := rPut_ok (r := ⟨a0, l0⟩) ho0
      rw [hP] at hPo
      have HP := Lib.hid hP
      clear hP
      obtain ⟨g, hg⟩ : ∃ g, rGet l2 a3 = g := ⟨_, rfl⟩
      have hgo : okB g.1.body := by rw [← hg]; exact rGet_ok ho2 a3
      have HG := Lib.hid hg
      clear hg
      obtain ⟨s1, s2, s3, s4⟩ := rScan_ok ho2
      have hxo : ∀ r ∈ (rScan l2).1, okB r.body := okB_joined (by rw [s3]; exact okB_take ho2 _)
      have hxl : (rScan l2).1.length ≤ 3000 := by
        have h1 := joinR_long (rScan l2).1
        rw [s3, List.length_take] at h1
        omega
      clear s1 s2 s3 s4
      obtain ⟨x, sn⟩ : ∃ x, rScan l2 = x := ⟨_, rfl⟩
      rw [sn] at hxo hxl
      have HSN := Lib.hid sn
      clear sn
      obtain ⟨bb, hbb⟩ : ∃ b, decide ((⟨a0, l0⟩ : Rc) = ⟨a1, l1⟩) = b := ⟨_, rfl⟩
      have HBB := Lib.hid hbb
      clear hbb
      go_wp2_with (fail)
      have q := rput_calls ⟨a0, l0⟩ A0 c0 w2 HR0.out hc0 ho0
      rw [HP.out] at q
      refine q.mono ?_
      clear q
      rintro e w3 ⟨A3, c3, rfl, hc3, hC3, hb3⟩
      dsimp only at hc3 hC3 ⊢
      replace hbx0 := BoxR.below hbx0 hb3
      clear x00 x01
      have x00 := hbx0.c0
      have x01 := hbx0.c1
      replace hbx1 := BoxR.below hbx1 hb3
      clear x10 x11
      have x10 := hbx1.c0
      have x11 := hbx1.c1
      replace HR0 := Lib.hid (Kd.C_below HR0.out hb3)
      replace HR1 := Lib.hid (Kd.C_below HR1.out hb3)
      replace HR2 := Lib.hid (Kd.C_below HR2.out hb3)
      have hB3 : Below w.heap.size w w3 := hB2.trans (hb3.mono hB2.size)
      clear hb3
      have HC3 := Lib.hid hC3
      clear hC3
      go_wp2_with (fail)
      have q := refput_calls ⟨a0, l0⟩ A0 c0 w3 HR0.out hc0 ho0
      rw [HP.out] at q
      refine q.mono ?_
      clear q
      rintro e w4 ⟨A4, c4, rfl, hc4, hC4, hb4⟩
      dsimp only at hc4 hC4 ⊢
      replace hbx0 := BoxR.below hbx0 hb4
      clear x00 x01
      have x00 := hbx0.c0
      have x01 := hbx0.c1
      replace hbx1 := BoxR.below hbx1 hb4
      clear x10 x11
      have x10 := hbx1.c0
      have x11 := hbx1.c1
      replace HR0 := Lib.hid (Kd.C_below HR0.out hb4)
      replace HR1 := Lib.hid (Kd.C_below HR1.out hb4)
      replace HR2 := Lib.hid (Kd.C_below HR2.out hb4)
      replace HC3 := Lib.hid (Kd.C_below HC3.out hb4)
      have hB4 : Below w.heap.size w w4 := hB3.trans (hb4.mono hB3.size)
      clear hb4
      have HC4 := Lib.hid hC4
      clear hC4
      go_wp2_with (fail)
      have q := recGet_calls A2 c2 l2 a3 w4 HR2.out hc2 ho2 (by omega)
      rw [HG.out] at q
      refine q.mono ?_
      clear q
      rintro e w5 ⟨A5, c5, rfl, hc5, hC5, hb5, -⟩
      dsimp only at hc5 hC5 ⊢
      replace hbx0 := BoxR.below hbx0 hb5
      clear x00 x01
      have x00 := hbx0.c0
      have x01 := hbx0.c1
      replace hbx1 := BoxR.below hbx1 hb5
      clear x10 x11
      have x10 := hbx1.c0
      have x11 := hbx1.c1
      replace HR0 := Lib.hid (Kd.C_below HR0.out hb5)
      replace HR1 := Lib.hid (Kd.C_below HR1.out hb5)
      replace HR2 := Lib.hid (Kd.C_below HR2.out hb5)
      replace HC3 := Lib.hid (Kd.C_below HC3.out hb5)
      replace HC4 := Lib.hid (Kd.C_below HC4.out hb5)
      have hB5 : Below w.heap.size w w5 := hB4.trans (hb5.mono hB4.size)
      clear hb5
      have HC5 := Lib.hid hC5
      clear hC5
      go_wp2_with (fail)
      have hbya := BoxR.new w5 (.int .i64 g.1.kind) (.slice A5 g.1.body.length c5)
      have hb6 : Below w5.heap.size w5 (w5.alloc (.cells #[.int .i64 g.1.kind, .slice A5 g.1.body.length c5] 24)) := below_alloc (Below.refl _ _) _
      generalize hwz : w5.alloc (.cells #[.int .i64 g.1.kind, .slice A5 g.1.body.length c5] 24) = w6 at *
      clear hwz
      replace hbx0 := BoxR.below hbx0 hb6
      clear x00 x01
      have x00 := hbx0.c0
      have x01 := hbx0.c1
      replace hbx1 := BoxR.below hbx1 hb6
      clear x10 x11
      have x10 := hbx1.c0
      have x11 := hbx1.c1
      replace HR0 := Lib.hid (Kd.C_below HR0.out hb6)
      replace HR1 := Lib.hid (Kd.C_below HR1.out hb6)
      replace HR2 := Lib.hid (Kd.C_below HR2.out hb6)
      replace HC3 := Lib.hid (Kd.C_below HC3.out hb6)
      replace HC4 := Lib.hid (Kd.C_below HC4.out hb6)
      replace HC5 := Lib.hid (Kd.C_below HC5.out hb6)
      have hB6 : Below w.heap.size w w6 := hB5.trans (hb6.mono hB5.size)
      clear hb6
      have ya0 := hbya.c0
      have ya1 := hbya.c1
      have q := refGet_calls A2 c2 l2 a3 w6 HR2.out hc2 ho2 (by omega)
      rw [HG.out] at q
      refine q.mono ?_
      clear q
      rintro e w7 ⟨A7, c7, rfl, hc7, hC7, hb7, -⟩
      dsimp only at hc7 hC7 ⊢
      replace hbx0 := BoxR.below hbx0 hb7
      clear x00 x01
      have x00 := hbx0.c0
      have x01 := hbx0.c1
      replace hbx1 := BoxR.below hbx1 hb7
      clear x10 x11
      have x10 := hbx1.c0
      have x11 := hbx1.c1
      replace HR0 := Lib.hid (Kd.C_below HR0.out hb7)
      replace HR1 := Lib.hid (Kd.C_below HR1.out hb7)
      replace HR2 := Lib.hid (Kd.C_below HR2.out hb7)
      replace HC3 := Lib.hid (Kd.C_below HC3.out hb7)
      replace HC4 := Lib.hid (Kd.C_below HC4.out hb7)
      replace HC5 := Lib.hid (Kd.C_below HC5.out hb7)
      replace hbya := BoxR.below hbya hb7
      clear ya0 ya1
      have ya0 := hbya.c0
      have ya1 := hbya.c1
      have hB7 : Below w.heap.size w w7 := hB6.trans (hb7.mono hB6.size)
      clear hb7
      have HC7 := Lib.hid hC7
      clear hC7
      go_wp2_with (fail)
      have hbyb := BoxR.new w7 (.int .i64 g.1.kind) (.slice A7 g.1.body.length c7)
      have hb8 : Below w7.heap.size w7 (w7.alloc (.cells #[.int .i64 g.1.kind, .slice A7 g.1.body.length c7] 24)) := below_alloc (Below.refl _ _) _
      generalize hwz : w7.alloc (.cells #[.int .i64 g.1.kind, .slice A7 g.1.body.length c7] 24) = w8 at *
      clear hwz
      replace hbx0 := BoxR.below hbx0 hb8
      clear x00 x01
      have x00 := hbx0.c0
      have x01 := hbx0.c1
      replace hbx1 := BoxR.below hbx1 hb8
      clear x10 x11
      have x10 := hbx1.c0
      have x11 := hbx1.c1
      replace HR0 := Lib.hid (Kd.C_below HR0.out hb8)
      replace HR1 := Lib.hid (Kd.C_below HR1.out hb8)
      replace HR2 := Lib.hid (Kd.C_below HR2.out hb8)
      replace HC3 := Lib.hid (Kd.C_below HC3.out hb8)
      replace HC4 := Lib.hid (Kd.C_below HC4.out hb8)
      replace HC5 := Lib.hid (Kd.C_below HC5.out hb8)
      replace hbya := BoxR.below hbya hb8
      clear ya0 ya1
      have ya0 := hbya.c0
      have ya1 := hbya.c1
      replace HC7 := Lib.hid (Kd.C_below HC7.out hb8)
      have hB8 : Below w.heap.size w w8 := hB7.trans (hb8.mono hB7.size)
      clear hb8
      have yb0 := hbyb.c0
      have yb1 := hbyb.c1
      have q := recScan_calls A2 c2 l2 w8 HR2.out hc2 ho2 (by omega)
      unfold ScanEnd at q
      rw [HSN.out] at q
      refine q.mono ?_
      clear q
      rintro e w9 ⟨A9, c9, rfl, hc9, hC9, hb9⟩
      dsimp only at hc9 hC9 ⊢
      replace hbx0 := BoxR.below hbx0 hb9
      clear x00 x01
      have x00 := hbx0.c0
      have x01 := hbx0.c1
      replace hbx1 := BoxR.below hbx1 hb9
      clear x10 x11
      have x10 := hbx1.c0
      have x11 := hbx1.c1
      replace HR0 := Lib.hid (Kd.C_below HR0.out hb9)
      replace HR1 := Lib.hid (Kd.C_below HR1.out hb9)
      replace HR2 := Lib.hid (Kd.C_below HR2.out hb9)
      replace HC3 := Lib.hid (Kd.C_below HC3.out hb9)
      replace HC4 := Lib.hid (Kd.C_below HC4.out hb9)
      replace HC5 := Lib.hid (Kd.C_below HC5.out hb9)
      replace hbya := BoxR.below hbya hb9
      clear ya0 ya1
      have ya0 := hbya.c0
      have ya1 := hbya.c1
      replace HC7 := Lib.hid (Kd.C_below HC7.out hb9)
      replace hbyb := BoxR.below hbyb hb9
      clear yb0 yb1
      have yb0 := hbyb.c0
      have yb1 := hbyb.c1
      have hB9 : Below w.heap.size w w9 := hB8.trans (hb9.mono hB8.size)
      clear hb9
      have HC9 := Lib.hid hC9
      clear hC9
      go_wp2_with (fail)
      have q := refScan_calls A2 c2 l2 w9 HR2.out hc2 ho2 (by omega)
      unfold ScanEnd at q
      rw [HSN.out] at q
      refine q.mono ?_
      clear q
      rintro e w10 ⟨A10, c10, rfl, hc10, hC10, hb10⟩
      dsimp only at hc10 hC10 ⊢
      replace hbx0 := BoxR.below hbx0 hb10
      clear x00 x01
      have x00 := hbx0.c0
      have x01 := hbx0.c1
      replace hbx1 := BoxR.below hbx1 hb10
      clear x10 x11
      have x10 := hbx1.c0
      have x11 := hbx1.c1
      replace HR0 := Lib.hid (Kd.C_below HR0.out hb10)
      replace HR1 := Lib.hid (Kd.C_below HR1.out hb10)
      replace HR2 := Lib.hid (Kd.C_below HR2.out hb10)
      replace HC3 := Lib.hid (Kd.C_below HC3.out hb10)
      replace HC4 := Lib.hid (Kd.C_below HC4.out hb10)
      replace HC5 := Lib.hid (Kd.C_below HC5.out hb10)
      replace hbya := BoxR.below hbya hb10
      clear ya0 ya1
      have ya0 := hbya.c0
      have ya1 := hbya.c1
      replace HC7 := Lib.hid (Kd.C_below HC7.out hb10)
      replace hbyb := BoxR.below hbyb hb10
      clear yb0 yb1
      have yb0 := hbyb.c0
      have yb1 := hbyb.c1
      replace HC9 := Lib.hid (Kd.C_below HC9.out hb10)
      have hB10 : Below w.heap.size w w10 := hB9.trans (hb10.mono hB9.size)
      clear hb10
      have HC10 := Lib.hid hC10
      clear hC10
      go_wp2_with (fail)
      have q := refSame_calls g.1 g.1 true (decide_eq_true rfl) A5 c5 A7 c7 w10 HC5.out hc5 hgo HC7.out hc7 hgo
      refine q.mono ?_
      clear q
      rintro e w11 ⟨rfl, hb11⟩
      replace hbx0 := BoxR.below hbx0 hb11
      clear x00 x01
      have x00 := hbx0.c0
      have x01 := hbx0.c1
      replace hbx1 := BoxR.below hbx1 hb11
      clear x10 x11
      have x10 := hbx1.c0
      have x11 := hbx1.c1
      replace HR0 := Lib.hid (Kd.C_below HR0.out hb11)
      replace HR1 := Lib.hid (Kd.C_below HR1.out hb11)
      replace HR2 := Lib.hid (Kd.C_below HR2.out hb11)
      replace HC3 := Lib.hid (Kd.C_below HC3.out hb11)
      replace HC4 := Lib.hid (Kd.C_below HC4.out hb11)
      replace HC5 := Lib.hid (Kd.C_below HC5.out hb11)
      replace hbya := BoxR.below hbya hb11
      clear ya0 ya1
      have ya0 := hbya.c0
      have ya1 := hbya.c1
      replace HC7 := Lib.hid (Kd.C_below HC7.out hb11)
      replace hbyb := BoxR.below hbyb hb11
      clear yb0 yb1
      have yb0 := hbyb.c0
      have yb1 := hbyb.c1
      replace HC9 := Lib.hid (Kd.C_below HC9.out hb11)
      replace HC10 := Lib.hid (Kd.C_below HC10.out hb11)
      have hB11 : Below w.heap.size w w11 := hB10.trans (hb11.mono hB10.size)
      clear hb11
      go_wp2_with (fail)
      have q := lists_calls x.1 x.1 true (decide_eq_true rfl) A9 c9 A10 c10 w11 HC9.out hc9 HC10.out hc10 hxo hxo (by omega)
      refine q.mono ?_
      clear q
      rintro e w12 ⟨rfl, hb12⟩
      replace hbx0 := BoxR.below hbx0 hb12
      clear x00 x01
      have x00 := hbx0.c0
      have x01 := hbx0.c1
      replace hbx1 := BoxR.below hbx1 hb12
      clear x10 x11
      have x10 := hbx1.c0
      have x11 := hbx1.c1
      replace HR0 := Lib.hid (Kd.C_below HR0.out hb12)
      replace HR1 := Lib.hid (Kd.C_below HR1.out hb12)
      replace HR2 := Lib.hid (Kd.C_below HR2.out hb12)
      replace HC3 := Lib.hid (Kd.C_below HC3.out hb12)
      replace HC4 := Lib.hid (Kd.C_below HC4.out hb12)
      replace HC5 := Lib.hid (Kd.C_below HC5.out hb12)
      replace hbya := BoxR.below hbya hb12
      clear ya0 ya1
      have ya0 := hbya.c0
      have ya1 := hbya.c1
      replace HC7 := Lib.hid (Kd.C_below HC7.out hb12)
      replace hbyb := BoxR.below hbyb hb12
      clear yb0 yb1
      have yb0 := hbyb.c0
      have yb1 := hbyb.c1
      replace HC9 := Lib.hid (Kd.C_below HC9.out hb12)
      replace HC10 := Lib.hid (Kd.C_below HC10.out hb12)
      have hB12 : Below w.heap.size w w12 := hB11.trans (hb12.mono hB11.size)
      clear hb12
      go_wp2_with (fail)
      have q := refSame_calls ⟨a0, l0⟩ ⟨a1, l1⟩ bb HBB.out A0 c0 A1 c1 w12 HR0.out hc0 ho0 HR1.out hc1 ho1
      refine q.mono ?_
      clear q
      rintro e w13 ⟨rfl, hb13⟩
      replace hbx0 := BoxR.below hbx0 hb13
      clear x00 x01
      have x00 := hbx0.c0
      have x01 := hbx0.c1
      replace hbx1 := BoxR.below hbx1 hb13
      clear x10 x11
      have x10 := hbx1.c0
      have x11 := hbx1.c1
      replace HR0 := Lib.hid (Kd.C_below HR0.out hb13)
      replace HR1 := Lib.hid (Kd.C_below HR1.out hb13)
      replace HR2 := Lib.hid (Kd.C_below HR2.out hb13)
      replace HC3 := Lib.hid (Kd.C_below HC3.out hb13)
      replace HC4 := Lib.hid (Kd.C_below HC4.out hb13)
      replace HC5 := Lib.hid (Kd.C_below HC5.out hb13)
      replace hbya := BoxR.below hbya hb13
      clear ya0 ya1
      have ya0 := hbya.c0
      have ya1 := hbya.c1
      replace HC7 := Lib.hid (Kd.C_below HC7.out hb13)
      replace hbyb := BoxR.below hbyb hb13
      clear yb0 yb1
      have yb0 := hbyb.c0
      have yb1 := hbyb.c1
      replace HC9 := Lib.hid (Kd.C_below HC9.out hb13)
      replace HC10 := Lib.hid (Kd.C_below HC10.out hb13)
      have hB13 : Below w.heap.size w w13 := hB12.trans (hb13.mono hB12.size)
      clear hb13
      have hcvp := Kd.C_string (P := Try.prog) (c := c3) Try.underlying22 Try.underlying5 Try.underlying9 HC3.out
      have hcvq := Kd.C_string (P := Try.prog) (c := c4) Try.underlying22 Try.underlying5 Try.underlying9 HC4.out
      go_wp2_with (fail)
      have q := rsame_calls ⟨a0, l0⟩ ⟨a1, l1⟩ bb HBB.out A0 c0 A1 c1 w13 HR0.out hc0 ho0 HR1.out hc1 ho1
      refine q.mono ?_
      clear q
      rintro e w14 ⟨rfl, hb14⟩
      replace hbx0 := BoxR.below hbx0 hb14
      clear x00 x01
      have x00 := hbx0.c0
      have x01 := hbx0.c1
      replace hbx1 := BoxR.below hbx1 hb14
      clear x10 x11
      have x10 := hbx1.c0
      have x11 := hbx1.c1
      replace HR0 := Lib.hid (Kd.C_below HR0.out hb14)
      replace HR1 := Lib.hid (Kd.C_below HR1.out hb14)
      replace HR2 := Lib.hid (Kd.C_below HR2.out hb14)
      replace HC3 := Lib.hid (Kd.C_below HC3.out hb14)
      replace HC4 := Lib.hid (Kd.C_below HC4.out hb14)
      replace HC5 := Lib.hid (Kd.C_below HC5.out hb14)
      replace hbya := BoxR.below hbya hb14
      clear ya0 ya1
      have ya0 := hbya.c0
      have ya1 := hbya.c1
      replace HC7 := Lib.hid (Kd.C_below HC7.out hb14)
      replace hbyb := BoxR.below hbyb hb14
      clear yb0 yb1
      have yb0 := hbyb.c0
      have yb1 := hbyb.c1
      replace HC9 := Lib.hid (Kd.C_below HC9.out hb14)
      replace HC10 := Lib.hid (Kd.C_below HC10.out hb14)
      have hB14 : Below w.heap.size w w14 := hB13.trans (hb14.mono hB13.size)
      clear hb14
      go_wp2_with (fail)
      go_ret
      exact ⟨by simp, hB14⟩
    · skip
      have gi2 : (3000 : Int) < (l2.length : Int) := by omega
      go_wp2_with (fail)
      go_ret
      exact ⟨rfl, hB2⟩
  · skip
    obtain rfl : b5 = false := by rw [← HB5.out]; simpa using q5
    clear q5
    go_wp2_with (fail)
    go_ret
    exact ⟨rfl, hB2⟩

end Go.Proofs.Ytnicndnbloohhaa.H
