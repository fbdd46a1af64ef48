import Derived.Test.YtiopafdndlodoaaWireAw
import Derived.Test.YtiopafdndlodoaaRowS
import Derived.Deep.RegionHeld3
import Derived.Deep.RegionHeldLaw
import Derived.Deep.QuietTactic
import Derived.BigQuiet
import Derived.OpenShut
/-! The law WireBack, walked. -/
namespace Go.Proofs.Ytiopafdndlodoaa.H
open Go.RowKit Moor Go.Proofs.YtiopafdndlodoaaW.PrintWords Go.Proofs.YtiopafdndlodoaaW.PrintLast Go.Proofs.YtiopafdndlodoaaW.PrintMore
set_option linter.unusedVariables false
set_option linter.unusedSimpArgs false

set_option maxRecDepth 100000 in
set_option maxHeartbeats 32000000 in
theorem wireBack_walk (e0 : Rq) (e1 : Aw) (A2 : Option Addr) (c2 : Nat) (l2 : List Int) (w : World) (hr2 : Kd.C (Kd.int .u8) w A2 l2.length l2) (hc2 : l2.length ≤ c2) (ho2 : okB l2) (hs2 : l2.length ≤ 140737488351232) :
    Calls Try.prog 4 #[.agg (cellsQ e0), .agg (cellsA e1), .slice A2 l2.length c2] w fun e w' => e = .returned (.bool true) ∧ Below w.heap.size w w' := by
  go_enter Try.func4, Try.ntmps4
  go_wp2_with (fail)
  have hbx0 := QC.new w (cellsQ e0)
  have hBa0 : Below w.heap.size w (w.alloc (.cells (cellsQ e0) 25)) := below_alloc (Below.refl _ _) _
  have hbx1 := AC.new (w.alloc (.cells (cellsQ e0) 25)) e1
  simp only [World.size_alloc] at hbx1
  replace hbx0 := hbx0.below (below_alloc (Below.refl _ _) (.cells (cellsA e1) 28))
  have hBa1 : Below w.heap.size w ((w.alloc (.cells (cellsQ e0) 25)).alloc (.cells (cellsA e1) 28)) := below_alloc hBa0 _
  refine (awake_true _).mono ?_
  rintro e w10 ⟨rfl, hb10⟩
  have hB10 : Below w.heap.size w w10 := hBa1.trans (hb10.mono hBa1.size)
  replace hbx0 := hbx0.below hb10
  replace hbx1 := hbx1.below hb10
  clear hb10 hBa0 hBa1
  obtain ⟨x0_0, x0_1, x0_2, x0_3, x0_4, x0_5, x0_6, x0_7, x0_8⟩ := hbx0.nine
  obtain ⟨x1_0, x1_1, x1_2⟩ := hbx1.three
  have HR2 := Lib.hid (Kd.C_below hr2 hB10)
  clear hr2
  by_cases g2 : l2.length ≤ 1500
  · skip
    have gi2 : ¬ (1500 : Int) < (l2.length : Int) := by omega
    obtain ⟨P, hP⟩ : ∃ P, wPut e0 = P := ⟨_, rfl⟩
    have h1 := wPut_long e0
    have h2 := fun h => wRead_put (r := e0) h
    obtain ⟨X, hX⟩ : ∃ X, wRead P.1 = X := ⟨_, rfl⟩
    rw [hP] at h1 h2
    rw [hX] at h2
    have HP := Lib.hid hP
    have HX := Lib.hid hX
    have HPO := Lib.hid h1
    have HPX := Lib.hid h2
    clear hP hX h1 h2
    obtain ⟨T, hT⟩ : ∃ P, wTell e1 = P := ⟨_, rfl⟩
    have h1 := wTell_long e1
    have h2 := fun h => wHear_tell (a := e1) h
    obtain ⟨Y, hY⟩ : ∃ X, wHear T.1 = X := ⟨_, rfl⟩
    rw [hT] at h1 h2
    rw [hY] at h2
    have HT := Lib.hid hT
    have HY := Lib.hid hY
    have HTO := Lib.hid h1
    have HTY := Lib.hid h2
    clear hT hY h1 h2
    obtain ⟨U, hU⟩ : ∃ X, wRead l2 = X := ⟨_, rfl⟩
    have h1 := wRead_cases l2 ho2
    obtain ⟨R, hR⟩ : ∃ P, wPut U.1 = P := ⟨_, rfl⟩
    rw [hU] at h1
    rw [hR] at h1
    have HU := Lib.hid hU
    have HR := Lib.hid hR
    have HUC := Lib.hid h1
    clear hU hR h1
    obtain ⟨V, hV⟩ : ∃ X, wHear l2 = X := ⟨_, rfl⟩
    have h1 := wHear_cases l2 ho2
    obtain ⟨S, hS⟩ : ∃ P, wTell V.1 = P := ⟨_, rfl⟩
    rw [hV] at h1
    rw [hS] at h1
    have HV := Lib.hid hV
    have HS := Lib.hid hS
    have HVC := Lib.hid h1
    clear hV hS h1
    have HSO := Lib.hid (wTell_long V.1)
    rw [HS.out] at HSO
    have HRO := Lib.hid (wPut_long U.1)
    rw [HR.out] at HRO
    go_wp2_with (fail)
    have q := wPut_calls e0 w10
    rw [HP.out] at q
    refine q.mono ?_
    clear q
    rintro e w11 ⟨A11, c11, rfl, hc11, hC11, hb11⟩
    dsimp only at hc11 hC11 ⊢
    replace hbx0 := hbx0.below hb11
    clear x0_0 x0_1 x0_2 x0_3 x0_4 x0_5 x0_6 x0_7 x0_8
    obtain ⟨x0_0, x0_1, x0_2, x0_3, x0_4, x0_5, x0_6, x0_7, x0_8⟩ := hbx0.nine
    replace hbx1 := hbx1.below hb11
    clear x1_0 x1_1 x1_2
    obtain ⟨x1_0, x1_1, x1_2⟩ := hbx1.three
    replace HR2 := Lib.hid (Kd.C_below HR2.out hb11)
    have hB11 : Below w.heap.size w w11 := hB10.trans (hb11.mono hB10.size)
    clear hb11
    have HC11 := Lib.hid hC11
    clear hC11
    go_wp2_with (fail)
    have q := wread_calls A11 c11 P.1 w11 HC11.out hc11 HPO.out.1 (by have := HPO.out.2.2; omega)
    rw [HX.out] at q
    refine q.mono ?_
    clear q
    rintro e w12 ⟨rfl, hb12⟩
    (try dsimp only)
    replace hbx0 := hbx0.below hb12
    clear x0_0 x0_1 x0_2 x0_3 x0_4 x0_5 x0_6 x0_7 x0_8
    obtain ⟨x0_0, x0_1, x0_2, x0_3, x0_4, x0_5, x0_6, x0_7, x0_8⟩ := hbx0.nine
    replace hbx1 := hbx1.below hb12
    clear x1_0 x1_1 x1_2
    obtain ⟨x1_0, x1_1, x1_2⟩ := hbx1.three
    replace HR2 := Lib.hid (Kd.C_below HR2.out hb12)
    replace HC11 := Lib.hid (Kd.C_below HC11.out hb12)
    have hB12 : Below w.heap.size w w12 := hB11.trans (hb12.mono hB11.size)
    clear hb12
    obtain ⟨z0_0, z0_1, z0_2, z0_3, z0_4, z0_5, z0_6, z0_7, z0_8⟩ := (hbx0.below (below_alloc (Below.refl _ w12) (.cells #[.int .i64 X.1.kind, .int .i64 X.1.sub, .int .i64 X.1.addr, .int .i64 X.1.blk, .int .i64 X.1.n, .int .i64 X.1.q, .int .i64 X.1.i, .int .i64 X.1.h, .bool X.1.pair] 25))).nine
    obtain ⟨z1_0, z1_1, z1_2⟩ := (hbx1.below (below_alloc (Below.refl _ w12) (.cells #[.int .i64 X.1.kind, .int .i64 X.1.sub, .int .i64 X.1.addr, .int .i64 X.1.blk, .int .i64 X.1.n, .int .i64 X.1.q, .int .i64 X.1.i, .int .i64 X.1.h, .bool X.1.pair] 25))).three
    go_wp2_with (fail)
    have hbxx := QC.new w12 (cellsQ X.1)
    have hb13 : Below w12.heap.size w12 (w12.alloc (.cells #[.int .i64 X.1.kind, .int .i64 X.1.sub, .int .i64 X.1.addr, .int .i64 X.1.blk, .int .i64 X.1.n, .int .i64 X.1.q, .int .i64 X.1.i, .int .i64 X.1.h, .bool X.1.pair] 25)) := below_alloc (Below.refl _ _) _
    generalize hwz : w12.alloc (.cells #[.int .i64 X.1.kind, .int .i64 X.1.sub, .int .i64 X.1.addr, .int .i64 X.1.blk, .int .i64 X.1.n, .int .i64 X.1.q, .int .i64 X.1.i, .int .i64 X.1.h, .bool X.1.pair] 25) = w13 at *
    clear hwz z0_0 z0_1 z0_2 z0_3 z0_4 z0_5 z0_6 z0_7 z0_8 z1_0 z1_1 z1_2
    replace hbx0 := hbx0.below hb13
    clear x0_0 x0_1 x0_2 x0_3 x0_4 x0_5 x0_6 x0_7 x0_8
    obtain ⟨x0_0, x0_1, x0_2, x0_3, x0_4, x0_5, x0_6, x0_7, x0_8⟩ := hbx0.nine
    replace hbx1 := hbx1.below hb13
    clear x1_0 x1_1 x1_2
    obtain ⟨x1_0, x1_1, x1_2⟩ := hbx1.three
    replace HR2 := Lib.hid (Kd.C_below HR2.out hb13)
    replace HC11 := Lib.hid (Kd.C_below HC11.out hb13)
    have hB13 : Below w.heap.size w w13 := hB12.trans (hb13.mono hB12.size)
    clear hb13
    obtain ⟨xx_0, xx_1, xx_2, xx_3, xx_4, xx_5, xx_6, xx_7, xx_8⟩ := hbxx.nine
    have q := wtell_calls e1 w13
    rw [HT.out] at q
    refine q.mono ?_
    clear q
    rintro e w14 ⟨A14, c14, rfl, hc14, hC14, hb14⟩
    dsimp only at hc14 hC14 ⊢
    replace hbx0 := hbx0.below hb14
    clear x0_0 x0_1 x0_2 x0_3 x0_4 x0_5 x0_6 x0_7 x0_8
    obtain ⟨x0_0, x0_1, x0_2, x0_3, x0_4, x0_5, x0_6, x0_7, x0_8⟩ := hbx0.nine
    replace hbx1 := hbx1.below hb14
    clear x1_0 x1_1 x1_2
    obtain ⟨x1_0, x1_1, x1_2⟩ := hbx1.three
    replace HR2 := Lib.hid (Kd.C_below HR2.out hb14)
    replace HC11 := Lib.hid (Kd.C_below HC11.out hb14)
    replace hbxx := hbxx.below hb14
    clear xx_0 xx_1 xx_2 xx_3 xx_4 xx_5 xx_6 xx_7 xx_8
    obtain ⟨xx_0, xx_1, xx_2, xx_3, xx_4, xx_5, xx_6, xx_7, xx_8⟩ := hbxx.nine
    have hB14 : Below w.heap.size w w14 := hB13.trans (hb14.mono hB13.size)
    clear hb14
    have HC14 := Lib.hid hC14
    clear hC14
    go_wp2_with (fail)
    have q := whear_calls A14 c14 T.1 w14 HC14.out hc14 HTO.out.1 (by have := HTO.out.2.2; omega)
    rw [HY.out] at q
    refine q.mono ?_
    clear q
    rintro e w15 ⟨rfl, hb15⟩
    (try dsimp only)
    replace hbx0 := hbx0.below hb15
    clear x0_0 x0_1 x0_2 x0_3 x0_4 x0_5 x0_6 x0_7 x0_8
    obtain ⟨x0_0, x0_1, x0_2, x0_3, x0_4, x0_5, x0_6, x0_7, x0_8⟩ := hbx0.nine
    replace hbx1 := hbx1.below hb15
    clear x1_0 x1_1 x1_2
    obtain ⟨x1_0, x1_1, x1_2⟩ := hbx1.three
    replace HR2 := Lib.hid (Kd.C_below HR2.out hb15)
    replace HC11 := Lib.hid (Kd.C_below HC11.out hb15)
    replace hbxx := hbxx.below hb15
    clear xx_0 xx_1 xx_2 xx_3 xx_4 xx_5 xx_6 xx_7 xx_8
    obtain ⟨xx_0, xx_1, xx_2, xx_3, xx_4, xx_5, xx_6, xx_7, xx_8⟩ := hbxx.nine
    replace HC14 := Lib.hid (Kd.C_below HC14.out hb15)
    have hB15 : Below w.heap.size w w15 := hB14.trans (hb15.mono hB14.size)
    clear hb15
    clear HP HX HT HY
    obtain ⟨P, is_⟩ := P
    obtain ⟨T, can⟩ := T
    dsimp only at *
    cases is_ with
    | true =>
        have hx := HPX.out rfl
        clear HPX
        subst hx
        dsimp only at *
        cases can with
        | true =>
            have hy := HTY.out rfl
            clear HTY
            subst hy
            dsimp only at *
            obtain ⟨z0_0, z0_1, z0_2, z0_3, z0_4, z0_5, z0_6, z0_7, z0_8⟩ := (hbx0.below (below_alloc (Below.refl _ w15) (.cells #[.int .i64 e1.e, .int .i64 e1.a, .int .i64 e1.b] 28))).nine
            obtain ⟨z1_0, z1_1, z1_2⟩ := (hbx1.below (below_alloc (Below.refl _ w15) (.cells #[.int .i64 e1.e, .int .i64 e1.a, .int .i64 e1.b] 28))).three
            obtain ⟨zx_0, zx_1, zx_2, zx_3, zx_4, zx_5, zx_6, zx_7, zx_8⟩ := (hbxx.below (below_alloc (Below.refl _ w15) (.cells #[.int .i64 e1.e, .int .i64 e1.a, .int .i64 e1.b] 28))).nine
            go_wp2_with (fail)
            have hbxy := AC.new w15 e1
            have hb16 : Below w15.heap.size w15 (w15.alloc (.cells #[.int .i64 e1.e, .int .i64 e1.a, .int .i64 e1.b] 28)) := below_alloc (Below.refl _ _) _
            generalize hwz : w15.alloc (.cells #[.int .i64 e1.e, .int .i64 e1.a, .int .i64 e1.b] 28) = w16 at *
            clear hwz z0_0 z0_1 z0_2 z0_3 z0_4 z0_5 z0_6 z0_7 z0_8 z1_0 z1_1 z1_2 zx_0 zx_1 zx_2 zx_3 zx_4 zx_5 zx_6 zx_7 zx_8
            replace hbx0 := hbx0.below hb16
            clear x0_0 x0_1 x0_2 x0_3 x0_4 x0_5 x0_6 x0_7 x0_8
            obtain ⟨x0_0, x0_1, x0_2, x0_3, x0_4, x0_5, x0_6, x0_7, x0_8⟩ := hbx0.nine
            replace hbx1 := hbx1.below hb16
            clear x1_0 x1_1 x1_2
            obtain ⟨x1_0, x1_1, x1_2⟩ := hbx1.three
            replace HR2 := Lib.hid (Kd.C_below HR2.out hb16)
            replace HC11 := Lib.hid (Kd.C_below HC11.out hb16)
            replace hbxx := hbxx.below hb16
            clear xx_0 xx_1 xx_2 xx_3 xx_4 xx_5 xx_6 xx_7 xx_8
            obtain ⟨xx_0, xx_1, xx_2, xx_3, xx_4, xx_5, xx_6, xx_7, xx_8⟩ := hbxx.nine
            replace HC14 := Lib.hid (Kd.C_below HC14.out hb16)
            have hB16 : Below w.heap.size w w16 := hB15.trans (hb16.mono hB15.size)
            clear hb16
            obtain ⟨xy_0, xy_1, xy_2⟩ := hbxy.three
            have q := wread_calls A2 c2 l2 w16 HR2.out hc2 ho2 (by omega)
            rw [HU.out] at q
            refine q.mono ?_
            clear q
            rintro e w17 ⟨rfl, hb17⟩
            (try dsimp only)
            replace hbx0 := hbx0.below hb17
            clear x0_0 x0_1 x0_2 x0_3 x0_4 x0_5 x0_6 x0_7 x0_8
            obtain ⟨x0_0, x0_1, x0_2, x0_3, x0_4, x0_5, x0_6, x0_7, x0_8⟩ := hbx0.nine
            replace hbx1 := hbx1.below hb17
            clear x1_0 x1_1 x1_2
            obtain ⟨x1_0, x1_1, x1_2⟩ := hbx1.three
            replace HR2 := Lib.hid (Kd.C_below HR2.out hb17)
            replace HC11 := Lib.hid (Kd.C_below HC11.out hb17)
            replace hbxx := hbxx.below hb17
            clear xx_0 xx_1 xx_2 xx_3 xx_4 xx_5 xx_6 xx_7 xx_8
            obtain ⟨xx_0, xx_1, xx_2, xx_3, xx_4, xx_5, xx_6, xx_7, xx_8⟩ := hbxx.nine
            replace HC14 := Lib.hid (Kd.C_below HC14.out hb17)
            replace hbxy := hbxy.below hb17
            clear xy_0 xy_1 xy_2
            obtain ⟨xy_0, xy_1, xy_2⟩ := hbxy.three
            have hB17 : Below w.heap.size w w17 := hB16.trans (hb17.mono hB16.size)
            clear hb17
            obtain ⟨z0_0, z0_1, z0_2, z0_3, z0_4, z0_5, z0_6, z0_7, z0_8⟩ := (hbx0.below (below_alloc (Below.refl _ w17) (.cells #[.int .i64 U.1.kind, .int .i64 U.1.sub, .int .i64 U.1.addr, .int .i64 U.1.blk, .int .i64 U.1.n, .int .i64 U.1.q, .int .i64 U.1.i, .int .i64 U.1.h, .bool U.1.pair] 25))).nine
            obtain ⟨z1_0, z1_1, z1_2⟩ := (hbx1.below (below_alloc (Below.refl _ w17) (.cells #[.int .i64 U.1.kind, .int .i64 U.1.sub, .int .i64 U.1.addr, .int .i64 U.1.blk, .int .i64 U.1.n, .int .i64 U.1.q, .int .i64 U.1.i, .int .i64 U.1.h, .bool U.1.pair] 25))).three
            obtain ⟨zx_0, zx_1, zx_2, zx_3, zx_4, zx_5, zx_6, zx_7, zx_8⟩ := (hbxx.below (below_alloc (Below.refl _ w17) (.cells #[.int .i64 U.1.kind, .int .i64 U.1.sub, .int .i64 U.1.addr, .int .i64 U.1.blk, .int .i64 U.1.n, .int .i64 U.1.q, .int .i64 U.1.i, .int .i64 U.1.h, .bool U.1.pair] 25))).nine
            obtain ⟨zy_0, zy_1, zy_2⟩ := (hbxy.below (below_alloc (Below.refl _ w17) (.cells #[.int .i64 U.1.kind, .int .i64 U.1.sub, .int .i64 U.1.addr, .int .i64 U.1.blk, .int .i64 U.1.n, .int .i64 U.1.q, .int .i64 U.1.i, .int .i64 U.1.h, .bool U.1.pair] 25))).three
            go_wp2_with (fail)
            have hbxu := QC.new w17 (cellsQ U.1)
            have hb18 : Below w17.heap.size w17 (w17.alloc (.cells #[.int .i64 U.1.kind, .int .i64 U.1.sub, .int .i64 U.1.addr, .int .i64 U.1.blk, .int .i64 U.1.n, .int .i64 U.1.q, .int .i64 U.1.i, .int .i64 U.1.h, .bool U.1.pair] 25)) := below_alloc (Below.refl _ _) _
            generalize hwz : w17.alloc (.cells #[.int .i64 U.1.kind, .int .i64 U.1.sub, .int .i64 U.1.addr, .int .i64 U.1.blk, .int .i64 U.1.n, .int .i64 U.1.q, .int .i64 U.1.i, .int .i64 U.1.h, .bool U.1.pair] 25) = w18 at *
            clear hwz z0_0 z0_1 z0_2 z0_3 z0_4 z0_5 z0_6 z0_7 z0_8 z1_0 z1_1 z1_2 zx_0 zx_1 zx_2 zx_3 zx_4 zx_5 zx_6 zx_7 zx_8 zy_0 zy_1 zy_2
            replace hbx0 := hbx0.below hb18
            clear x0_0 x0_1 x0_2 x0_3 x0_4 x0_5 x0_6 x0_7 x0_8
            obtain ⟨x0_0, x0_1, x0_2, x0_3, x0_4, x0_5, x0_6, x0_7, x0_8⟩ := hbx0.nine
            replace hbx1 := hbx1.below hb18
            clear x1_0 x1_1 x1_2
            obtain ⟨x1_0, x1_1, x1_2⟩ := hbx1.three
            replace HR2 := Lib.hid (Kd.C_below HR2.out hb18)
            replace HC11 := Lib.hid (Kd.C_below HC11.out hb18)
            replace hbxx := hbxx.below hb18
            clear xx_0 xx_1 xx_2 xx_3 xx_4 xx_5 xx_6 xx_7 xx_8
            obtain ⟨xx_0, xx_1, xx_2, xx_3, xx_4, xx_5, xx_6, xx_7, xx_8⟩ := hbxx.nine
            replace HC14 := Lib.hid (Kd.C_below HC14.out hb18)
            replace hbxy := hbxy.below hb18
            clear xy_0 xy_1 xy_2
            obtain ⟨xy_0, xy_1, xy_2⟩ := hbxy.three
            have hB18 : Below w.heap.size w w18 := hB17.trans (hb18.mono hB17.size)
            clear hb18
            obtain ⟨xu_0, xu_1, xu_2, xu_3, xu_4, xu_5, xu_6, xu_7, xu_8⟩ := hbxu.nine
            have q := wPut_calls U.1 w18
            rw [HR.out] at q
            refine q.mono ?_
            clear q
            rintro e w19 ⟨A19, c19, rfl, hc19, hC19, hb19⟩
            dsimp only at hc19 hC19 ⊢
            replace hbx0 := hbx0.below hb19
            clear x0_0 x0_1 x0_2 x0_3 x0_4 x0_5 x0_6 x0_7 x0_8
            obtain ⟨x0_0, x0_1, x0_2, x0_3, x0_4, x0_5, x0_6, x0_7, x0_8⟩ := hbx0.nine
            replace hbx1 := hbx1.below hb19
            clear x1_0 x1_1 x1_2
            obtain ⟨x1_0, x1_1, x1_2⟩ := hbx1.three
            replace HR2 := Lib.hid (Kd.C_below HR2.out hb19)
            replace HC11 := Lib.hid (Kd.C_below HC11.out hb19)
            replace hbxx := hbxx.below hb19
            clear xx_0 xx_1 xx_2 xx_3 xx_4 xx_5 xx_6 xx_7 xx_8
            obtain ⟨xx_0, xx_1, xx_2, xx_3, xx_4, xx_5, xx_6, xx_7, xx_8⟩ := hbxx.nine
            replace HC14 := Lib.hid (Kd.C_below HC14.out hb19)
            replace hbxy := hbxy.below hb19
            clear xy_0 xy_1 xy_2
            obtain ⟨xy_0, xy_1, xy_2⟩ := hbxy.three
            replace hbxu := hbxu.below hb19
            clear xu_0 xu_1 xu_2 xu_3 xu_4 xu_5 xu_6 xu_7 xu_8
            obtain ⟨xu_0, xu_1, xu_2, xu_3, xu_4, xu_5, xu_6, xu_7, xu_8⟩ := hbxu.nine
            have hB19 : Below w.heap.size w w19 := hB18.trans (hb19.mono hB18.size)
            clear hb19
            have HC19 := Lib.hid hC19
            clear hC19
            go_wp2_with (fail)
            have q := whear_calls A2 c2 l2 w19 HR2.out hc2 ho2 (by omega)
            rw [HV.out] at q
            refine q.mono ?_
            clear q
            rintro e w20 ⟨rfl, hb20⟩
            (try dsimp only)
            replace hbx0 := hbx0.below hb20
            clear x0_0 x0_1 x0_2 x0_3 x0_4 x0_5 x0_6 x0_7 x0_8
            obtain ⟨x0_0, x0_1, x0_2, x0_3, x0_4, x0_5, x0_6, x0_7, x0_8⟩ := hbx0.nine
            replace hbx1 := hbx1.below hb20
            clear x1_0 x1_1 x1_2
            obtain ⟨x1_0, x1_1, x1_2⟩ := hbx1.three
            replace HR2 := Lib.hid (Kd.C_below HR2.out hb20)
            replace HC11 := Lib.hid (Kd.C_below HC11.out hb20)
            replace hbxx := hbxx.below hb20
            clear xx_0 xx_1 xx_2 xx_3 xx_4 xx_5 xx_6 xx_7 xx_8
            obtain ⟨xx_0, xx_1, xx_2, xx_3, xx_4, xx_5, xx_6, xx_7, xx_8⟩ := hbxx.nine
            replace HC14 := Lib.hid (Kd.C_below HC14.out hb20)
            replace hbxy := hbxy.below hb20
            clear xy_0 xy_1 xy_2
            obtain ⟨xy_0, xy_1, xy_2⟩ := hbxy.three
            replace hbxu := hbxu.below hb20
            clear xu_0 xu_1 xu_2 xu_3 xu_4 xu_5 xu_6 xu_7 xu_8
            obtain ⟨xu_0, xu_1, xu_2, xu_3, xu_4, xu_5, xu_6, xu_7, xu_8⟩ := hbxu.nine
            replace HC19 := Lib.hid (Kd.C_below HC19.out hb20)
            have hB20 : Below w.heap.size w w20 := hB19.trans (hb20.mono hB19.size)
            clear hb20
            obtain ⟨z0_0, z0_1, z0_2, z0_3, z0_4, z0_5, z0_6, z0_7, z0_8⟩ := (hbx0.below (below_alloc (Below.refl _ w20) (.cells #[.int .i64 V.1.e, .int .i64 V.1.a, .int .i64 V.1.b] 28))).nine
            obtain ⟨z1_0, z1_1, z1_2⟩ := (hbx1.below (below_alloc (Below.refl _ w20) (.cells #[.int .i64 V.1.e, .int .i64 V.1.a, .int .i64 V.1.b] 28))).three
            obtain ⟨zx_0, zx_1, zx_2, zx_3, zx_4, zx_5, zx_6, zx_7, zx_8⟩ := (hbxx.below (below_alloc (Below.refl _ w20) (.cells #[.int .i64 V.1.e, .int .i64 V.1.a, .int .i64 V.1.b] 28))).nine
            obtain ⟨zy_0, zy_1, zy_2⟩ := (hbxy.below (below_alloc (Below.refl _ w20) (.cells #[.int .i64 V.1.e, .int .i64 V.1.a, .int .i64 V.1.b] 28))).three
            obtain ⟨zu_0, zu_1, zu_2, zu_3, zu_4, zu_5, zu_6, zu_7, zu_8⟩ := (hbxu.below (below_alloc (Below.refl _ w20) (.cells #[.int .i64 V.1.e, .int .i64 V.1.a, .int .i64 V.1.b] 28))).nine
            go_wp2_with (fail)
            have hbxv := AC.new w20 V.1
            have hb21 : Below w20.heap.size w20 (w20.alloc (.cells #[.int .i64 V.1.e, .int .i64 V.1.a, .int .i64 V.1.b] 28)) := below_alloc (Below.refl _ _) _
            generalize hwz : w20.alloc (.cells #[.int .i64 V.1.e, .int .i64 V.1.a, .int .i64 V.1.b] 28) = w21 at *
            clear hwz z0_0 z0_1 z0_2 z0_3 z0_4 z0_5 z0_6 z0_7 z0_8 z1_0 z1_1 z1_2 zx_0 zx_1 zx_2 zx_3 zx_4 zx_5 zx_6 zx_7 zx_8 zy_0 zy_1 zy_2 zu_0 zu_1 zu_2 zu_3 zu_4 zu_5 zu_6 zu_7 zu_8
            replace hbx0 := hbx0.below hb21
            clear x0_0 x0_1 x0_2 x0_3 x0_4 x0_5 x0_6 x0_7 x0_8
            obtain ⟨x0_0, x0_1, x0_2, x0_3, x0_4, x0_5, x0_6, x0_7, x0_8⟩ := hbx0.nine
            replace hbx1 := hbx1.below hb21
            clear x1_0 x1_1 x1_2
            obtain ⟨x1_0, x1_1, x1_2⟩ := hbx1.three
            replace HR2 := Lib.hid (Kd.C_below HR2.out hb21)
            replace HC11 := Lib.hid (Kd.C_below HC11.out hb21)
            replace hbxx := hbxx.below hb21
            clear xx_0 xx_1 xx_2 xx_3 xx_4 xx_5 xx_6 xx_7 xx_8
            obtain ⟨xx_0, xx_1, xx_2, xx_3, xx_4, xx_5, xx_6, xx_7, xx_8⟩ := hbxx.nine
            replace HC14 := Lib.hid (Kd.C_below HC14.out hb21)
            replace hbxy := hbxy.below hb21
            clear xy_0 xy_1 xy_2
            obtain ⟨xy_0, xy_1, xy_2⟩ := hbxy.three
            replace hbxu := hbxu.below hb21
            clear xu_0 xu_1 xu_2 xu_3 xu_4 xu_5 xu_6 xu_7 xu_8
            obtain ⟨xu_0, xu_1, xu_2, xu_3, xu_4, xu_5, xu_6, xu_7, xu_8⟩ := hbxu.nine
            replace HC19 := Lib.hid (Kd.C_below HC19.out hb21)
            have hB21 : Below w.heap.size w w21 := hB20.trans (hb21.mono hB20.size)
            clear hb21
            obtain ⟨xv_0, xv_1, xv_2⟩ := hbxv.three
            have q := wtell_calls V.1 w21
            rw [HS.out] at q
            refine q.mono ?_
            clear q
            rintro e w22 ⟨A22, c22, rfl, hc22, hC22, hb22⟩
            dsimp only at hc22 hC22 ⊢
            replace hbx0 := hbx0.below hb22
            clear x0_0 x0_1 x0_2 x0_3 x0_4 x0_5 x0_6 x0_7 x0_8
            obtain ⟨x0_0, x0_1, x0_2, x0_3, x0_4, x0_5, x0_6, x0_7, x0_8⟩ := hbx0.nine
            replace hbx1 := hbx1.below hb22
            clear x1_0 x1_1 x1_2
            obtain ⟨x1_0, x1_1, x1_2⟩ := hbx1.three
            replace HR2 := Lib.hid (Kd.C_below HR2.out hb22)
            replace HC11 := Lib.hid (Kd.C_below HC11.out hb22)
            replace hbxx := hbxx.below hb22
            clear xx_0 xx_1 xx_2 xx_3 xx_4 xx_5 xx_6 xx_7 xx_8
            obtain ⟨xx_0, xx_1, xx_2, xx_3, xx_4, xx_5, xx_6, xx_7, xx_8⟩ := hbxx.nine
            replace HC14 := Lib.hid (Kd.C_below HC14.out hb22)
            replace hbxy := hbxy.below hb22
            clear xy_0 xy_1 xy_2
            obtain ⟨xy_0, xy_1, xy_2⟩ := hbxy.three
            replace hbxu := hbxu.below hb22
            clear xu_0 xu_1 xu_2 xu_3 xu_4 xu_5 xu_6 xu_7 xu_8
            obtain ⟨xu_0, xu_1, xu_2, xu_3, xu_4, xu_5, xu_6, xu_7, xu_8⟩ := hbxu.nine
            replace HC19 := Lib.hid (Kd.C_below HC19.out hb22)
            replace hbxv := hbxv.below hb22
            clear xv_0 xv_1 xv_2
            obtain ⟨xv_0, xv_1, xv_2⟩ := hbxv.three
            have hB22 : Below w.heap.size w w22 := hB21.trans (hb22.mono hB21.size)
            clear hb22
            have HC22 := Lib.hid hC22
            clear hC22
            clear HU HR HV HS
            obtain ⟨U, ue⟩ := U
            obtain ⟨V, ve⟩ := V
            obtain ⟨R, fits⟩ := R
            obtain ⟨S, has⟩ := S
            dsimp only at *
            have HUC1 := HUC.out
            have HVC1 := HVC.out
            clear HUC HVC
            have hcb := Kd.C_string (P := Try.prog) (c := c2) Try.underlying29 Try.underlying5 Try.underlying9 HR2.out
            have hcr := Kd.C_string (P := Try.prog) (c := c19) Try.underlying29 Try.underlying5 Try.underlying9 HC19.out
            have hcs := Kd.C_string (P := Try.prog) (c := c22) Try.underlying29 Try.underlying5 Try.underlying9 HC22.out
            rcases HUC1 with ⟨u1, u2⟩ | ⟨u1, u2⟩
            · skip
              have u3 : R = l2 := congrArg Prod.fst u2
              have u4 : fits = true := congrArg Prod.snd u2
              clear u2
              subst u1
              subst u3
              subst u4
              rcases HVC1 with ⟨v1, v2⟩ | ⟨v1, v2⟩
              · skip
                have v3 := congrArg Prod.fst v2
                have v4 := congrArg Prod.snd v2
                dsimp only at v3 v4
                clear v2
                subst v1
                subst v3
                subst v4
                go_wp2_with (fail)
                go_ret
                exact ⟨by simp, hB22⟩
              · skip
                subst v2
                have v1b : (ve != 0) = true := by simpa using v1
                have v1c : (ve == 0) = false := by simpa using v1
                clear v1
                go_wp2_with (fail)
                go_ret
                exact ⟨by simp, hB22⟩
            · skip
              subst u2
              have u1b : (ue != 0) = true := by simpa using u1
              have u1c : (ue == 0) = false := by simpa using u1
              clear u1
              rcases HVC1 with ⟨v1, v2⟩ | ⟨v1, v2⟩
              · skip
                have v3 := congrArg Prod.fst v2
                have v4 := congrArg Prod.snd v2
                dsimp only at v3 v4
                clear v2
                subst v1
                subst v3
                subst v4
                go_wp2_with (fail)
                go_ret
                exact ⟨by simp, hB22⟩
              · skip
                subst v2
                have v1b : (ve != 0) = true := by simpa using v1
                have v1c : (ve == 0) = false := by simpa using v1
                clear v1
                go_wp2_with (fail)
                go_ret
                exact ⟨by simp, hB22⟩
        | false =>
            clear HTY
            obtain ⟨z0_0, z0_1, z0_2, z0_3, z0_4, z0_5, z0_6, z0_7, z0_8⟩ := (hbx0.below (below_alloc (Below.refl _ w15) (.cells #[.int .i64 Y.1.e, .int .i64 Y.1.a, .int .i64 Y.1.b] 28))).nine
            obtain ⟨z1_0, z1_1, z1_2⟩ := (hbx1.below (below_alloc (Below.refl _ w15) (.cells #[.int .i64 Y.1.e, .int .i64 Y.1.a, .int .i64 Y.1.b] 28))).three
            obtain ⟨zx_0, zx_1, zx_2, zx_3, zx_4, zx_5, zx_6, zx_7, zx_8⟩ := (hbxx.below (below_alloc (Below.refl _ w15) (.cells #[.int .i64 Y.1.e, .int .i64 Y.1.a, .int .i64 Y.1.b] 28))).nine
            go_wp2_with (fail)
            have hbxy := AC.new w15 Y.1
            have hb16 : Below w15.heap.size w15 (w15.alloc (.cells #[.int .i64 Y.1.e, .int .i64 Y.1.a, .int .i64 Y.1.b] 28)) := below_alloc (Below.refl _ _) _
            generalize hwz : w15.alloc (.cells #[.int .i64 Y.1.e, .int .i64 Y.1.a, .int .i64 Y.1.b] 28) = w16 at *
            clear hwz z0_0 z0_1 z0_2 z0_3 z0_4 z0_5 z0_6 z0_7 z0_8 z1_0 z1_1 z1_2 zx_0 zx_1 zx_2 zx_3 zx_4 zx_5 zx_6 zx_7 zx_8
            replace hbx0 := hbx0.below hb16
            clear x0_0 x0_1 x0_2 x0_3 x0_4 x0_5 x0_6 x0_7 x0_8
            obtain ⟨x0_0, x0_1, x0_2, x0_3, x0_4, x0_5, x0_6, x0_7, x0_8⟩ := hbx0.nine
            replace hbx1 := hbx1.below hb16
            clear x1_0 x1_1 x1_2
            obtain ⟨x1_0, x1_1, x1_2⟩ := hbx1.three
            replace HR2 := Lib.hid (Kd.C_below HR2.out hb16)
            replace HC11 := Lib.hid (Kd.C_below HC11.out hb16)
            replace hbxx := hbxx.below hb16
            clear xx_0 xx_1 xx_2 xx_3 xx_4 xx_5 xx_6 xx_7 xx_8
            obtain ⟨xx_0, xx_1, xx_2, xx_3, xx_4, xx_5, xx_6, xx_7, xx_8⟩ := hbxx.nine
            replace HC14 := Lib.hid (Kd.C_below HC14.out hb16)
            have hB16 : Below w.heap.size w w16 := hB15.trans (hb16.mono hB15.size)
            clear hb16
            obtain ⟨xy_0, xy_1, xy_2⟩ := hbxy.three
            have q := wread_calls A2 c2 l2 w16 HR2.out hc2 ho2 (by omega)
            rw [HU.out] at q
            refine q.mono ?_
            clear q
            rintro e w17 ⟨rfl, hb17⟩
            (try dsimp only)
            replace hbx0 := hbx0.below hb17
            clear x0_0 x0_1 x0_2 x0_3 x0_4 x0_5 x0_6 x0_7 x0_8
            obtain ⟨x0_0, x0_1, x0_2, x0_3, x0_4, x0_5, x0_6, x0_7, x0_8⟩ := hbx0.nine
            replace hbx1 := hbx1.below hb17
            clear x1_0 x1_1 x1_2
            obtain ⟨x1_0, x1_1, x1_2⟩ := hbx1.three
            replace HR2 := Lib.hid (Kd.C_below HR2.out hb17)
            replace HC11 := Lib.hid (Kd.C_below HC11.out hb17)
            replace hbxx := hbxx.below hb17
            clear xx_0 xx_1 xx_2 xx_3 xx_4 xx_5 xx_6 xx_7 xx_8
            obtain ⟨xx_0, xx_1, xx_2, xx_3, xx_4, xx_5, xx_6, xx_7, xx_8⟩ := hbxx.nine
            replace HC14 := Lib.hid (Kd.C_below HC14.out hb17)
            replace hbxy := hbxy.below hb17
            clear xy_0 xy_1 xy_2
            obtain ⟨xy_0, xy_1, xy_2⟩ := hbxy.three
            have hB17 : Below w.heap.size w w17 := hB16.trans (hb17.mono hB16.size)
            clear hb17
            obtain ⟨z0_0, z0_1, z0_2, z0_3, z0_4, z0_5, z0_6, z0_7, z0_8⟩ := (hbx0.below (below_alloc (Below.refl _ w17) (.cells #[.int .i64 U.1.kind, .int .i64 U.1.sub, .int .i64 U.1.addr, .int .i64 U.1.blk, .int .i64 U.1.n, .int .i64 U.1.q, .int .i64 U.1.i, .int .i64 U.1.h, .bool U.1.pair] 25))).nine
            obtain ⟨z1_0, z1_1, z1_2⟩ := (hbx1.below (below_alloc (Below.refl _ w17) (.cells #[.int .i64 U.1.kind, .int .i64 U.1.sub, .int .i64 U.1.addr, .int .i64 U.1.blk, .int .i64 U.1.n, .int .i64 U.1.q, .int .i64 U.1.i, .int .i64 U.1.h, .bool U.1.pair] 25))).three
            obtain ⟨zx_0, zx_1, zx_2, zx_3, zx_4, zx_5, zx_6, zx_7, zx_8⟩ := (hbxx.below (below_alloc (Below.refl _ w17) (.cells #[.int .i64 U.1.kind, .int .i64 U.1.sub, .int .i64 U.1.addr, .int .i64 U.1.blk, .int .i64 U.1.n, .int .i64 U.1.q, .int .i64 U.1.i, .int .i64 U.1.h, .bool U.1.pair] 25))).nine
            obtain ⟨zy_0, zy_1, zy_2⟩ := (hbxy.below (below_alloc (Below.refl _ w17) (.cells #[.int .i64 U.1.kind, .int .i64 U.1.sub, .int .i64 U.1.addr, .int .i64 U.1.blk, .int .i64 U.1.n, .int .i64 U.1.q, .int .i64 U.1.i, .int .i64 U.1.h, .bool U.1.pair] 25))).three
            go_wp2_with (fail)
            have hbxu := QC.new w17 (cellsQ U.1)
            have hb18 : Below w17.heap.size w17 (w17.alloc (.cells #[.int .i64 U.1.kind, .int .i64 U.1.sub, .int .i64 U.1.addr, .int .i64 U.1.blk, .int .i64 U.1.n, .int .i64 U.1.q, .int .i64 U.1.i, .int .i64 U.1.h, .bool U.1.pair] 25)) := below_alloc (Below.refl _ _) _
            generalize hwz : w17.alloc (.cells #[.int .i64 U.1.kind, .int .i64 U.1.sub, .int .i64 U.1.addr, .int .i64 U.1.blk, .int .i64 U.1.n, .int .i64 U.1.q, .int .i64 U.1.i, .int .i64 U.1.h, .bool U.1.pair] 25) = w18 at *
            clear hwz z0_0 z0_1 z0_2 z0_3 z0_4 z0_5 z0_6 z0_7 z0_8 z1_0 z1_1 z1_2 zx_0 zx_1 zx_2 zx_3 zx_4 zx_5 zx_6 zx_7 zx_8 zy_0 zy_1 zy_2
            replace hbx0 := hbx0.below hb18
            clear x0_0 x0_1 x0_2 x0_3 x0_4 x0_5 x0_6 x0_7 x0_8
            obtain ⟨x0_0, x0_1, x0_2, x0_3, x0_4, x0_5, x0_6, x0_7, x0_8⟩ := hbx0.nine
            replace hbx1 := hbx1.below hb18
            clear x1_0 x1_1 x1_2
            obtain ⟨x1_0, x1_1, x1_2⟩ := hbx1.three
            replace HR2 := Lib.hid (Kd.C_below HR2.out hb18)
            replace HC11 := Lib.hid (Kd.C_below HC11.out hb18)
            replace hbxx := hbxx.below hb18
            clear xx_0 xx_1 xx_2 xx_3 xx_4 xx_5 xx_6 xx_7 xx_8
            obtain ⟨xx_0, xx_1, xx_2, xx_3, xx_4, xx_5, xx_6, xx_7, xx_8⟩ := hbxx.nine
            replace HC14 := Lib.hid (Kd.C_below HC14.out hb18)
            replace hbxy := hbxy.below hb18
            clear xy_0 xy_1 xy_2
            obtain ⟨xy_0, xy_1, xy_2⟩ := hbxy.three
            have hB18 : Below w.heap.size w w18 := hB17.trans (hb18.mono hB17.size)
            clear hb18
            obtain ⟨xu_0, xu_1, xu_2, xu_3, xu_4, xu_5, xu_6, xu_7, xu_8⟩ := hbxu.nine
            have q := wPut_calls U.1 w18
            rw [HR.out] at q
            refine q.mono ?_
            clear q
            rintro e w19 ⟨A19, c19, rfl, hc19, hC19, hb19⟩
            dsimp only at hc19 hC19 ⊢
            replace hbx0 := hbx0.below hb19
            clear x0_0 x0_1 x0_2 x0_3 x0_4 x0_5 x0_6 x0_7 x0_8
            obtain ⟨x0_0, x0_1, x0_2, x0_3, x0_4, x0_5, x0_6, x0_7, x0_8⟩ := hbx0.nine
            replace hbx1 := hbx1.below hb19
            clear x1_0 x1_1 x1_2
            obtain ⟨x1_0, x1_1, x1_2⟩ := hbx1.three
            replace HR2 := Lib.hid (Kd.C_below HR2.out hb19)
            replace HC11 := Lib.hid (Kd.C_below HC11.out hb19)
            replace hbxx := hbxx.below hb19
            clear xx_0 xx_1 xx_2 xx_3 xx_4 xx_5 xx_6 xx_7 xx_8
            obtain ⟨xx_0, xx_1, xx_2, xx_3, xx_4, xx_5, xx_6, xx_7, xx_8⟩ := hbxx.nine
            replace HC14 := Lib.hid (Kd.C_below HC14.out hb19)
            replace hbxy := hbxy.below hb19
            clear xy_0 xy_1 xy_2
            obtain ⟨xy_0, xy_1, xy_2⟩ := hbxy.three
            replace hbxu := hbxu.below hb19
            clear xu_0 xu_1 xu_2 xu_3 xu_4 xu_5 xu_6 xu_7 xu_8
            obtain ⟨xu_0, xu_1, xu_2, xu_3, xu_4, xu_5, xu_6, xu_7, xu_8⟩ := hbxu.nine
            have hB19 : Below w.heap.size w w19 := hB18.trans (hb19.mono hB18.size)
            clear hb19
            have HC19 := Lib.hid hC19
            clear hC19
            go_wp2_with (fail)
            have q := whear_calls A2 c2 l2 w19 HR2.out hc2 ho2 (by omega)
            rw [HV.out] at q
            refine q.mono ?_
            clear q
            rintro e w20 ⟨rfl, hb20⟩
            (try dsimp only)
            replace hbx0 := hbx0.below hb20
            clear x0_0 x0_1 x0_2 x0_3 x0_4 x0_5 x0_6 x0_7 x0_8
            obtain ⟨x0_0, x0_1, x0_2, x0_3, x0_4, x0_5, x0_6, x0_7, x0_8⟩ := hbx0.nine
            replace hbx1 := hbx1.below hb20
            clear x1_0 x1_1 x1_2
            obtain ⟨x1_0, x1_1, x1_2⟩ := hbx1.three
            replace HR2 := Lib.hid (Kd.C_below HR2.out hb20)
            replace HC11 := Lib.hid (Kd.C_below HC11.out hb20)
            replace hbxx := hbxx.below hb20
            clear xx_0 xx_1 xx_2 xx_3 xx_4 xx_5 xx_6 xx_7 xx_8
            obtain ⟨xx_0, xx_1, xx_2, xx_3, xx_4, xx_5, xx_6, xx_7, xx_8⟩ := hbxx.nine
            replace HC14 := Lib.hid (Kd.C_below HC14.out hb20)
            replace hbxy := hbxy.below hb20
            clear xy_0 xy_1 xy_2
            obtain ⟨xy_0, xy_1, xy_2⟩ := hbxy.three
            replace hbxu := hbxu.below hb20
            clear xu_0 xu_1 xu_2 xu_3 xu_4 xu_5 xu_6 xu_7 xu_8
            obtain ⟨xu_0, xu_1, xu_2, xu_3, xu_4, xu_5, xu_6, xu_7, xu_8⟩ := hbxu.nine
            replace HC19 := Lib.hid (Kd.C_below HC19.out hb20)
            have hB20 : Below w.heap.size w w20 := hB19.trans (hb20.mono hB19.size)
            clear hb20
            obtain ⟨z0_0, z0_1, z0_2, z0_3, z0_4, z0_5, z0_6, z0_7, z0_8⟩ := (hbx0.below (below_alloc (Below.refl _ w20) (.cells #[.int .i64 V.1.e, .int .i64 V.1.a, .int .i64 V.1.b] 28))).nine
            obtain ⟨z1_0, z1_1, z1_2⟩ := (hbx1.below (below_alloc (Below.refl _ w20) (.cells #[.int .i64 V.1.e, .int .i64 V.1.a, .int .i64 V.1.b] 28))).three
            obtain ⟨zx_0, zx_1, zx_2, zx_3, zx_4, zx_5, zx_6, zx_7, zx_8⟩ := (hbxx.below (below_alloc (Below.refl _ w20) (.cells #[.int .i64 V.1.e, .int .i64 V.1.a, .int .i64 V.1.b] 28))).nine
            obtain ⟨zy_0, zy_1, zy_2⟩ := (hbxy.below (below_alloc (Below.refl _ w20) (.cells #[.int .i64 V.1.e, .int .i64 V.1.a, .int .i64 V.1.b] 28))).three
            obtain ⟨zu_0, zu_1, zu_2, zu_3, zu_4, zu_5, zu_6, zu_7, zu_8⟩ := (hbxu.below (below_alloc (Below.refl _ w20) (.cells #[.int .i64 V.1.e, .int .i64 V.1.a, .int .i64 V.1.b] 28))).nine
            go_wp2_with (fail)
            have hbxv := AC.new w20 V.1
            have hb21 : Below w20.heap.size w20 (w20.alloc (.cells #[.int .i64 V.1.e, .int .i64 V.1.a, .int .i64 V.1.b] 28)) := below_alloc (Below.refl _ _) _
            generalize hwz : w20.alloc (.cells #[.int .i64 V.1.e, .int .i64 V.1.a, .int .i64 V.1.b] 28) = w21 at *
            clear hwz z0_0 z0_1 z0_2 z0_3 z0_4 z0_5 z0_6 z0_7 z0_8 z1_0 z1_1 z1_2 zx_0 zx_1 zx_2 zx_3 zx_4 zx_5 zx_6 zx_7 zx_8 zy_0 zy_1 zy_2 zu_0 zu_1 zu_2 zu_3 zu_4 zu_5 zu_6 zu_7 zu_8
            replace hbx0 := hbx0.below hb21
            clear x0_0 x0_1 x0_2 x0_3 x0_4 x0_5 x0_6 x0_7 x0_8
            obtain ⟨x0_0, x0_1, x0_2, x0_3, x0_4, x0_5, x0_6, x0_7, x0_8⟩ := hbx0.nine
            replace hbx1 := hbx1.below hb21
            clear x1_0 x1_1 x1_2
            obtain ⟨x1_0, x1_1, x1_2⟩ := hbx1.three
            replace HR2 := Lib.hid (Kd.C_below HR2.out hb21)
            replace HC11 := Lib.hid (Kd.C_below HC11.out hb21)
            replace hbxx := hbxx.below hb21
            clear xx_0 xx_1 xx_2 xx_3 xx_4 xx_5 xx_6 xx_7 xx_8
            obtain ⟨xx_0, xx_1, xx_2, xx_3, xx_4, xx_5, xx_6, xx_7, xx_8⟩ := hbxx.nine
            replace HC14 := Lib.hid (Kd.C_below HC14.out hb21)
            replace hbxy := hbxy.below hb21
            clear xy_0 xy_1 xy_2
            obtain ⟨xy_0, xy_1, xy_2⟩ := hbxy.three
            replace hbxu := hbxu.below hb21
            clear xu_0 xu_1 xu_2 xu_3 xu_4 xu_5 xu_6 xu_7 xu_8
            obtain ⟨xu_0, xu_1, xu_2, xu_3, xu_4, xu_5, xu_6, xu_7, xu_8⟩ := hbxu.nine
            replace HC19 := Lib.hid (Kd.C_below HC19.out hb21)
            have hB21 : Below w.heap.size w w21 := hB20.trans (hb21.mono hB20.size)
            clear hb21
            obtain ⟨xv_0, xv_1, xv_2⟩ := hbxv.three
            have q := wtell_calls V.1 w21
            rw [HS.out] at q
            refine q.mono ?_
            clear q
            rintro e w22 ⟨A22, c22, rfl, hc22, hC22, hb22⟩
            dsimp only at hc22 hC22 ⊢
            replace hbx0 := hbx0.below hb22
            clear x0_0 x0_1 x0_2 x0_3 x0_4 x0_5 x0_6 x0_7 x0_8
            obtain ⟨x0_0, x0_1, x0_2, x0_3, x0_4, x0_5, x0_6, x0_7, x0_8⟩ := hbx0.nine
            replace hbx1 := hbx1.below hb22
            clear x1_0 x1_1 x1_2
            obtain ⟨x1_0, x1_1, x1_2⟩ := hbx1.three
            replace HR2 := Lib.hid (Kd.C_below HR2.out hb22)
            replace HC11 := Lib.hid (Kd.C_below HC11.out hb22)
            replace hbxx := hbxx.below hb22
            clear xx_0 xx_1 xx_2 xx_3 xx_4 xx_5 xx_6 xx_7 xx_8
            obtain ⟨xx_0, xx_1, xx_2, xx_3, xx_4, xx_5, xx_6, xx_7, xx_8⟩ := hbxx.nine
            replace HC14 := Lib.hid (Kd.C_below HC14.out hb22)
            replace hbxy := hbxy.below hb22
            clear xy_0 xy_1 xy_2
            obtain ⟨xy_0, xy_1, xy_2⟩ := hbxy.three
            replace hbxu := hbxu.below hb22
            clear xu_0 xu_1 xu_2 xu_3 xu_4 xu_5 xu_6 xu_7 xu_8
            obtain ⟨xu_0, xu_1, xu_2, xu_3, xu_4, xu_5, xu_6, xu_7, xu_8⟩ := hbxu.nine
            replace HC19 := Lib.hid (Kd.C_below HC19.out hb22)
            replace hbxv := hbxv.below hb22
            clear xv_0 xv_1 xv_2
            obtain ⟨xv_0, xv_1, xv_2⟩ := hbxv.three
            have hB22 : Below w.heap.size w w22 := hB21.trans (hb22.mono hB21.size)
            clear hb22
            have HC22 := Lib.hid hC22
            clear hC22
            clear HU HR HV HS
            obtain ⟨U, ue⟩ := U
            obtain ⟨V, ve⟩ := V
            obtain ⟨R, fits⟩ := R
            obtain ⟨S, has⟩ := S
            dsimp only at *
            have HUC1 := HUC.out
            have HVC1 := HVC.out
            clear HUC HVC
            have hcb := Kd.C_string (P := Try.prog) (c := c2) Try.underlying29 Try.underlying5 Try.underlying9 HR2.out
            have hcr := Kd.C_string (P := Try.prog) (c := c19) Try.underlying29 Try.underlying5 Try.underlying9 HC19.out
            have hcs := Kd.C_string (P := Try.prog) (c := c22) Try.underlying29 Try.underlying5 Try.underlying9 HC22.out
            rcases HUC1 with ⟨u1, u2⟩ | ⟨u1, u2⟩
            · skip
              have u3 : R = l2 := congrArg Prod.fst u2
              have u4 : fits = true := congrArg Prod.snd u2
              clear u2
              subst u1
              subst u3
              subst u4
              rcases HVC1 with ⟨v1, v2⟩ | ⟨v1, v2⟩
              · skip
                have v3 := congrArg Prod.fst v2
                have v4 := congrArg Prod.snd v2
                dsimp only at v3 v4
                clear v2
                subst v1
                subst v3
                subst v4
                go_wp2_with (fail)
                go_ret
                exact ⟨by simp, hB22⟩
              · skip
                subst v2
                have v1b : (ve != 0) = true := by simpa using v1
                have v1c : (ve == 0) = false := by simpa using v1
                clear v1
                go_wp2_with (fail)
                go_ret
                exact ⟨by simp, hB22⟩
            · skip
              subst u2
              have u1b : (ue != 0) = true := by simpa using u1
              have u1c : (ue == 0) = false := by simpa using u1
              clear u1
              rcases HVC1 with ⟨v1, v2⟩ | ⟨v1, v2⟩
              · skip
                have v3 := congrArg Prod.fst v2
                have v4 := congrArg Prod.snd v2
                dsimp only at v3 v4
                clear v2
                subst v1
                subst v3
                subst v4
                go_wp2_with (fail)
                go_ret
                exact ⟨by simp, hB22⟩
              · skip
                subst v2
                have v1b : (ve != 0) = true := by simpa using v1
                have v1c : (ve == 0) = false := by simpa using v1
                clear v1
                go_wp2_with (fail)
                go_ret
                exact ⟨by simp, hB22⟩
    | false =>
        clear HPX
        cases can with
        | true =>
            have hy := HTY.out rfl
            clear HTY
            subst hy
            dsimp only at *
            obtain ⟨z0_0, z0_1, z0_2, z0_3, z0_4, z0_5, z0_6, z0_7, z0_8⟩ := (hbx0.below (below_alloc (Below.refl _ w15) (.cells #[.int .i64 e1.e, .int .i64 e1.a, .int .i64 e1.b] 28))).nine
            obtain ⟨z1_0, z1_1, z1_2⟩ := (hbx1.below (below_alloc (Below.refl _ w15) (.cells #[.int .i64 e1.e, .int .i64 e1.a, .int .i64 e1.b] 28))).three
            obtain ⟨zx_0, zx_1, zx_2, zx_3, zx_4, zx_5, zx_6, zx_7, zx_8⟩ := (hbxx.below (below_alloc (Below.refl _ w15) (.cells #[.int .i64 e1.e, .int .i64 e1.a, .int .i64 e1.b] 28))).nine
            go_wp2_with (fail)
            have hbxy := AC.new w15 e1
            have hb16 : Below w15.heap.size w15 (w15.alloc (.cells #[.int .i64 e1.e, .int .i64 e1.a, .int .i64 e1.b] 28)) := below_alloc (Below.refl _ _) _
            generalize hwz : w15.alloc (.cells #[.int .i64 e1.e, .int .i64 e1.a, .int .i64 e1.b] 28) = w16 at *
            clear hwz z0_0 z0_1 z0_2 z0_3 z0_4 z0_5 z0_6 z0_7 z0_8 z1_0 z1_1 z1_2 zx_0 zx_1 zx_2 zx_3 zx_4 zx_5 zx_6 zx_7 zx_8
            replace hbx0 := hbx0.below hb16
            clear x0_0 x0_1 x0_2 x0_3 x0_4 x0_5 x0_6 x0_7 x0_8
            obtain ⟨x0_0, x0_1, x0_2, x0_3, x0_4, x0_5, x0_6, x0_7, x0_8⟩ := hbx0.nine
            replace hbx1 := hbx1.below hb16
            clear x1_0 x1_1 x1_2
            obtain ⟨x1_0, x1_1, x1_2⟩ := hbx1.three
            replace HR2 := Lib.hid (Kd.C_below HR2.out hb16)
            replace HC11 := Lib.hid (Kd.C_below HC11.out hb16)
            replace hbxx := hbxx.below hb16
            clear xx_0 xx_1 xx_2 xx_3 xx_4 xx_5 xx_6 xx_7 xx_8
            obtain ⟨xx_0, xx_1, xx_2, xx_3, xx_4, xx_5, xx_6, xx_7, xx_8⟩ := hbxx.nine
            replace HC14 := Lib.hid (Kd.C_below HC14.out hb16)
            have hB16 : Below w.heap.size w w16 := hB15.trans (hb16.mono hB15.size)
            clear hb16
            obtain ⟨xy_0, xy_1, xy_2⟩ := hbxy.three
            have q := wread_calls A2 c2 l2 w16 HR2.out hc2 ho2 (by omega)
            rw [HU.out] at q
            refine q.mono ?_
            clear q
            rintro e w17 ⟨rfl, hb17⟩
            (try dsimp only)
            replace hbx0 := hbx0.below hb17
            clear x0_0 x0_1 x0_2 x0_3 x0_4 x0_5 x0_6 x0_7 x0_8
            obtain ⟨x0_0, x0_1, x0_2, x0_3, x0_4, x0_5, x0_6, x0_7, x0_8⟩ := hbx0.nine
            replace hbx1 := hbx1.below hb17
            clear x1_0 x1_1 x1_2
            obtain ⟨x1_0, x1_1, x1_2⟩ := hbx1.three
            replace HR2 := Lib.hid (Kd.C_below HR2.out hb17)
            replace HC11 := Lib.hid (Kd.C_below HC11.out hb17)
            replace hbxx := hbxx.below hb17
            clear xx_0 xx_1 xx_2 xx_3 xx_4 xx_5 xx_6 xx_7 xx_8
            obtain ⟨xx_0, xx_1, xx_2, xx_3, xx_4, xx_5, xx_6, xx_7, xx_8⟩ := hbxx.nine
            replace HC14 := Lib.hid (Kd.C_below HC14.out hb17)
            replace hbxy := hbxy.below hb17
            clear xy_0 xy_1 xy_2
            obtain ⟨xy_0, xy_1, xy_2⟩ := hbxy.three
            have hB17 : Below w.heap.size w w17 := hB16.trans (hb17.mono hB16.size)
            clear hb17
            obtain ⟨z0_0, z0_1, z0_2, z0_3, z0_4, z0_5, z0_6, z0_7, z0_8⟩ := (hbx0.below (below_alloc (Below.refl _ w17) (.cells #[.int .i64 U.1.kind, .int .i64 U.1.sub, .int .i64 U.1.addr, .int .i64 U.1.blk, .int .i64 U.1.n, .int .i64 U.1.q, .int .i64 U.1.i, .int .i64 U.1.h, .bool U.1.pair] 25))).nine
            obtain ⟨z1_0, z1_1, z1_2⟩ := (hbx1.below (below_alloc (Below.refl _ w17) (.cells #[.int .i64 U.1.kind, .int .i64 U.1.sub, .int .i64 U.1.addr, .int .i64 U.1.blk, .int .i64 U.1.n, .int .i64 U.1.q, .int .i64 U.1.i, .int .i64 U.1.h, .bool U.1.pair] 25))).three
            obtain ⟨zx_0, zx_1, zx_2, zx_3, zx_4, zx_5, zx_6, zx_7, zx_8⟩ := (hbxx.below (below_alloc (Below.refl _ w17) (.cells #[.int .i64 U.1.kind, .int .i64 U.1.sub, .int .i64 U.1.addr, .int .i64 U.1.blk, .int .i64 U.1.n, .int .i64 U.1.q, .int .i64 U.1.i, .int .i64 U.1.h, .bool U.1.pair] 25))).nine
            obtain ⟨zy_0, zy_1, zy_2⟩ := (hbxy.below (below_alloc (Below.refl _ w17) (.cells #[.int .i64 U.1.kind, .int .i64 U.1.sub, .int .i64 U.1.addr, .int .i64 U.1.blk, .int .i64 U.1.n, .int .i64 U.1.q, .int .i64 U.1.i, .int .i64 U.1.h, .bool U.1.pair] 25))).three
            go_wp2_with (fail)
            have hbxu := QC.new w17 (cellsQ U.1)
            have hb18 : Below w17.heap.size w17 (w17.alloc (.cells #[.int .i64 U.1.kind, .int .i64 U.1.sub, .int .i64 U.1.addr, .int .i64 U.1.blk, .int .i64 U.1.n, .int .i64 U.1.q, .int .i64 U.1.i, .int .i64 U.1.h, .bool U.1.pair] 25)) := below_alloc (Below.refl _ _) _
            generalize hwz : w17.alloc (.cells #[.int .i64 U.1.kind, .int .i64 U.1.sub, .int .i64 U.1.addr, .int .i64 U.1.blk, .int .i64 U.1.n, .int .i64 U.1.q, .int .i64 U.1.i, .int .i64 U.1.h, .bool U.1.pair] 25) = w18 at *
            clear hwz z0_0 z0_1 z0_2 z0_3 z0_4 z0_5 z0_6 z0_7 z0_8 z1_0 z1_1 z1_2 zx_0 zx_1 zx_2 zx_3 zx_4 zx_5 zx_6 zx_7 zx_8 zy_0 zy_1 zy_2
            replace hbx0 := hbx0.below hb18
            clear x0_0 x0_1 x0_2 x0_3 x0_4 x0_5 x0_6 x0_7 x0_8
            obtain ⟨x0_0, x0_1, x0_2, x0_3, x0_4, x0_5, x0_6, x0_7, x0_8⟩ := hbx0.nine
            replace hbx1 := hbx1.below hb18
            clear x1_0 x1_1 x1_2
            obtain ⟨x1_0, x1_1, x1_2⟩ := hbx1.three
            replace HR2 := Lib.hid (Kd.C_below HR2.out hb18)
            replace HC11 := Lib.hid (Kd.C_below HC11.out hb18)
            replace hbxx := hbxx.below hb18
            clear xx_0 xx_1 xx_2 xx_3 xx_4 xx_5 xx_6 xx_7 xx_8
            obtain ⟨xx_0, xx_1, xx_2, xx_3, xx_4, xx_5, xx_6, xx_7, xx_8⟩ := hbxx.nine
            replace HC14 := Lib.hid (Kd.C_below HC14.out hb18)
            replace hbxy := hbxy.below hb18
            clear xy_0 xy_1 xy_2
            obtain ⟨xy_0, xy_1, xy_2⟩ := hbxy.three
            have hB18 : Below w.heap.size w w18 := hB17.trans (hb18.mono hB17.size)
            clear hb18
            obtain ⟨xu_0, xu_1, xu_2, xu_3, xu_4, xu_5, xu_6, xu_7, xu_8⟩ := hbxu.nine
            have q := wPut_calls U.1 w18
            rw [HR.out] at q
            refine q.mono ?_
            clear q
            rintro e w19 ⟨A19, c19, rfl, hc19, hC19, hb19⟩
            dsimp only at hc19 hC19 ⊢
            replace hbx0 := hbx0.below hb19
            clear x0_0 x0_1 x0_2 x0_3 x0_4 x0_5 x0_6 x0_7 x0_8
            obtain ⟨x0_0, x0_1, x0_2, x0_3, x0_4, x0_5, x0_6, x0_7, x0_8⟩ := hbx0.nine
            replace hbx1 := hbx1.below hb19
            clear x1_0 x1_1 x1_2
            obtain ⟨x1_0, x1_1, x1_2⟩ := hbx1.three
            replace HR2 := Lib.hid (Kd.C_below HR2.out hb19)
            replace HC11 := Lib.hid (Kd.C_below HC11.out hb19)
            replace hbxx := hbxx.below hb19
            clear xx_0 xx_1 xx_2 xx_3 xx_4 xx_5 xx_6 xx_7 xx_8
            obtain ⟨xx_0, xx_1, xx_2, xx_3, xx_4, xx_5, xx_6, xx_7, xx_8⟩ := hbxx.nine
            replace HC14 := Lib.hid (Kd.C_below HC14.out hb19)
            replace hbxy := hbxy.below hb19
            clear xy_0 xy_1 xy_2
            obtain ⟨xy_0, xy_1, xy_2⟩ := hbxy.three
            replace hbxu := hbxu.below hb19
            clear xu_0 xu_1 xu_2 xu_3 xu_4 xu_5 xu_6 xu_7 xu_8
            obtain ⟨xu_0, xu_1, xu_2, xu_3, xu_4, xu_5, xu_6, xu_7, xu_8⟩ := hbxu.nine
            have hB19 : Below w.heap.size w w19 := hB18.trans (hb19.mono hB18.size)
            clear hb19
            have HC19 := Lib.hid hC19
            clear hC19
            go_wp2_with (fail)
            have q := whear_calls A2 c2 l2 w19 HR2.out hc2 ho2 (by omega)
            rw [HV.out] at q
            refine q.mono ?_
            clear q
            rintro e w20 ⟨rfl, hb20⟩
            (try dsimp only)
            replace hbx0 := hbx0.below hb20
            clear x0_0 x0_1 x0_2 x0_3 x0_4 x0_5 x0_6 x0_7 x0_8
            obtain ⟨x0_0, x0_1, x0_2, x0_3, x0_4, x0_5, x0_6, x0_7, x0_8⟩ := hbx0.nine
            replace hbx1 := hbx1.below hb20
            clear x1_0 x1_1 x1_2
            obtain ⟨x1_0, x1_1, x1_2⟩ := hbx1.three
            replace HR2 := Lib.hid (Kd.C_below HR2.out hb20)
            replace HC11 := Lib.hid (Kd.C_below HC11.out hb20)
            replace hbxx := hbxx.below hb20
            clear xx_0 xx_1 xx_2 xx_3 xx_4 xx_5 xx_6 xx_7 xx_8
            obtain ⟨xx_0, xx_1, xx_2, xx_3, xx_4, xx_5, xx_6, xx_7, xx_8⟩ := hbxx.nine
            replace HC14 := Lib.hid (Kd.C_below HC14.out hb20)
            replace hbxy := hbxy.below hb20
            clear xy_0 xy_1 xy_2
            obtain ⟨xy_0, xy_1, xy_2⟩ := hbxy.three
            replace hbxu := hbxu.below hb20
            clear xu_0 xu_1 xu_2 xu_3 xu_4 xu_5 xu_6 xu_7 xu_8
            obtain ⟨xu_0, xu_1, xu_2, xu_3, xu_4, xu_5, xu_6, xu_7, xu_8⟩ := hbxu.nine
            replace HC19 := Lib.hid (Kd.C_below HC19.out hb20)
            have hB20 : Below w.heap.size w w20 := hB19.trans (hb20.mono hB19.size)
            clear hb20
            obtain ⟨z0_0, z0_1, z0_2, z0_3, z0_4, z0_5, z0_6, z0_7, z0_8⟩ := (hbx0.below (below_alloc (Below.refl _ w20) (.cells #[.int .i64 V.1.e, .int .i64 V.1.a, .int .i64 V.1.b] 28))).nine
            obtain ⟨z1_0, z1_1, z1_2⟩ := (hbx1.below (below_alloc (Below.refl _ w20) (.cells #[.int .i64 V.1.e, .int .i64 V.1.a, .int .i64 V.1.b] 28))).three
            obtain ⟨zx_0, zx_1, zx_2, zx_3, zx_4, zx_5, zx_6, zx_7, zx_8⟩ := (hbxx.below (below_alloc (Below.refl _ w20) (.cells #[.int .i64 V.1.e, .int .i64 V.1.a, .int .i64 V.1.b] 28))).nine
            obtain ⟨zy_0, zy_1, zy_2⟩ := (hbxy.below (below_alloc (Below.refl _ w20) (.cells #[.int .i64 V.1.e, .int .i64 V.1.a, .int .i64 V.1.b] 28))).three
            obtain ⟨zu_0, zu_1, zu_2, zu_3, zu_4, zu_5, zu_6, zu_7, zu_8⟩ := (hbxu.below (below_alloc (Below.refl _ w20) (.cells #[.int .i64 V.1.e, .int .i64 V.1.a, .int .i64 V.1.b] 28))).nine
            go_wp2_with (fail)
            have hbxv := AC.new w20 V.1
            have hb21 : Below w20.heap.size w20 (w20.alloc (.cells #[.int .i64 V.1.e, .int .i64 V.1.a, .int .i64 V.1.b] 28)) := below_alloc (Below.refl _ _) _
            generalize hwz : w20.alloc (.cells #[.int .i64 V.1.e, .int .i64 V.1.a, .int .i64 V.1.b] 28) = w21 at *
            clear hwz z0_0 z0_1 z0_2 z0_3 z0_4 z0_5 z0_6 z0_7 z0_8 z1_0 z1_1 z1_2 zx_0 zx_1 zx_2 zx_3 zx_4 zx_5 zx_6 zx_7 zx_8 zy_0 zy_1 zy_2 zu_0 zu_1 zu_2 zu_3 zu_4 zu_5 zu_6 zu_7 zu_8
            replace hbx0 := hbx0.below hb21
            clear x0_0 x0_1 x0_2 x0_3 x0_4 x0_5 x0_6 x0_7 x0_8
            obtain ⟨x0_0, x0_1, x0_2, x0_3, x0_4, x0_5, x0_6, x0_7, x0_8⟩ := hbx0.nine
            replace hbx1 := hbx1.below hb21
            clear x1_0 x1_1 x1_2
            obtain ⟨x1_0, x1_1, x1_2⟩ := hbx1.three
            replace HR2 := Lib.hid (Kd.C_below HR2.out hb21)
            replace HC11 := Lib.hid (Kd.C_below HC11.out hb21)
            replace hbxx := hbxx.below hb21
            clear xx_0 xx_1 xx_2 xx_3 xx_4 xx_5 xx_6 xx_7 xx_8
            obtain ⟨xx_0, xx_1, xx_2, xx_3, xx_4, xx_5, xx_6, xx_7, xx_8⟩ := hbxx.nine
            replace HC14 := Lib.hid (Kd.C_below HC14.out hb21)
            replace hbxy := hbxy.below hb21
            clear xy_0 xy_1 xy_2
            obtain ⟨xy_0, xy_1, xy_2⟩ := hbxy.three
            replace hbxu := hbxu.below hb21
            clear xu_0 xu_1 xu_2 xu_3 xu_4 xu_5 xu_6 xu_7 xu_8
            obtain ⟨xu_0, xu_1, xu_2, xu_3, xu_4, xu_5, xu_6, xu_7, xu_8⟩ := hbxu.nine
            replace HC19 := Lib.hid (Kd.C_below HC19.out hb21)
            have hB21 : Below w.heap.size w w21 := hB20.trans (hb21.mono hB20.size)
            clear hb21
            obtain ⟨xv_0, xv_1, xv_2⟩ := hbxv.three
            have q := wtell_calls V.1 w21
            rw [HS.out] at q
            refine q.mono ?_
            clear q
            rintro e w22 ⟨A22, c22, rfl, hc22, hC22, hb22⟩
            dsimp only at hc22 hC22 ⊢
            replace hbx0 := hbx0.below hb22
            clear x0_0 x0_1 x0_2 x0_3 x0_4 x0_5 x0_6 x0_7 x0_8
            obtain ⟨x0_0, x0_1, x0_2, x0_3, x0_4, x0_5, x0_6, x0_7, x0_8⟩ := hbx0.nine
            replace hbx1 := hbx1.below hb22
            clear x1_0 x1_1 x1_2
            obtain ⟨x1_0, x1_1, x1_2⟩ := hbx1.three
            replace HR2 := Lib.hid (Kd.C_below HR2.out hb22)
            replace HC11 := Lib.hid (Kd.C_below HC11.out hb22)
            replace hbxx := hbxx.below hb22
            clear xx_0 xx_1 xx_2 xx_3 xx_4 xx_5 xx_6 xx_7 xx_8
            obtain ⟨xx_0, xx_1, xx_2, xx_3, xx_4, xx_5, xx_6, xx_7, xx_8⟩ := hbxx.nine
            replace HC14 := Lib.hid (Kd.C_below HC14.out hb22)
            replace hbxy := hbxy.below hb22
            clear xy_0 xy_1 xy_2
            obtain ⟨xy_0, xy_1, xy_2⟩ := hbxy.three
            replace hbxu := hbxu.below hb22
            clear xu_0 xu_1 xu_2 xu_3 xu_4 xu_5 xu_6 xu_7 xu_8
            obtain ⟨xu_0, xu_1, xu_2, xu_3, xu_4, xu_5, xu_6, xu_7, xu_8⟩ := hbxu.nine
            replace HC19 := Lib.hid (Kd.C_below HC19.out hb22)
            replace hbxv := hbxv.below hb22
            clear xv_0 xv_1 xv_2
            obtain ⟨xv_0, xv_1, xv_2⟩ := hbxv.three
            have hB22 : Below w.heap.size w w22 := hB21.trans (hb22.mono hB21.size)
            clear hb22
            have HC22 := Lib.hid hC22
            clear hC22
            clear HU HR HV HS
            obtain ⟨U, ue⟩ := U
            obtain ⟨V, ve⟩ := V
            obtain ⟨R, fits⟩ := R
            obtain ⟨S, has⟩ := S
            dsimp only at *
            have HUC1 := HUC.out
            have HVC1 := HVC.out
            clear HUC HVC
            have hcb := Kd.C_string (P := Try.prog) (c := c2) Try.underlying29 Try.underlying5 Try.underlying9 HR2.out
            have hcr := Kd.C_string (P := Try.prog) (c := c19) Try.underlying29 Try.underlying5 Try.underlying9 HC19.out
            have hcs := Kd.C_string (P := Try.prog) (c := c22) Try.underlying29 Try.underlying5 Try.underlying9 HC22.out
            rcases HUC1 with ⟨u1, u2⟩ | ⟨u1, u2⟩
            · skip
              have u3 : R = l2 := congrArg Prod.fst u2
              have u4 : fits = true := congrArg Prod.snd u2
              clear u2
              subst u1
              subst u3
              subst u4
              rcases HVC1 with ⟨v1, v2⟩ | ⟨v1, v2⟩
              · skip
                have v3 := congrArg Prod.fst v2
                have v4 := congrArg Prod.snd v2
                dsimp only at v3 v4
                clear v2
                subst v1
                subst v3
                subst v4
                go_wp2_with (fail)
                go_ret
                exact ⟨by simp, hB22⟩
              · skip
                subst v2
                have v1b : (ve != 0) = true := by simpa using v1
                have v1c : (ve == 0) = false := by simpa using v1
                clear v1
                go_wp2_with (fail)
                go_ret
                exact ⟨by simp, hB22⟩
            · skip
              subst u2
              have u1b : (ue != 0) = true := by simpa using u1
              have u1c : (ue == 0) = false := by simpa using u1
              clear u1
              rcases HVC1 with ⟨v1, v2⟩ | ⟨v1, v2⟩
              · skip
                have v3 := congrArg Prod.fst v2
                have v4 := congrArg Prod.snd v2
                dsimp only at v3 v4
                clear v2
                subst v1
                subst v3
                subst v4
                go_wp2_with (fail)
                go_ret
                exact ⟨by simp, hB22⟩
              · skip
                subst v2
                have v1b : (ve != 0) = true := by simpa using v1
                have v1c : (ve == 0) = false := by simpa using v1
                clear v1
                go_wp2_with (fail)
                go_ret
                exact ⟨by simp, hB22⟩
        | false =>
            clear HTY
            obtain ⟨z0_0, z0_1, z0_2, z0_3, z0_4, z0_5, z0_6, z0_7, z0_8⟩ := (hbx0.below (below_alloc (Below.refl _ w15) (.cells #[.int .i64 Y.1.e, .int .i64 Y.1.a, .int .i64 Y.1.b] 28))).nine
            obtain ⟨z1_0, z1_1, z1_2⟩ := (hbx1.below (below_alloc (Below.refl _ w15) (.cells #[.int .i64 Y.1.e, .int .i64 Y.1.a, .int .i64 Y.1.b] 28))).three
            obtain ⟨zx_0, zx_1, zx_2, zx_3, zx_4, zx_5, zx_6, zx_7, zx_8⟩ := (hbxx.below (below_alloc (Below.refl _ w15) (.cells #[.int .i64 Y.1.e, .int .i64 Y.1.a, .int .i64 Y.1.b] 28))).nine
            go_wp2_with (fail)
            have hbxy := AC.new w15 Y.1
            have hb16 : Below w15.heap.size w15 (w15.alloc (.cells #[.int .i64 Y.1.e, .int .i64 Y.1.a, .int .i64 Y.1.b] 28)) := below_alloc (Below.refl _ _) _
            generalize hwz : w15.alloc (.cells #[.int .i64 Y.1.e, .int .i64 Y.1.a, .int .i64 Y.1.b] 28) = w16 at *
            clear hwz z0_0 z0_1 z0_2 z0_3 z0_4 z0_5 z0_6 z0_7 z0_8 z1_0 z1_1 z1_2 zx_0 zx_1 zx_2 zx_3 zx_4 zx_5 zx_6 zx_7 zx_8
            replace hbx0 := hbx0.below hb16
            clear x0_0 x0_1 x0_2 x0_3 x0_4 x0_5 x0_6 x0_7 x0_8
            obtain ⟨x0_0, x0_1, x0_2, x0_3, x0_4, x0_5, x0_6, x0_7, x0_8⟩ := hbx0.nine
            replace hbx1 := hbx1.below hb16
            clear x1_0 x1_1 x1_2
            obtain ⟨x1_0, x1_1, x1_2⟩ := hbx1.three
            replace HR2 := Lib.hid (Kd.C_below HR2.out hb16)
            replace HC11 := Lib.hid (Kd.C_below HC11.out hb16)
            replace hbxx := hbxx.below hb16
            clear xx_0 xx_1 xx_2 xx_3 xx_4 xx_5 xx_6 xx_7 xx_8
            obtain ⟨xx_0, xx_1, xx_2, xx_3, xx_4, xx_5, xx_6, xx_7, xx_8⟩ := hbxx.nine
            replace HC14 := Lib.hid (Kd.C_below HC14.out hb16)
            have hB16 : Below w.heap.size w w16 := hB15.trans (hb16.mono hB15.size)
            clear hb16
            obtain ⟨xy_0, xy_1, xy_2⟩ := hbxy.three
            have q := wread_calls A2 c2 l2 w16 HR2.out hc2 ho2 (by omega)
            rw [HU.out] at q
            refine q.mono ?_
            clear q
            rintro e w17 ⟨rfl, hb17⟩
            (try dsimp only)
            replace hbx0 := hbx0.below hb17
            clear x0_0 x0_1 x0_2 x0_3 x0_4 x0_5 x0_6 x0_7 x0_8
            obtain ⟨x0_0, x0_1, x0_2, x0_3, x0_4, x0_5, x0_6, x0_7, x0_8⟩ := hbx0.nine
            replace hbx1 := hbx1.below hb17
            clear x1_0 x1_1 x1_2
            obtain ⟨x1_0, x1_1, x1_2⟩ := hbx1.three
            replace HR2 := Lib.hid (Kd.C_below HR2.out hb17)
            replace HC11 := Lib.hid (Kd.C_below HC11.out hb17)
            replace hbxx := hbxx.below hb17
            clear xx_0 xx_1 xx_2 xx_3 xx_4 xx_5 xx_6 xx_7 xx_8
            obtain ⟨xx_0, xx_1, xx_2, xx_3, xx_4, xx_5, xx_6, xx_7, xx_8⟩ := hbxx.nine
            replace HC14 := Lib.hid (Kd.C_below HC14.out hb17)
            replace hbxy := hbxy.below hb17
            clear xy_0 xy_1 xy_2
            obtain ⟨xy_0, xy_1, xy_2⟩ := hbxy.three
            have hB17 : Below w.heap.size w w17 := hB16.trans (hb17.mono hB16.size)
            clear hb17
            obtain ⟨z0_0, z0_1, z0_2, z0_3, z0_4, z0_5, z0_6, z0_7, z0_8⟩ := (hbx0.below (below_alloc (Below.refl _ w17) (.cells #[.int .i64 U.1.kind, .int .i64 U.1.sub, .int .i64 U.1.addr, .int .i64 U.1.blk, .int .i64 U.1.n, .int .i64 U.1.q, .int .i64 U.1.i, .int .i64 U.1.h, .bool U.1.pair] 25))).nine
            obtain ⟨z1_0, z1_1, z1_2⟩ := (hbx1.below (below_alloc (Below.refl _ w17) (.cells #[.int .i64 U.1.kind, .int .i64 U.1.sub, .int .i64 U.1.addr, .int .i64 U.1.blk, .int .i64 U.1.n, .int .i64 U.1.q, .int .i64 U.1.i, .int .i64 U.1.h, .bool U.1.pair] 25))).three
            obtain ⟨zx_0, zx_1, zx_2, zx_3, zx_4, zx_5, zx_6, zx_7, zx_8⟩ := (hbxx.below (below_alloc (Below.refl _ w17) (.cells #[.int .i64 U.1.kind, .int .i64 U.1.sub, .int .i64 U.1.addr, .int .i64 U.1.blk, .int .i64 U.1.n, .int .i64 U.1.q, .int .i64 U.1.i, .int .i64 U.1.h, .bool U.1.pair] 25))).nine
            obtain ⟨zy_0, zy_1, zy_2⟩ := (hbxy.below (below_alloc (Below.refl _ w17) (.cells #[.int .i64 U.1.kind, .int .i64 U.1.sub, .int .i64 U.1.addr, .int .i64 U.1.blk, .int .i64 U.1.n, .int .i64 U.1.q, .int .i64 U.1.i, .int .i64 U.1.h, .bool U.1.pair] 25))).three
            go_wp2_with (fail)
            have hbxu := QC.new w17 (cellsQ U.1)
            have hb18 : Below w17.heap.size w17 (w17.alloc (.cells #[.int .i64 U.1.kind, .int .i64 U.1.sub, .int .i64 U.1.addr, .int .i64 U.1.blk, .int .i64 U.1.n, .int .i64 U.1.q, .int .i64 U.1.i, .int .i64 U.1.h, .bool U.1.pair] 25)) := below_alloc (Below.refl _ _) _
            generalize hwz : w17.alloc (.cells #[.int .i64 U.1.kind, .int .i64 U.1.sub, .int .i64 U.1.addr, .int .i64 U.1.blk, .int .i64 U.1.n, .int .i64 U.1.q, .int .i64 U.1.i, .int .i64 U.1.h, .bool U.1.pair] 25) = w18 at *
            clear hwz z0_0 z0_1 z0_2 z0_3 z0_4 z0_5 z0_6 z0_7 z0_8 z1_0 z1_1 z1_2 zx_0 zx_1 zx_2 zx_3 zx_4 zx_5 zx_6 zx_7 zx_8 zy_0 zy_1 zy_2
            replace hbx0 := hbx0.below hb18
            clear x0_0 x0_1 x0_2 x0_3 x0_4 x0_5 x0_6 x0_7 x0_8
            obtain ⟨x0_0, x0_1, x0_2, x0_3, x0_4, x0_5, x0_6, x0_7, x0_8⟩ := hbx0.nine
            replace hbx1 := hbx1.below hb18
            clear x1_0 x1_1 x1_2
            obtain ⟨x1_0, x1_1, x1_2⟩ := hbx1.three
            replace HR2 := Lib.hid (Kd.C_below HR2.out hb18)
            replace HC11 := Lib.hid (Kd.C_below HC11.out hb18)
            replace hbxx := hbxx.below hb18
            clear xx_0 xx_1 xx_2 xx_3 xx_4 xx_5 xx_6 xx_7 xx_8
            obtain ⟨xx_0, xx_1, xx_2, xx_3, xx_4, xx_5, xx_6, xx_7, xx_8⟩ := hbxx.nine
            replace HC14 := Lib.hid (Kd.C_below HC14.out hb18)
            replace hbxy := hbxy.below hb18
            clear xy_0 xy_1 xy_2
            obtain ⟨xy_0, xy_1, xy_2⟩ := hbxy.three
            have hB18 : Below w.heap.size w w18 := hB17.trans (hb18.mono hB17.size)
            clear hb18
            obtain ⟨xu_0, xu_1, xu_2, xu_3, xu_4, xu_5, xu_6, xu_7, xu_8⟩ := hbxu.nine
            have q := wPut_calls U.1 w18
            rw [HR.out] at q
            refine q.mono ?_
            clear q
            rintro e w19 ⟨A19, c19, rfl, hc19, hC19, hb19⟩
            dsimp only at hc19 hC19 ⊢
            replace hbx0 := hbx0.below hb19
            clear x0_0 x0_1 x0_2 x0_3 x0_4 x0_5 x0_6 x0_7 x0_8
            obtain ⟨x0_0, x0_1, x0_2, x0_3, x0_4, x0_5, x0_6, x0_7, x0_8⟩ := hbx0.nine
            replace hbx1 := hbx1.below hb19
            clear x1_0 x1_1 x1_2
            obtain ⟨x1_0, x1_1, x1_2⟩ := hbx1.three
            replace HR2 := Lib.hid (Kd.C_below HR2.out hb19)
            replace HC11 := Lib.hid (Kd.C_below HC11.out hb19)
            replace hbxx := hbxx.below hb19
            clear xx_0 xx_1 xx_2 xx_3 xx_4 xx_5 xx_6 xx_7 xx_8
            obtain ⟨xx_0, xx_1, xx_2, xx_3, xx_4, xx_5, xx_6, xx_7, xx_8⟩ := hbxx.nine
            replace HC14 := Lib.hid (Kd.C_below HC14.out hb19)
            replace hbxy := hbxy.below hb19
            clear xy_0 xy_1 xy_2
            obtain ⟨xy_0, xy_1, xy_2⟩ := hbxy.three
            replace hbxu := hbxu.below hb19
            clear xu_0 xu_1 xu_2 xu_3 xu_4 xu_5 xu_6 xu_7 xu_8
            obtain ⟨xu_0, xu_1, xu_2, xu_3, xu_4, xu_5, xu_6, xu_7, xu_8⟩ := hbxu.nine
            have hB19 : Below w.heap.size w w19 := hB18.trans (hb19.mono hB18.size)
            clear hb19
            have HC19 := Lib.hid hC19
            clear hC19
            go_wp2_with (fail)
            have q := whear_calls A2 c2 l2 w19 HR2.out hc2 ho2 (by omega)
            rw [HV.out] at q
            refine q.mono ?_
            clear q
            rintro e w20 ⟨rfl, hb20⟩
            (try dsimp only)
            replace hbx0 := hbx0.below hb20
            clear x0_0 x0_1 x0_2 x0_3 x0_4 x0_5 x0_6 x0_7 x0_8
            obtain ⟨x0_0, x0_1, x0_2, x0_3, x0_4, x0_5, x0_6, x0_7, x0_8⟩ := hbx0.nine
            replace hbx1 := hbx1.below hb20
            clear x1_0 x1_1 x1_2
            obtain ⟨x1_0, x1_1, x1_2⟩ := hbx1.three
            replace HR2 := Lib.hid (Kd.C_below HR2.out hb20)
            replace HC11 := Lib.hid (Kd.C_below HC11.out hb20)
            replace hbxx := hbxx.below hb20
            clear xx_0 xx_1 xx_2 xx_3 xx_4 xx_5 xx_6 xx_7 xx_8
            obtain ⟨xx_0, xx_1, xx_2, xx_3, xx_4, xx_5, xx_6, xx_7, xx_8⟩ := hbxx.nine
            replace HC14 := Lib.hid (Kd.C_below HC14.out hb20)
            replace hbxy := hbxy.below hb20
            clear xy_0 xy_1 xy_2
            obtain ⟨xy_0, xy_1, xy_2⟩ := hbxy.three
            replace hbxu := hbxu.below hb20
            clear xu_0 xu_1 xu_2 xu_3 xu_4 xu_5 xu_6 xu_7 xu_8
            obtain ⟨xu_0, xu_1, xu_2, xu_3, xu_4, xu_5, xu_6, xu_7, xu_8⟩ := hbxu.nine
            replace HC19 := Lib.hid (Kd.C_below HC19.out hb20)
            have hB20 : Below w.heap.size w w20 := hB19.trans (hb20.mono hB19.size)
            clear hb20
            obtain ⟨z0_0, z0_1, z0_2, z0_3, z0_4, z0_5, z0_6, z0_7, z0_8⟩ := (hbx0.below (below_alloc (Below.refl _ w20) (.cells #[.int .i64 V.1.e, .int .i64 V.1.a, .int .i64 V.1.b] 28))).nine
            obtain ⟨z1_0, z1_1, z1_2⟩ := (hbx1.below (below_alloc (Below.refl _ w20) (.cells #[.int .i64 V.1.e, .int .i64 V.1.a, .int .i64 V.1.b] 28))).three
            obtain ⟨zx_0, zx_1, zx_2, zx_3, zx_4, zx_5, zx_6, zx_7, zx_8⟩ := (hbxx.below (below_alloc (Below.refl _ w20) (.cells #[.int .i64 V.1.e, .int .i64 V.1.a, .int .i64 V.1.b] 28))).nine
            obtain ⟨zy_0, zy_1, zy_2⟩ := (hbxy.below (below_alloc (Below.refl _ w20) (.cells #[.int .i64 V.1.e, .int .i64 V.1.a, .int .i64 V.1.b] 28))).three
            obtain ⟨zu_0, zu_1, zu_2, zu_3, zu_4, zu_5, zu_6, zu_7, zu_8⟩ := (hbxu.below (below_alloc (Below.refl _ w20) (.cells #[.int .i64 V.1.e, .int .i64 V.1.a, .int .i64 V.1.b] 28))).nine
            go_wp2_with (fail)
            have hbxv := AC.new w20 V.1
            have hb21 : Below w20.heap.size w20 (w20.alloc (.cells #[.int .i64 V.1.e, .int .i64 V.1.a, .int .i64 V.1.b] 28)) := below_alloc (Below.refl _ _) _
            generalize hwz : w20.alloc (.cells #[.int .i64 V.1.e, .int .i64 V.1.a, .int .i64 V.1.b] 28) = w21 at *
            clear hwz z0_0 z0_1 z0_2 z0_3 z0_4 z0_5 z0_6 z0_7 z0_8 z1_0 z1_1 z1_2 zx_0 zx_1 zx_2 zx_3 zx_4 zx_5 zx_6 zx_7 zx_8 zy_0 zy_1 zy_2 zu_0 zu_1 zu_2 zu_3 zu_4 zu_5 zu_6 zu_7 zu_8
            replace hbx0 := hbx0.below hb21
            clear x0_0 x0_1 x0_2 x0_3 x0_4 x0_5 x0_6 x0_7 x0_8
            obtain ⟨x0_0, x0_1, x0_2, x0_3, x0_4, x0_5, x0_6, x0_7, x0_8⟩ := hbx0.nine
            replace hbx1 := hbx1.below hb21
            clear x1_0 x1_1 x1_2
            obtain ⟨x1_0, x1_1, x1_2⟩ := hbx1.three
            replace HR2 := Lib.hid (Kd.C_below HR2.out hb21)
            replace HC11 := Lib.hid (Kd.C_below HC11.out hb21)
            replace hbxx := hbxx.below hb21
            clear xx_0 xx_1 xx_2 xx_3 xx_4 xx_5 xx_6 xx_7 xx_8
            obtain ⟨xx_0, xx_1, xx_2, xx_3, xx_4, xx_5, xx_6, xx_7, xx_8⟩ := hbxx.nine
            replace HC14 := Lib.hid (Kd.C_below HC14.out hb21)
            replace hbxy := hbxy.below hb21
            clear xy_0 xy_1 xy_2
            obtain ⟨xy_0, xy_1, xy_2⟩ := hbxy.three
            replace hbxu := hbxu.below hb21
            clear xu_0 xu_1 xu_2 xu_3 xu_4 xu_5 xu_6 xu_7 xu_8
            obtain ⟨xu_0, xu_1, xu_2, xu_3, xu_4, xu_5, xu_6, xu_7, xu_8⟩ := hbxu.nine
            replace HC19 := Lib.hid (Kd.C_below HC19.out hb21)
            have hB21 : Below w.heap.size w w21 := hB20.trans (hb21.mono hB20.size)
            clear hb21
            obtain ⟨xv_0, xv_1, xv_2⟩ := hbxv.three
            have q := wtell_calls V.1 w21
            rw [HS.out] at q
            refine q.mono ?_
            clear q
            rintro e w22 ⟨A22, c22, rfl, hc22, hC22, hb22⟩
            dsimp only at hc22 hC22 ⊢
            replace hbx0 := hbx0.below hb22
            clear x0_0 x0_1 x0_2 x0_3 x0_4 x0_5 x0_6 x0_7 x0_8
            obtain ⟨x0_0, x0_1, x0_2, x0_3, x0_4, x0_5, x0_6, x0_7, x0_8⟩ := hbx0.nine
            replace hbx1 := hbx1.below hb22
            clear x1_0 x1_1 x1_2
            obtain ⟨x1_0, x1_1, x1_2⟩ := hbx1.three
            replace HR2 := Lib.hid (Kd.C_below HR2.out hb22)
            replace HC11 := Lib.hid (Kd.C_below HC11.out hb22)
            replace hbxx := hbxx.below hb22
            clear xx_0 xx_1 xx_2 xx_3 xx_4 xx_5 xx_6 xx_7 xx_8
            obtain ⟨xx_0, xx_1, xx_2, xx_3, xx_4, xx_5, xx_6, xx_7, xx_8⟩ := hbxx.nine
            replace HC14 := Lib.hid (Kd.C_below HC14.out hb22)
            replace hbxy := hbxy.below hb22
            clear xy_0 xy_1 xy_2
            obtain ⟨xy_0, xy_1, xy_2⟩ := hbxy.three
            replace hbxu := hbxu.below hb22
            clear xu_0 xu_1 xu_2 xu_3 xu_4 xu_5 xu_6 xu_7 xu_8
            obtain ⟨xu_0, xu_1, xu_2, xu_3, xu_4, xu_5, xu_6, xu_7, xu_8⟩ := hbxu.nine
            replace HC19 := Lib.hid (Kd.C_below HC19.out hb22)
            replace hbxv := hbxv.below hb22
            clear xv_0 xv_1 xv_2
            obtain ⟨xv_0, xv_1, xv_2⟩ := hbxv.three
            have hB22 : Below w.heap.size w w22 := hB21.trans (hb22.mono hB21.size)
            clear hb22
            have HC22 := Lib.hid hC22
            clear hC22
            clear HU HR HV HS
            obtain ⟨U, ue⟩ := U
            obtain ⟨V, ve⟩ := V
            obtain ⟨R, fits⟩ := R
            obtain ⟨S, has⟩ := S
            dsimp only at *
            have HUC1 := HUC.out
            have HVC1 := HVC.out
            clear HUC HVC
            have hcb := Kd.C_string (P := Try.prog) (c := c2) Try.underlying29 Try.underlying5 Try.underlying9 HR2.out
            have hcr := Kd.C_string (P := Try.prog) (c := c19) Try.underlying29 Try.underlying5 Try.underlying9 HC19.out
            have hcs := Kd.C_string (P := Try.prog) (c := c22) Try.underlying29 Try.underlying5 Try.underlying9 HC22.out
            rcases HUC1 with ⟨u1, u2⟩ | ⟨u1, u2⟩
            · skip
              have u3 : R = l2 := congrArg Prod.fst u2
              have u4 : fits = true := congrArg Prod.snd u2
              clear u2
              subst u1
              subst u3
              subst u4
              rcases HVC1 with ⟨v1, v2⟩ | ⟨v1, v2⟩
              · skip
                have v3 := congrArg Prod.fst v2
                have v4 := congrArg Prod.snd v2
                dsimp only at v3 v4
                clear v2
                subst v1
                subst v3
                subst v4
                go_wp2_with (fail)
                go_ret
                exact ⟨by simp, hB22⟩
              · skip
                subst v2
                have v1b : (ve != 0) = true := by simpa using v1
                have v1c : (ve == 0) = false := by simpa using v1
                clear v1
                go_wp2_with (fail)
                go_ret
                exact ⟨by simp, hB22⟩
            · skip
              subst u2
              have u1b : (ue != 0) = true := by simpa using u1
              have u1c : (ue == 0) = false := by simpa using u1
              clear u1
              rcases HVC1 with ⟨v1, v2⟩ | ⟨v1, v2⟩
              · skip
                have v3 := congrArg Prod.fst v2
                have v4 := congrArg Prod.snd v2
                dsimp only at v3 v4
                clear v2
                subst v1
                subst v3
                subst v4
                go_wp2_with (fail)
                go_ret
                exact ⟨by simp, hB22⟩
              · skip
                subst v2
                have v1b : (ve != 0) = true := by simpa using v1
                have v1c : (ve == 0) = false := by simpa using v1
                clear v1
                go_wp2_with (fail)
                go_ret
                exact ⟨by simp, hB22⟩
  · skip
    have gi2 : (1500 : Int) < (l2.length : Int) := by omega
    go_wp2_with (fail)
    go_ret
    exact ⟨rfl, hB10⟩

end Go.Proofs.Ytiopafdndlodoaa.H
