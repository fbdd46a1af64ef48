import Derived.Test.YtnicndnbloohhaaRecAw
import Derived.Test.YtnicndnbloohhaaRecO
import Derived.Deep.RegionHeld3
import Derived.Deep.QuietTactic
import Derived.BigQuiet
import Derived.OpenShut
/-! The law RecScans, walked. -/
namespace Go.Proofs.Ytnicndnbloohhaa.H
open Go.RowKit Moor Go.Proofs.YtnicndnbloohhaaW.PrintWords Go.Proofs.YtnicndnbloohhaaW.PrintLast Go.Proofs.YtnicndnbloohhaaW.PrintMore
set_option linter.unusedVariables false
set_option linter.unusedSimpArgs false

set_option maxRecDepth 100000 in
set_option maxHeartbeats 8000000 in
theorem recScans_walk (A0 : Option Addr) (c0 : Nat) (l0 : List Int) (w : World) (hr0 : Kd.C (Kd.int .u8) w A0 l0.length l0) (hc0 : l0.length ≤ c0) (ho0 : okB l0) (hs0 : l0.length ≤ 140737488351232) :
    Calls Try.prog 7 #[.slice A0 l0.length c0] w fun e w' => e = .returned (.bool true) ∧ Below w.heap.size w w' := by
  go_enter Try.func7, Try.ntmps7
  go_wp2_with (fail)
  refine (awake_true _).mono ?_
  rintro e w1 ⟨rfl, hb1⟩

  have hB1 : Below w.heap.size w w1 := hb1
  clear hb1
  by_cases g : l0.length ≤ 3000
  · have gi : ¬ (3000 : Int) < (l0.length : Int) := by omega
    have HR := Lib.hid hr0
    clear hr0
    go_wp2_with (fail)
    refine (recScan_calls A0 c0 l0 w1 (Kd.C_below HR.out hB1) hc0 ho0 (by omega)).mono ?_
    rintro e w2 ⟨A2, c2, rfl, hc2, hC2, hb2⟩
    have hB2 : Below w.heap.size w w2 := hB1.trans (hb2.mono hB1.size)
    obtain ⟨s1, s2, s3, s4⟩ := rScan_ok ho0
    have hxo : ∀ r ∈ (rScan l0).1, okB r.body := okB_joined (by rw [s3]; exact okB_take ho0 _)
    have hxl : (rScan l0).1.length ≤ 3000 := by
      have h1 := joinR_long (rScan l0).1
      rw [s3, List.length_take] at h1
      omega
    have hj : joinedR (rScan l0).1 = (l0.take (rScan l0).2, true) := by unfold joinedR; rw [if_pos s1, s3]
    generalize (rScan l0).1 = x at *
    generalize (rScan l0).2 = n at *
    obtain ⟨y, hy⟩ : ∃ y, l0.take n = y := ⟨_, rfl⟩
    rw [hy] at hj
    have HY := Lib.hid hy
    clear hy
    have HC2 := Lib.hid hC2
    have S4 := Lib.hid s4
    clear hC2 hb2 s1 s3 s4
    go_wp2_with (fail)
    have q := joined_calls A2 c2 x w2 HC2.out (by simpa using hc2) hxo (by omega)
    rw [hj] at q
    refine q.mono ?_
    clear q
    rintro e w3 ⟨A3, c3, rfl, hc3, hC3, hb3⟩
    dsimp only at hc3 hC3 ⊢
    have hB3 : Below w.heap.size w w3 := hB2.trans (hb3.mono hB2.size)
    have HC3 := Lib.hid hC3
    clear hC3 hb3 hj HC2
    go_wp2_with (fail)
    refine (recGet_calls A0 c0 l0 (n : Int) w3 (Kd.C_below HR.out hB3) hc0 ho0 (by omega)).mono ?_
    rintro e w4 ⟨A4, c4, rfl, hc4, hC4, hb4, -⟩
    have hB4 : Below w.heap.size w w4 := hB3.trans (hb4.mono hB3.size)
    have HC4 := Lib.hid (Kd.C_below HC3.out hb4)
    obtain ⟨t1, t2, t3⟩ := takeB A0 c0 l0 (n : Int) (by omega) (by omega) hc0
    rw [Int.toNat_natCast, HY.out] at t1 t2 t3
    have s4 := S4.out
    generalize rGet l0 (n : Int) = g4 at *
    have hne : (g4.2.2 != 0) = true := by simpa using s4
    have hnl : (n : Int) ≤ (l0.length : Int) := by omega
    have HT := Lib.hid (t2 w4 (Kd.C_below HR.out hB4))
    clear hC4 hb4 s4 S4 t2
    go_wp2_with (fail)
    have hB5 := below_alloc hB4 (.cells #[.int .i64 g4.1.kind, .slice A4 g4.1.body.length c4] 24)
    have HS := Lib.hid (show Sem.run Try.prog (convert 22 9 (Value.slice A3 y.length c3)) (w4.alloc (.cells #[.int .i64 g4.1.kind, .slice A4 g4.1.body.length c4] 24)).drew = Result.ok (Value.string (strOfNums y)) (w4.alloc (.cells #[.int .i64 g4.1.kind, .slice A4 g4.1.body.length c4] 24)).drew ∧ Sem.run Try.prog (convert 22 9 (Value.slice A0 y.length c0)) (w4.alloc (.cells #[.int .i64 g4.1.kind, .slice A4 g4.1.body.length c4] 24)).drew = Result.ok (Value.string (strOfNums y)) (w4.alloc (.cells #[.int .i64 g4.1.kind, .slice A4 g4.1.body.length c4] 24)).drew from ⟨Kd.C_string (P := Try.prog) (c := c3) Try.underlying22 Try.underlying5 Try.underlying9 (Kd.C_drew (Kd.C_alloc HC4.out _)), Kd.C_string (P := Try.prog) (c := c0) Try.underlying22 Try.underlying5 Try.underlying9 (Kd.C_drew (Kd.C_alloc HT.out _))⟩)
    go_region_held3 (fun W => Sem.run Try.prog (convert 22 9 (Value.slice A3 y.length c3)) W = Result.ok (Value.string (strOfNums y)) W ∧ Sem.run Try.prog (convert 22 9 (Value.slice A0 y.length c0)) W = Result.ok (Value.string (strOfNums y)) W) (exact HS.out) (fail)
    all_goals
      go_wp2_with (fail)
      go_ret
      exact ⟨by simp, below_drew hB5⟩
  · have gi : (3000 : Int) < (l0.length : Int) := by omega
    go_wp2_with (fail)
    go_ret
    exact ⟨rfl, hB1⟩

end Go.Proofs.Ytnicndnbloohhaa.H
