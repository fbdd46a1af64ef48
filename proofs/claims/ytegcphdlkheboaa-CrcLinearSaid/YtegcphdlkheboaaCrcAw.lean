import Derived.Test.YtegcphdlkheboaaHc
import Derived.Lib.SlBytesConst
/-! mooringslaw04.awake answers true. -/
namespace Go.Proofs.Ytegcphdlkheboaa.H
open Go.RowKit Moor Go.Proofs.YtegcphdlkheboaaW.PrintWords Go.Proofs.YtegcphdlkheboaaW.PrintLast Go.Proofs.YtegcphdlkheboaaW.PrintMore
set_option linter.unusedVariables false
set_option linter.unusedSimpArgs false

theorem lit_reads (W : World) (k : IntKind) (e : TypeId) (xs : List Int) (hm : xs.length ≤ 9223372036854775807) : Kd.C (Kd.int k) (W.alloc (.cells (nums k xs).toArray e)) (some ⟨W.heap.size, 0, none⟩) xs.length xs :=
  (Kd.R_reads' (Kd.R_of_own (ok := fun _ => True) (h1 := fun _ => rfl) (own_lit W 0 e k xs (by omega) hm) (fun _ _ => trivial))).2.2

/-- A literal of bytes, marked as a constant's. -/
theorem lit_marked (W : World) (xs : List Int) (m : Nat × Nat) (hm : xs.length ≤ 9223372036854775807) : Kd.C (Kd.int .u8) (W.alloc (.cells (nums .u8 xs).toArray 5 m)) (some ⟨W.heap.size, 0, none⟩) xs.length xs := by
  refine ⟨rfl, hm, fun _ => ⟨_, rfl, fun j p hj => ⟨[.int .u8 p], rfl, rfl, fun i u hu => ?_⟩⟩⟩
  have hs : (Kd.int .u8).sz = 1 := rfl
  cases i with
  | zero =>
    have hu' : Value.int .u8 p = u := by simpa using hu
    subst hu'
    rw [hs, add_plain]
    have hh : (W.alloc (.cells (nums .u8 xs).toArray 5 m)).heap[W.heap.size]? = some (.cells (nums .u8 xs).toArray 5 m) := by
      show (W.heap.push _)[W.heap.size]? = _
      simp
    rw [cell_of_row _ _ _ _ _ m hh]
    simp [nums, hj]
  | succ i => simp at hu
theorem sum_nine : cSum [49, 50, 51, 52, 53, 54, 55, 56, 57] = 4236843288 := by decide +kernel
theorem sum_none : cSum [] = 0 := by decide +kernel

set_option maxRecDepth 100000 in
set_option maxHeartbeats 8000000 in
theorem awake_true (w : World) : Calls Try.prog 9 #[] w fun e w' => e = .returned (.bool true) ∧ Below w.heap.size w w' := by
  have hse : crc_Seal.f [120] = some (cSeal [120]) := by unfold crc_Seal.f; rw [if_pos (by decide)]
  have hl5 := cSeal_length [120]
  have hop : crc_Open.f (cSeal [120]) = some ([120], true) := by
    unfold crc_Open.f
    rw [if_pos ⟨cSeal_ok (by decide), by rw [hl5]; decide⟩, cOpen_seal]
  generalize cSeal [120] = s at *
  have hs5 : (s.length : Int) = 5 := by rw [hl5]; rfl
  have s9 : crc_Sum.f [49, 50, 51, 52, 53, 54, 55, 56, 57] = some 4236843288 := by unfold crc_Sum.f; rw [if_pos (by decide), sum_nine]
  have s0 : crc_Sum.f [] = some 0 := by unfold crc_Sum.f; rw [if_pos (by decide), sum_none]
  have kc := fun (W : World) (C : Array Value) (n c : Nat) => Go.Lib.run_convert_bytes_const (P := Try.prog) W 22 5 C n c Try.underlying22 Try.underlying5
  have HE := Lib.hid hse
  have H5 := Lib.hid hs5
  have HO := Lib.hid hop
  have S9 := Lib.hid s9
  have S0 := Lib.hid s0
  clear hse hop hl5 s9 s0 hs5
  go_enter Try.func9, Try.ntmps9
  go_wp2_with (fail)
  have hC0 : Kd.C (Kd.int .u8) (w.alloc (.cells #[.int .u8 120] 5 (1, 2))) (some ⟨w.heap.size, 0, none⟩) ([120] : List Int).length [120] := lit_marked w [120] (1, 2) (by simp)
  have hB0 : Below w.heap.size w (w.alloc (.cells #[.int .u8 120] 5 (1, 2))) := below_alloc (Below.refl _ _) _
  refine (crc_Seal.calls (some ⟨w.heap.size, 0, none⟩) 1 [120] s _ hC0 (by simp) HE.out).mono ?_
  rintro e w1 ⟨v1, rfl, hR1, hb1⟩
  have hB1 : Below w.heap.size w w1 := hB0.trans (hb1.mono (by simp))
  obtain ⟨A1, c1, rfl, hc1, hC1⟩ := Kd.R_reads hR1
  clear hC0 hR1 hB0 hb1
  go_wp2_with (fail)
  refine (crc_Open.calls A1 c1 s [120] true w1 hC1 hc1 HO.out).mono ?_
  rintro e w2 ⟨v2, rfl, hR2, hb2⟩
  have hB2 : Below w.heap.size w w2 := hB1.trans (hb2.mono hB1.size)
  clear hC1 hb2
  go_wp2_with (fail)
  have hC3 : Kd.C (Kd.int .u8) (w2.alloc (.cells #[.int .u8 49, .int .u8 50, .int .u8 51, .int .u8 52, .int .u8 53, .int .u8 54, .int .u8 55, .int .u8 56, .int .u8 57] 5 (9, 10))) (some ⟨w2.heap.size, 0, none⟩) ([49, 50, 51, 52, 53, 54, 55, 56, 57] : List Int).length [49, 50, 51, 52, 53, 54, 55, 56, 57] := lit_marked w2 [49, 50, 51, 52, 53, 54, 55, 56, 57] (9, 10) (by simp)
  have hB3 : Below w2.heap.size w2 (w2.alloc (.cells #[.int .u8 49, .int .u8 50, .int .u8 51, .int .u8 52, .int .u8 53, .int .u8 54, .int .u8 55, .int .u8 56, .int .u8 57] 5 (9, 10))) := below_alloc (Below.refl _ _) _
  refine (crc_Sum.calls (some ⟨w2.heap.size, 0, none⟩) 9 [49, 50, 51, 52, 53, 54, 55, 56, 57] 4236843288 _ hC3 (by simp) S9.out).mono ?_
  rintro e w3 ⟨rfl, hb3⟩
  have hB23 : Below w2.heap.size w2 w3 := hB3.trans (hb3.mono (by simp))
  clear hC3 hB3 hb3
  go_wp2_with (fail)
  refine (crc_Sum.calls none 0 [] 0 w3 (Kd.C_nil _ _) (by simp) S0.out).mono ?_
  rintro e w4 ⟨rfl, hb4⟩
  have hB24 : Below w2.heap.size w2 w4 := hB23.trans (hb4.mono hB23.size)
  obtain ⟨A2, c2, rfl, hc2, hC2⟩ := Kd.R_reads (Kd.R_below hR2 hB24)
  have hcv := Kd.C_string (P := Try.prog) (c := c2) Try.underlying22 Try.underlying5 Try.underlying9 hC2
  simp only [List.length_cons, List.length_nil, Nat.zero_add, Nat.reduceAdd] at hcv
  have h5 := H5.out
  have hB4 : Below w.heap.size w w4 := hB2.trans (hB24.mono hB2.size)
  clear hR2 hC2 hB24 hB23 hb4
  go_wp2_with (fail)
  go_ret
  exact ⟨by show Ending.returned (Value.bool ((strOfNums [120]).toList == [120])) = _; rw [str_list]; rfl, hB4⟩

/-- .. in the printer's form. -/
def mooringslaw04_awake.f : Option Bool := some true
theorem mooringslaw04_awake.calls (r : Bool) (w : World) (h : mooringslaw04_awake.f = some r) :
    Calls Try.prog 9 #[] w fun e w' => e = .returned (.bool r) ∧ Below w.heap.size w w' := by
  obtain rfl : true = r := by simpa [mooringslaw04_awake.f] using h
  exact awake_true w

end Go.Proofs.Ytegcphdlkheboaa.H
