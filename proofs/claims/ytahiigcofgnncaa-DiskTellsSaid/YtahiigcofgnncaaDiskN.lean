import Derived.Test.YtahiigcofgnncaaDiskH
import Derived.Test.YtahiigcofgnncaaStr
import Derived.Test.YtahiigcofgnncaaDiskK
/-! Layer 6: Few, the chapter's example, walked. -/
namespace Go.Proofs.Ytahiigcofgnncaa.H
open Go.RowKit Moor Go.Proofs.YtahiigcofgnncaaW.PrintWords Go.Proofs.YtahiigcofgnncaaW.PrintLast Go.Proofs.YtahiigcofgnncaaW.PrintMore
set_option linter.unusedVariables false
set_option linter.unusedSimpArgs false

def fewF (l : List Fl) : Prop := (∀ f ∈ l, f.data.length ≤ 3000) ∧ l.length ≤ 14
instance (l : List Fl) : Decidable (fewF l) := by unfold fewF; infer_instance
theorem fewF_drop (l : List Fl) (k : Nat) (h : k < l.length) : (∀ f ∈ l.drop k, f.data.length ≤ 3000) ↔ (l[k].data.length ≤ 3000 ∧ ∀ f ∈ l.drop (k + 1), f.data.length ≤ 3000) := by
  rw [List.drop_eq_getElem_cons h]
  exact List.forall_mem_cons
set_option maxRecDepth 100000 in
set_option maxHeartbeats 4000000 in
theorem few_calls (cap : Int) (A : Option Addr) (c : Nat) (l : List Fl) (w : World) (hR : Kd.C kF w A l.length l) (hc : l.length ≤ c) :
    Calls Try.prog 11 #[.agg (cellsD cap A l.length c)] w fun e w' => e = .returned (.bool (decide (fewF l))) ∧ Below w.heap.size w w' := by
  have hll : l.length ≤ 9223372036854775807 := Kd.C_max hR
  have bD := BoxC.new w (cellsD cap A l.length c) 24
  have hb0 := below_alloc (Below.refl w.heap.size w) (.cells (cellsD cap A l.length c) 24)
  obtain ⟨b, hbb⟩ : ∃ b, decide (fewF l) = b := ⟨_, rfl⟩
  rw [hbb]
  have HB := Lib.hid hbb
  have HR := Lib.hid hR
  have d0 := bD.c 0 rfl
  have d1 := bD.c 1 rfl
  clear hbb hR
  go_enter Try.func11, Try.ntmps11
  go_wp2_with (fail)
  go_loopw [3] (fun i wr => ∃ k : Nat, k ≤ l.length ∧ i = .int .i64 (k : Int) ∧ Hid ((∀ f ∈ l, f.data.length ≤ 3000) ↔ (∀ f ∈ l.drop k, f.data.length ≤ 3000)) ∧ BoxC wr w.heap.size (cellsD cap A l.length c) 24 ∧ Below w.heap.size w wr) (fun i _ => l.length - (intOf i).toNat)
  case atStart => exact ⟨0, Nat.zero_le _, rfl, Lib.hid Iff.rfl, bD, hb0⟩
  case round =>
    clear bD hb0 d0 d1
    obtain ⟨k, hk, rfl, hs, bD, hB⟩ := hrel
    have d0 := bD.c 0 rfl
    have d1 := bD.c 1 rfl
    by_cases hlt : k < l.length
    · have hlti : (k : Int) < (l.length : Int) := by omega
      obtain ⟨ad, A1, c1, rfl, h0, h1, h2, -, -⟩ := file_at (Kd.C_below HR.out hB) k hlt
      have hst := hs.out.trans (fewF_drop l k hlt)
      generalize l[k].data.length = dn at *
      have HST := Lib.hid hst
      have BD1 := Lib.hid bD
      clear hst hs bD
      by_cases g1 : 3000 < dn
      · have g1i : (3000 : Int) < (dn : Int) := by omega
        have hbf : b = false := by
          rw [← HB.out]
          exact decide_eq_false (fun g => by have := (HST.out.1 g.1).1; omega)
        have HBF := Lib.hid hbf
        clear hbf
        go_wp2_with (fail)
        go_ret
        exact ⟨by rw [HBF.out]; rfl, hB⟩
      · have g1i : ¬ (3000 : Int) < (dn : Int) := by omega
        go_wp2_with (fail)
        go_roundw
        case rel => exact ⟨k + 1, by omega, by go_num, Lib.hid (HST.out.trans ⟨fun h => h.2, fun h => ⟨by omega, h⟩⟩), BD1.out, hB⟩
        case measure => simp [intOf]; omega
    · have hnl : ¬ ((k : Int) < (l.length : Int)) := by omega
      obtain rfl : k = l.length := by omega
      have hall : ∀ f ∈ l, f.data.length ≤ 3000 := hs.out.2 (by rw [List.drop_length]; intro f hf; cases hf)
      have HBF := Lib.hid (show decide ((l.length : Int) ≤ 14) = b by
        rw [← HB.out]
        apply decide_eq_decide.2
        exact ⟨fun h => ⟨hall, by omega⟩, fun h => by have := h.2; omega⟩)
      clear hs hall
      go_wp2_with (fail)
      go_ret
      exact ⟨by rw [← HBF.out]; rfl, hB⟩

theorem litB (W : World) (xs : List Int) (hm : xs.length ≤ 1000) : Kd.C kB (W.alloc (.cells (nums .u8 xs).toArray 5)) (some ⟨W.heap.size, 0, none⟩) xs.length xs :=
  (Kd.R_reads' (Kd.R_of_own (ok := fun _ => True) (h1 := fun _ => rfl) (own_lit W 0 5 .u8 xs (by omega) (by omega)) (fun _ _ => trivial))).2.2
theorem litI (W : World) (xs : List Int) (hm : xs.length ≤ 1000) : Kd.C (Kd.int .i64) (W.alloc (.cells (nums .i64 xs).toArray 3)) (some ⟨W.heap.size, 0, none⟩) xs.length xs :=
  (Kd.R_reads' (Kd.R_of_own (ok := fun _ => True) (h1 := fun _ => rfl) (own_lit W 0 3 .i64 xs (by omega) (by omega)) (fun _ _ => trivial))).2.2
/-- A row of one file. -/
theorem litF (W : World) (x : Fl) (A : Option Addr) (c : Nat) (hC : Kd.C kB W A x.data.length x.data) (hc : x.data.length ≤ c) : Kd.C kF (W.alloc (.cells #[.int .i64 x.no, .slice A x.data.length c, .int .i64 x.sure] 32)) (some ⟨W.heap.size, 0, none⟩) 1 [x] := by
  have h := rowC (W := W.alloc (.cells #[.int .i64 x.no, .slice A x.data.length c, .int .i64 x.sure] 32)) (base := 0) (g := W.heap.size) (n := 1) (c := 1) (ys := [⟨x.no, A, c, x.data, x.sure⟩]) (World.ownsRow_lit (base := 0) (e := 32) (size := 3) W #[.int .i64 x.no, .slice A x.data.length c, .int .i64 x.sure] 1 (by omega) (by unfold maxLen; omega) rfl) rfl (fun i y hy => by
    match i, hy with
    | 0, hy => cases hy; exact ⟨hc, Kd.C_alloc hC _⟩
    | i + 1, hy => simp at hy)
  exact h
def exD : Dk := ⟨9, [⟨1, [1, 2, 3], 1⟩]⟩
theorem ex_a : crashD exD [1, 0] = ⟨9, [⟨1, [1, 2], 2⟩]⟩ := by decide
theorem ex_b : crashD exD [1, 1] = ⟨9, [⟨1, [1, 167], 2⟩]⟩ := by decide
theorem ex_may : decide (mayD exD) = true := by decide
theorem ex_used : usedD exD = 3 := by decide
theorem ex_find : findD exD 1 = 0 := by decide
theorem ex_small : smallF exD.f := by intro f hf; simp [exD] at hf; subst hf; simp
theorem ex_ok : ∀ f ∈ exD.f, okB f.data := by intro f hf; simp [exD] at hf; subst hf; intro x hx; simp at hx; omega
set_option maxRecDepth 100000 in
set_option maxHeartbeats 16000000 in
theorem awake_true (w : World) : Calls Try.prog 10 #[] w fun e w' => e = .returned (.bool true) ∧ Below w.heap.size w w' := by
  obtain ⟨w3, hw3⟩ : ∃ w3, ((w.alloc (.cells #[.int .u8 1, .int .u8 2, .int .u8 3] 5)).alloc (.cells #[.int .i64 1, .slice (some ⟨w.heap.size, 0, none⟩) 3 3, .int .i64 1] 32)).alloc (.cells #[.int .i64 9, .slice (some ⟨w.heap.size + 1, 0, none⟩) 1 1] 24) = w3 := ⟨_, rfl⟩
  have hB3 : Below w.heap.size w w3 := by rw [← hw3]; exact below_alloc (below_alloc (below_alloc (Below.refl _ _) _) _) _
  have hR3 : Kd.C kF w3 (some ⟨w.heap.size + 1, 0, none⟩) 1 [⟨1, [1, 2, 3], 1⟩] := by
    rw [← hw3]
    have h0 : Kd.C kB (w.alloc (.cells #[.int .u8 1, .int .u8 2, .int .u8 3] 5)) (some ⟨w.heap.size, 0, none⟩) 3 [1, 2, 3] := litB w [1, 2, 3] (by simp)
    have h1 := litF (w.alloc (.cells #[.int .u8 1, .int .u8 2, .int .u8 3] 5)) ⟨1, [1, 2, 3], 1⟩ (some ⟨w.heap.size, 0, none⟩) 3 h0 (Nat.le_refl _)
    rw [World.size_alloc] at h1
    exact Kd.C_alloc h1 _
  have b3 : BoxC w3 (w.heap.size + 1 + 1) #[.int .i64 9, .slice (some ⟨w.heap.size + 1, 0, none⟩) 1 1] 24 := by
    rw [← hw3]
    have h9 := BoxC.new ((w.alloc (.cells #[.int .u8 1, .int .u8 2, .int .u8 3] 5)).alloc (.cells #[.int .i64 1, .slice (some ⟨w.heap.size, 0, none⟩) 3 3, .int .i64 1] 32)) #[.int .i64 9, .slice (some ⟨w.heap.size + 1, 0, none⟩) 1 1] 24
    simp only [World.size_alloc] at h9
    exact h9
  have hp1 : Kd.C (Kd.int .i64) (w3.alloc (.cells #[.int .i64 1, .int .i64 0] 3)) (some ⟨w3.heap.size, 0, none⟩) 2 [1, 0] := litI w3 [1, 0] (by simp)
  have hba := below_alloc (Below.refl w3.heap.size w3) (.cells #[.int .i64 1, .int .i64 0] 3)
  have hz3 : w3.heap.size = w.heap.size + 1 + 1 + 1 := by rw [← hw3]; simp
  have q1 := crash_calls 9 (some ⟨w.heap.size + 1, 0, none⟩) 1 [⟨1, [1, 2, 3], 1⟩] (some ⟨w3.heap.size, 0, none⟩) 2 [1, 0] (w3.alloc (.cells #[.int .i64 1, .int .i64 0] 3)) (Kd.C_below hR3 hba) (Nat.le_refl _) (by simp) ex_small (by decide) ex_ok hp1 (Nat.le_refl _)
  rw [show crashD ⟨9, [⟨1, [1, 2, 3], 1⟩]⟩ [1, 0] = _ from ex_a] at q1
  have Q1 := Lib.hid q1
  have HR3 := Lib.hid hR3
  have HB3 := Lib.hid hB3
  have B3 := Lib.hid b3
  have c0 := b3.c 0 rfl
  have c1 := b3.c 1 rfl
  have k0 : ∀ o, (w3.alloc o).cell? ⟨w.heap.size + 1 + 1, 0, none⟩ = some (.int .i64 9) := fun o => (b3.alloc o).c 0 rfl
  have k1 : ∀ o, (w3.alloc o).cell? ⟨w.heap.size + 1 + 1, 1, none⟩ = some (.slice (some ⟨w.heap.size + 1, 0, none⟩) 1 1) := fun o => (b3.alloc o).c 1 rfl
  have HZ3 := Lib.hid hz3
  have hbA := Lib.hid hba
  clear q1 hR3 hB3 b3 hp1 hba hz3
  go_enter Try.func10, Try.ntmps10
  go_wp2_with (fail)
  refine Q1.out.mono ?_
  rintro e w4 ⟨A1, n1, rfl, hn1, hF1, hb1⟩
  have hb1' := hbA.out.trans (hb1.mono hbA.out.size)
  have hn1' : 1 ≤ n1 := hn1
  have hF1' : CFrom (w3.heap.size + 1) w4 A1 [⟨1, [1, 2], 2⟩] := by simpa using hF1
  obtain ⟨w5, hw5⟩ : ∃ w5, w4.alloc (.cells #[.int .i64 9, .slice A1 1 n1] 24) = w5 := ⟨_, rfl⟩
  have hba5 : Below w4.heap.size w4 w5 := by rw [← hw5]; exact below_alloc (Below.refl _ _) _
  have hb5 : Below w3.heap.size w3 w5 := hb1'.trans (hba5.mono hb1'.size)
  have b5 : BoxC w5 w4.heap.size #[.int .i64 9, .slice A1 1 n1] 24 := by rw [← hw5]; exact BoxC.new _ _ _
  have b35 := B3.out.below hb5
  have e0 := b35.c 0 rfl
  have e1 := b35.c 1 rfl
  have HR5 := Lib.hid (Kd.C_below HR3.out hb5)
  have HF5 := Lib.hid (hF1'.below hba5)
  have B35 := Lib.hid b35
  have B5 := Lib.hid b5
  have HB5 := Lib.hid (HB3.out.trans (hb5.mono HB3.out.size))
  have hp2 : Kd.C (Kd.int .i64) (w5.alloc (.cells #[.int .i64 1, .int .i64 1] 3)) (some ⟨w5.heap.size, 0, none⟩) 2 [1, 1] := litI w5 [1, 1] (by simp)
  have hba2 := below_alloc (Below.refl w5.heap.size w5) (.cells #[.int .i64 1, .int .i64 1] 3)
  have q2 := crash_calls 9 (some ⟨w.heap.size + 1, 0, none⟩) 1 [⟨1, [1, 2, 3], 1⟩] (some ⟨w5.heap.size, 0, none⟩) 2 [1, 1] (w5.alloc (.cells #[.int .i64 1, .int .i64 1] 3)) (Kd.C_below HR5.out hba2) (Nat.le_refl _) (by simp) ex_small (by decide) ex_ok hp2 (Nat.le_refl _)
  rw [show crashD ⟨9, [⟨1, [1, 2, 3], 1⟩]⟩ [1, 1] = _ from ex_b] at q2
  have Q2 := Lib.hid q2
  have HBA2 := Lib.hid hba2
  clear hF1 hF1' hb1 hb1' hn1 b35 b5 hp2 hba2 q2 c0 c1 k0 k1 hba5 hb5
  go_wp2_with (fail)
  refine Q2.out.mono ?_
  rintro e w6 ⟨A2, n2, rfl, hn2, hF2, hb2⟩
  have hb2' := HBA2.out.trans (hb2.mono HBA2.out.size)
  have hn2' : 1 ≤ n2 := hn2
  have hF2' : CFrom (w5.heap.size + 1) w6 A2 [⟨1, [1, 167], 2⟩] := by simpa using hF2
  obtain ⟨w7, hw7⟩ : ∃ w7, w6.alloc (.cells #[.int .i64 9, .slice A2 1 n2] 24) = w7 := ⟨_, rfl⟩
  have hba7 : Below w6.heap.size w6 w7 := by rw [← hw7]; exact below_alloc (Below.refl _ _) _
  have hb7 : Below w5.heap.size w5 w7 := hb2'.trans (hba7.mono hb2'.size)
  have b7 : BoxC w7 w6.heap.size #[.int .i64 9, .slice A2 1 n2] 24 := by rw [← hw7]; exact BoxC.new _ _ _
  have b37 := B35.out.below hb7
  have b57 := B5.out.below hb7
  have f0 := b37.c 0 rfl
  have f1 := b37.c 1 rfl
  have g1 := b57.c 1 rfl
  have h1 := b7.c 1 rfl
  have HR7 := Lib.hid (Kd.C_below HR5.out hb7)
  have hFA := (HF5.out.below hb7).now
  have hFB := (hF2'.below hba7).now
  have HB7 := Lib.hid (HB5.out.trans (hb7.mono HB5.out.size))
  obtain ⟨ad, D1, m1, rfl, p0, p1, p2, hm1, hC1⟩ := file_at hFA 0 (by simp)
  obtain ⟨ad', D2, m2, rfl, r0, r1, r2, hm2, hC2⟩ := file_at hFB 0 (by simp)
  simp only [Nat.zero_mul, add_zeroR, List.getElem_cons_zero] at p0 p1 p2 r0 r1 r2 hC1 hC2 hm1 hm2
  have p1' : w7.cell? ⟨ad.block, ad.off + 1, none⟩ = some (.slice D1 2 m1) := p1
  have r1' : w7.cell? ⟨ad'.block, ad'.off + 1, none⟩ = some (.slice D2 2 m2) := r1
  have v1 : (convert 30 9 (.slice D1 2 m1)).run Try.prog w7 = .ok (.string ⟨#[1, 2]⟩) w7 := Kd.C_string (P := Try.prog) (c := m1) Try.underlying30 Try.underlying5 Try.underlying9 hC1
  have v2 : (convert 30 9 (.slice D2 2 m2)).run Try.prog w7 = .ok (.string ⟨#[1, 167]⟩) w7 := Kd.C_string (P := Try.prog) (c := m2) Try.underlying30 Try.underlying5 Try.underlying9 hC2
  have B37 := Lib.hid b37
  clear hF2 hF2' hb2 hb2' hn2 b7 b37 b57 hba7 hb7 hFA hFB p1 r1 hC1 hC2 e0 e1
  have k0 : ∀ W, Below w7.heap.size w7 W → W.cell? ⟨w.heap.size + 1 + 1, 0, none⟩ = some (.int .i64 9) ∧ W.cell? ⟨w.heap.size + 1 + 1, 1, none⟩ = some (.slice (some ⟨w.heap.size + 1, 0, none⟩) 1 1) := fun W h => ⟨(B37.out.below h).c 0 rfl, (B37.out.below h).c 1 rfl⟩
  have K0 := Lib.hid k0
  clear k0
  go_wp2_with (fail)
  refine (may_calls 9 (some ⟨w.heap.size + 1, 0, none⟩) 1 [⟨1, [1, 2, 3], 1⟩] w7 HR7.out (Nat.le_refl _) (by decide)).mono ?_
  rintro e w8 ⟨rfl, hb8⟩
  rw [show decide (mayD ⟨9, [⟨1, [1, 2, 3], 1⟩]⟩) = true from ex_may]
  obtain ⟨x0, x1⟩ := K0.out w8 hb8
  have HB8 := Lib.hid hb8
  clear hb8
  go_wp2_with (fail)
  refine (usedD_calls 9 (some ⟨w.heap.size + 1, 0, none⟩) 1 [⟨1, [1, 2, 3], 1⟩] w8 (Kd.C_below HR7.out HB8.out) (Nat.le_refl _) (by decide)).mono ?_
  rintro e w9 ⟨rfl, hb9⟩
  rw [show usedD ⟨9, [⟨1, [1, 2, 3], 1⟩]⟩ = 3 from ex_used]
  have hb9' := HB8.out.trans (hb9.mono HB8.out.size)
  obtain ⟨y0, y1⟩ := K0.out w9 hb9'
  have HB9 := Lib.hid hb9'
  clear hb9 hb9'
  go_wp2_with (fail)
  refine (find_calls 9 1 (some ⟨w.heap.size + 1, 0, none⟩) 1 [⟨1, [1, 2, 3], 1⟩] w9 (Kd.C_below HR7.out HB9.out) (Nat.le_refl _) (by decide)).mono ?_
  rintro e w10 ⟨rfl, hb10⟩
  rw [show findD ⟨9, [⟨1, [1, 2, 3], 1⟩]⟩ 1 = 0 from ex_find]
  have hb10' := HB9.out.trans (hb10.mono HB9.out.size)
  obtain ⟨u0, u1⟩ := K0.out w10 hb10'
  have HB10 := Lib.hid hb10'
  clear hb10 hb10'
  go_wp2_with (fail)
  refine (same_calls 9 9 (some ⟨w.heap.size + 1, 0, none⟩) 1 [⟨1, [1, 2, 3], 1⟩] (some ⟨w.heap.size + 1, 0, none⟩) 1 [⟨1, [1, 2, 3], 1⟩] w10 (Kd.C_below HR7.out HB10.out) (Nat.le_refl _) (Kd.C_below HR7.out HB10.out) (Nat.le_refl _) ex_small).mono ?_
  rintro e w11 ⟨rfl, hb11⟩
  have hb11' := HB10.out.trans (hb11.mono HB10.out.size)
  clear hb11
  go_wp2_with (fail)
  go_ret
  exact ⟨by simp, HB7.out.trans (hb11'.mono HB7.out.size)⟩
end Go.Proofs.Ytahiigcofgnncaa.H
