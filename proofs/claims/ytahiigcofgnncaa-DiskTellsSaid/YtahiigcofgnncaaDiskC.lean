import Derived.Test.YtahiigcofgnncaaDiskB
/-! Layer 6: Same, walked. -/
namespace Go.Proofs.Ytahiigcofgnncaa.H
open Go.RowKit Moor Go.Proofs.YtahiigcofgnncaaW.PrintWords Go.Proofs.YtahiigcofgnncaaW.PrintLast Go.Proofs.YtahiigcofgnncaaW.PrintMore
set_option linter.unusedVariables false
set_option linter.unusedSimpArgs false

theorem equalB_loop (x y : List Int) (hl : x.length = y.length) (hb : x.length ≤ 4611686018427387904) (d : Nat) : ∀ (k i : Nat), i + d = x.length → d < k →
    B.slices_Equal_byte_byte.l0 k x y (x.length : Int) (i : Int) = some (decide (x.drop i = y.drop i)) := by
  induction d with
  | zero =>
    intro k i hd hk
    obtain ⟨k, rfl⟩ : ∃ m, k = m + 1 := ⟨k - 1, by omega⟩
    simp only [B.slices_Equal_byte_byte.l0]
    rw [if_neg (show ¬ (i : Int) < x.length by omega)]
    have h1 : x.drop i = [] := List.drop_eq_nil_iff.2 (by omega)
    have h2 : y.drop i = [] := List.drop_eq_nil_iff.2 (by omega)
    rw [h1, h2]
    rfl
  | succ d ih =>
    intro k i hd hk
    obtain ⟨k, rfl⟩ : ∃ m, k = m + 1 := ⟨k - 1, by omega⟩
    have h1 : i < x.length := by omega
    have h2 : i < y.length := by omega
    have e1 : x.drop i = x[i] :: x.drop (i + 1) := List.drop_eq_getElem_cons h1
    have e2 : y.drop i = y[i] :: y.drop (i + 1) := List.drop_eq_getElem_cons h2
    have r1 : rd x (i : Int) = x[i] := by unfold rd; simp [List.getD_eq_getElem?_getD, h1]
    have r2 : rd y (i : Int) = y[i] := by unfold rd; simp [List.getD_eq_getElem?_getD, h2]
    have hw : wrap64 ((i : Int) + 1) = ((i + 1 : Nat) : Int) := by unfold wrap64; omega
    simp only [B.slices_Equal_byte_byte.l0]
    rw [if_pos (show (i : Int) < x.length by omega), if_pos (show (0 : Int) ≤ i by omega), if_pos (show (i : Int) < x.length by omega), if_pos (show (i : Int) < y.length by omega), r1, r2, hw]
    by_cases h : x[i] = y[i]
    · rw [if_pos h, ih k (i + 1) (by omega) (by omega), e1, e2, h]
      congr 1
      apply decide_eq_decide.2
      rw [List.cons.injEq]
      exact ⟨fun g => ⟨rfl, g⟩, fun g => g.2⟩
    · rw [if_neg h, e1, e2]
      have : ¬ (x[i] :: x.drop (i + 1) = y[i] :: y.drop (i + 1)) := fun g => h (by injection g)
      rw [decide_eq_false this]
theorem equalB_tells (x y : List Int) (hb : x.length ≤ 4611686018427387904) : B.slices_Equal_byte_byte.f (x.length + 1) x y = some (decide (x = y)) := by
  unfold B.slices_Equal_byte_byte.f
  by_cases h : x.length = y.length
  · rw [if_pos (by omega)]
    have := equalB_loop x y h hb x.length (x.length + 1) 0 (by omega) (by omega)
    simpa using this
  · rw [if_neg (by omega), decide_eq_false (fun e => h (by rw [e]))]
theorem equalB_calls (A : Option Addr) (c : Nat) (x : List Int) (A' : Option Addr) (c' : Nat) (y : List Int) (b : Bool) (hb : decide (x = y) = b) (w : World) (hR : Kd.C (Kd.int .u8) w A x.length x) (hc : x.length ≤ c) (hR' : Kd.C (Kd.int .u8) w A' y.length y) (hc' : y.length ≤ c') (hl : x.length ≤ 4611686018427387904) :
    Calls Try.prog 35 #[.slice A x.length c, .slice A' y.length c'] w fun e w' => e = .returned (.bool b) ∧ Below w.heap.size w w' :=
  (B.slices_Equal_byte_byte.calls (x.length + 1) A c x A' c' y b w hR hc hR' hc' (by rw [equalB_tells x y hl, hb])).mono fun e w' h => ⟨h.1, h.2.below⟩

theorem cell_belowD {W W' : World} {a : Addr} {v : Value} (h : W.cell? a = some v) (hb : Below W.heap.size W W') : W'.cell? a = some v := by
  rw [← h]
  exact World.cell?_of_block (w := W) (hb.block _ (World.block_lt_of_cell? W a h))
theorem fl_eq {x y : Fl} : x = y ↔ (x.no = y.no ∧ x.sure = y.sure ∧ x.data = y.data) := by
  constructor
  · intro h; subst h; exact ⟨rfl, rfl, rfl⟩
  · rintro ⟨h1, h2, h3⟩; cases x; cases y; simp_all
theorem eg_same1 : ∀ args w, (callFunc 34 args).run Try.prog w = .ok (.enter 34 args) w := fun args w => by simp [go_sem]
set_option maxRecDepth 100000 in
set_option maxHeartbeats 4000000 in
theorem same1_calls (x y : Fl) (A A' : Option Addr) (c c' : Nat) (w : World) (hR : Kd.C kB w A x.data.length x.data) (hc : x.data.length ≤ c) (hR' : Kd.C kB w A' y.data.length y.data) (hc' : y.data.length ≤ c') (hl : x.data.length ≤ 4611686018427387904) :
    Calls Try.prog 34 #[.agg #[.int .i64 x.no, .slice A x.data.length c, .int .i64 x.sure], .agg #[.int .i64 y.no, .slice A' y.data.length c', .int .i64 y.sure]] w fun e w' => e = .returned (.bool (decide (x = y))) ∧ Below w.heap.size w w' := by
  have hb0 := below_alloc (below_alloc (Below.refl w.heap.size w) (.cells #[.int .i64 x.no, .slice A x.data.length c, .int .i64 x.sure] 32)) (.cells #[.int .i64 y.no, .slice A' y.data.length c', .int .i64 y.sure] 32)
  have HR := Lib.hid (Kd.C_below hR hb0)
  have HR' := Lib.hid (Kd.C_below hR' hb0)
  obtain ⟨b, hb⟩ : ∃ b, decide (x = y) = b := ⟨_, rfl⟩
  rw [hb]
  have HB := Lib.hid hb
  clear hb hR hR'
  obtain ⟨no, xd, sr⟩ := x
  obtain ⟨no', yd, sr'⟩ := y
  dsimp only at *
  by_cases h1 : no = no'
  · have h1b : (no == no') = true := by simpa using h1
    by_cases h2 : sr = sr'
    · have h2b : (sr == sr') = true := by simpa using h2
      obtain ⟨b2, hb2⟩ : ∃ b2, decide (xd = yd) = b2 := ⟨_, rfl⟩
      have hbb : b2 = b := by
        rw [← hb2, ← HB.out]
        apply decide_eq_decide.2
        rw [fl_eq]
        exact ⟨fun g => ⟨h1, h2, g⟩, fun g => g.2.2⟩
      subst hbb
      clear h1 h2 HB
      go_enter Try.func34, Try.ntmps34
      go_wp2_with (fail)
      refine (equalB_calls A c xd A' c' yd b2 hb2 _ HR.out hc HR'.out hc' hl).mono ?_
      rintro e w1 ⟨rfl, hb1⟩
      have hB1 := hb0.trans (hb1.mono hb0.size)
      clear hb1 hb2
      go_wp2_with (fail)
      go_ret
      exact ⟨rfl, hB1⟩
    · have h2b : (sr == sr') = false := by simpa using h2
      have hbb : b = false := by rw [← HB.out]; exact decide_eq_false (fun g => h2 (fl_eq.1 g).2.1)
      subst hbb
      clear h1 h2 HB
      go_enter Try.func34, Try.ntmps34
      go_wp2_with (fail)
      go_ret
      exact ⟨rfl, hb0⟩
  · have h1b : (no == no') = false := by simpa using h1
    have hbb : b = false := by rw [← HB.out]; exact decide_eq_false (fun g => h1 (fl_eq.1 g).1)
    subst hbb
    clear h1 HB
    go_enter Try.func34, Try.ntmps34
    go_wp2_with (fail)
    go_ret
    exact ⟨rfl, hb0⟩
def smallF (l : List Fl) : Prop := ∀ f ∈ l, f.data.length ≤ 1000000
set_option maxRecDepth 100000 in
set_option maxHeartbeats 4000000 in
theorem equalF_calls (A : Option Addr) (c : Nat) (x : List Fl) (A' : Option Addr) (c' : Nat) (y : List Fl) (w : World) (hR : Kd.C kF w A x.length x) (hc : x.length ≤ c) (hR' : Kd.C kF w A' y.length y) (hc' : y.length ≤ c') (hx : smallF x) :
    Calls Try.prog 36 #[.slice A x.length c, .slice A' y.length c', .func (.func 34) #[] #[]] w fun e w' => e = .returned (.bool (decide (x = y))) ∧ Below w.heap.size w w' := by
  have hll : x.length ≤ 9223372036854775807 := Kd.C_max hR
  obtain ⟨b, hb⟩ : ∃ b, decide (x = y) = b := ⟨_, rfl⟩
  rw [hb]
  have HB := Lib.hid hb
  have HR := Lib.hid hR
  have HR' := Lib.hid hR'
  have HX := Lib.hid hx
  clear hb hR hR' hx
  by_cases hl : x.length = y.length
  · have hli : ((x.length : Int) != (y.length : Int)) = false := by simp [hl]
    have HL := Lib.hid hl
    clear hl
    go_enter Try.func36, Try.ntmps36
    go_wp2_with (fail)
    go_loopw [17] (fun i wr => ∃ k : Nat, k ≤ x.length ∧ i = .int .i64 (k : Int) ∧ Hid (decide (x.drop k = y.drop k) = b) ∧ Below w.heap.size w wr) (fun i _ => x.length - (intOf i).toNat)
    case atStart => exact ⟨0, Nat.zero_le _, rfl, HB, Below.refl _ _⟩
    case round =>
      obtain ⟨k, hk, rfl, hs, hB⟩ := hrel
      by_cases hlt : k < x.length
      · have hlt' : k < y.length := by have := HL.out; omega
        have hlti : (k : Int) < (x.length : Int) := by omega
        have hlti' : (k : Int) < (y.length : Int) := by omega
        obtain ⟨ad, A1, c1, rfl, h0, h1, h2, hc1, hC1⟩ := file_at (Kd.C_below HR.out hB) k hlt
        obtain ⟨ad', A2, c2, rfl, g0, g1, g2, hc2, hC2⟩ := file_at (Kd.C_below HR'.out hB) k hlt'
        have hst : decide (x[k] = y[k] ∧ x.drop (k + 1) = y.drop (k + 1)) = b := by
          rw [← hs.out]
          apply decide_eq_decide.2
          rw [List.drop_eq_getElem_cons hlt, List.drop_eq_getElem_cons hlt', List.cons.injEq]
        have hsm : x[k].data.length ≤ 4611686018427387904 := by have := HX.out x[k] (List.getElem_mem hlt); omega
        have HS := Lib.hid hst
        have g0' : ∀ o, (wr.alloc o).cell? (ad'.add (k * 3)) = some (.int .i64 y[k].no) := fun o => (cell_belowD g0 (below_alloc (Below.refl _ _) o))
        have g1' : ∀ o, (wr.alloc o).cell? ⟨(ad'.add (k * 3)).block, (ad'.add (k * 3)).off + 1, none⟩ = some (.slice A2 y[k].data.length c2) := fun o => (cell_belowD g1 (below_alloc (Below.refl _ _) o))
        have g2' : ∀ o, (wr.alloc o).cell? ⟨(ad'.add (k * 3)).block, (ad'.add (k * 3)).off + 2, none⟩ = some (.int .i64 y[k].sure) := fun o => (cell_belowD g2 (below_alloc (Below.refl _ _) o))
        have hbw := below_alloc (below_alloc (Below.refl wr.heap.size wr) (.cells #[.int .i64 x[k].no, .slice A1 x[k].data.length c1, .int .i64 x[k].sure] 32)) (.cells #[.int .i64 y[k].no, .slice A2 y[k].data.length c2, .int .i64 y[k].sure] 32)
        have HC1 := Lib.hid (Kd.C_below hC1 hbw)
        have HC2 := Lib.hid (Kd.C_below hC2 hbw)
        clear hst hs hC1 hC2
        generalize x[k] = xk at *
        generalize y[k] = yk at *
        go_wp2_with (fail)
        refine (same1_calls xk yk A1 A2 c1 c2 _ HC1.out hc1 HC2.out hc2 hsm).mono ?_
        rintro e w1 ⟨rfl, hb1⟩
        have hB1 := hB.trans ((hbw.trans (hb1.mono hbw.size)).mono hB.size)
        clear hb1 g0 g1 g2 g0' g1' g2' h0 h1 h2 hbw
        by_cases hxy : xk = yk
        · have hd : decide (x.drop (k + 1) = y.drop (k + 1)) = b := by
            rw [← HS.out]
            apply decide_eq_decide.2
            exact ⟨fun g => ⟨hxy, g⟩, fun g => g.2⟩
          have HD := Lib.hid hd
          rw [decide_eq_true hxy]
          clear hd hxy HS
          go_wp2_with (fail)
          go_roundw
          case rel => exact ⟨k + 1, by omega, by go_num, HD, hB1⟩
          case measure => simp [intOf]; omega
        · have hbf : b = false := by rw [← HS.out]; exact decide_eq_false (fun g => hxy g.1)
          have HBF := Lib.hid hbf
          rw [decide_eq_false hxy]
          clear hxy HS hbf
          go_wp2_with (fail)
          go_ret
          exact ⟨by rw [HBF.out]; rfl, hB1⟩
      · have hnl : ¬ (k : Int) < (x.length : Int) := by omega
        obtain rfl : k = x.length := by omega
        have hbt : b = true := by
          rw [← hs.out, List.drop_length, HL.out, List.drop_length]
          rfl
        have HBT := Lib.hid hbt
        clear hbt hs
        go_wp2_with (fail)
        go_ret
        exact ⟨by rw [HBT.out]; rfl, hB⟩
  · have hli : ((x.length : Int) != (y.length : Int)) = true := by simp; omega
    have hbf : b = false := by rw [← HB.out]; exact decide_eq_false (fun g => hl (by rw [g]))
    have HBF := Lib.hid hbf
    clear hbf
    go_enter Try.func36, Try.ntmps36
    go_wp2_with (fail)
    go_ret
    exact ⟨by rw [HBF.out]; rfl, Below.refl _ _⟩
set_option maxRecDepth 100000 in
set_option maxHeartbeats 4000000 in
theorem same_calls (cap cap' : Int) (A : Option Addr) (c : Nat) (x : List Fl) (A' : Option Addr) (c' : Nat) (y : List Fl) (w : World) (hR : Kd.C kF w A x.length x) (hc : x.length ≤ c) (hR' : Kd.C kF w A' y.length y) (hc' : y.length ≤ c') (hx : smallF x) :
    Calls Try.prog 14 #[.agg (cellsD cap A x.length c), .agg (cellsD cap' A' y.length c')] w fun e w' => e = .returned (.bool (decide ((⟨cap, x⟩ : Dk) = ⟨cap', y⟩))) ∧ Below w.heap.size w w' := by
  have hb0 := below_alloc (below_alloc (Below.refl w.heap.size w) (.cells (cellsD cap A x.length c) 24)) (.cells (cellsD cap' A' y.length c') 24)
  have HR := Lib.hid (Kd.C_below hR hb0)
  have HR' := Lib.hid (Kd.C_below hR' hb0)
  obtain ⟨b, hb⟩ : ∃ b, decide ((⟨cap, x⟩ : Dk) = ⟨cap', y⟩) = b := ⟨_, rfl⟩
  rw [hb]
  have HB := Lib.hid hb
  clear hb hR hR'
  by_cases h1 : cap = cap'
  · have h1b : (cap == cap') = true := by simpa using h1
    have hbb : decide (x = y) = b := by
      rw [← HB.out]
      apply decide_eq_decide.2
      simp [h1]
    have HBB := Lib.hid hbb
    clear h1 hbb HB
    go_enter Try.func14, Try.ntmps14
    go_wp2_with (fail)
    have q := equalF_calls A c x A' c' y _ HR.out hc HR'.out hc' hx
    rw [HBB.out] at q
    refine q.mono ?_
    clear q
    rintro e w1 ⟨rfl, hb1⟩
    have hB1 := hb0.trans (hb1.mono hb0.size)
    clear hb1
    go_wp2_with (fail)
    go_ret
    exact ⟨rfl, hB1⟩
  · have h1b : (cap == cap') = false := by simpa using h1
    have hbf : b = false := by rw [← HB.out]; exact decide_eq_false (fun g => h1 (by injection g))
    have HBF := Lib.hid hbf
    clear h1 hbf HB
    go_enter Try.func14, Try.ntmps14
    go_wp2_with (fail)
    go_ret
    exact ⟨by rw [HBF.out]; rfl, hb0⟩
end Go.Proofs.Ytahiigcofgnncaa.H
