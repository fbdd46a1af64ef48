import Derived.Test.YtahiigcofgnncaaDiskA
import Derived.Shelf.RegionOpen
/-! Layer 6: Used, place, Find, Same, walked. -/
namespace Go.Proofs.Ytahiigcofgnncaa.H
open Go.RowKit Moor Go.Proofs.YtahiigcofgnncaaW.PrintWords Go.Proofs.YtahiigcofgnncaaW.PrintLast Go.Proofs.YtahiigcofgnncaaW.PrintMore
set_option linter.unusedVariables false
set_option linter.unusedSimpArgs false

set_option maxRecDepth 100000 in
set_option maxHeartbeats 4000000 in
theorem usedD_calls (cap : Int) (A : Option Addr) (c : Nat) (l : List Fl) (w : World) (hR : Kd.C kF w A l.length l) (hc : l.length ≤ c) (hu : usedF l ≤ 4611686018427387904) :
    Calls Try.prog 18 #[.agg (cellsD cap A l.length c)] w fun e w' => e = .returned (.int .i64 (usedD ⟨cap, l⟩)) ∧ Below w.heap.size w w' := by
  have bD := BoxC.new w (cellsD cap A l.length c) 24
  have hb0 := below_alloc (Below.refl w.heap.size w) (.cells (cellsD cap A l.length c) 24)
  have HR := Lib.hid hR
  have BD := Lib.hid bD
  have hu1 : usedD ⟨cap, l⟩ = if decide (mayD ⟨cap, l⟩) = true then (usedF l : Int) else 0 := by unfold usedD; simp
  have d0 := bD.c 0 rfl
  have d1 := bD.c 1 rfl
  clear hR bD
  go_enter Try.func18, Try.ntmps18
  go_wp2_with (fail)
  refine (may_calls cap A c l _ (Kd.C_alloc HR.out _) hc hu).mono ?_
  rintro e w1 ⟨rfl, hb1⟩
  have hB1 : Below w.heap.size w w1 := hb0.trans (hb1.mono (by simp))
  have bD1 := BD.out.below hb1
  have e0 := bD1.c 0 rfl
  have e1 := bD1.c 1 rfl
  have HU1 := Lib.hid hu1
  clear bD1 hb1 hu1 d0 d1
  generalize decide (mayD ⟨cap, l⟩) = b at *
  cases b with
  | false =>
    have hu2 : usedD ⟨cap, l⟩ = 0 := by rw [HU1.out]; rfl
    have HU2 := Lib.hid hu2
    clear hu2 HU1
    go_wp2_with (fail)
    go_ret
    exact ⟨by rw [HU2.out]; rfl, hB1⟩
  | true =>
    have hu2 : usedD ⟨cap, l⟩ = usedF l := by rw [HU1.out]; rfl
    have HU2 := Lib.hid hu2
    clear hu2 HU1
    go_wp2_with (fail)
    refine (used_calls A c l w1 (Kd.C_below HR.out hB1) hc hu).mono ?_
    rintro e w2 ⟨rfl, hb2⟩
    have hB2 := hB1.trans (hb2.mono hB1.size)
    clear hb2
    go_wp2_with (fail)
    go_ret
    exact ⟨by rw [HU2.out]; rfl, hB2⟩

/-! ### sort.Search -/
set_option maxRecDepth 100000 in
set_option maxHeartbeats 4000000 in
theorem search_calls (n : Nat) (hn : n ≤ 1000000) (g : FuncId) (lb : Array Value) (p : Nat → Bool) (r : Nat) (hr : r ≤ n) (hlo : ∀ i, i < r → p i = false) (hhi : ∀ i, r ≤ i → i < n → p i = true) (w : World)
    (hp : ∀ (i : Nat) (W : World), i < n → Below w.heap.size w W → Calls Try.prog g (#[.int .i64 (i : Int)] ++ lb) W fun e w' => e = .returned (.bool (p i)) ∧ Below W.heap.size W w') (eg : ∀ args w, (callFunc g args).run Try.prog w = .ok (.enter g args) w) :
    Calls Try.prog 54 #[.int .i64 (n : Int), .func (.func g) #[] lb] w fun e w' => e = .returned (.int .i64 (r : Int)) ∧ Below w.heap.size w w' := by
  have HLO := Lib.hid hlo
  have HHI := Lib.hid hhi
  clear hlo hhi
  go_enter Try.func54, Try.ntmps54
  go_wp2_with (fail)
  go_loopw [5, 6] (fun x y wr => ∃ a b : Nat, x = .int .i64 (a : Int) ∧ y = .int .i64 (b : Int) ∧ a ≤ r ∧ r ≤ b ∧ b ≤ n ∧ Below w.heap.size w wr) (fun x y _ => (intOf y).toNat - (intOf x).toNat)
  case atStart => exact ⟨0, n, rfl, rfl, Nat.zero_le _, hr, Nat.le_refl _, Below.refl _ _⟩
  case round =>
    obtain ⟨a, b, rfl, rfl, ha, hb, hbn, hB⟩ := hrel
    by_cases hlt : a < b
    · have hlti : (a : Int) < (b : Int) := by omega
      have hm1 : a ≤ (a + b) / 2 := by omega
      have hm2 : (a + b) / 2 < b := by omega
      obtain ⟨m, hm⟩ : ∃ m, (a + b) / 2 = m := ⟨_, rfl⟩
      go_wp2_with (fail)
      have hmi : ((a : Int) + (b : Int)) / 2 = (m : Int) := by omega
      rw [hmi]
      refine (hp m wr (by omega) hB).mono ?_
      rintro e w1 ⟨rfl, hb1⟩
      have hB1 := hB.trans (hb1.mono hB.size)
      clear hb1 hmi
      cases hq : p m with
      | true =>
        have hmr : r ≤ m := by
          rcases Nat.lt_or_ge m r with h | h
          · have := HLO.out m h
            rw [hq] at this
            cases this
          · exact h
        have H1 : a ≤ r ∧ r ≤ m ∧ m ≤ n ∧ m < b := ⟨ha, hmr, by omega, by omega⟩
        clear hq hm hm1 hm2
        go_wp2_with (fail)
        go_roundw
        case rel => exact ⟨a, m, rfl, rfl, H1.1, H1.2.1, H1.2.2.1, hB1⟩
        case measure => simp [intOf]; omega
      | false =>
        have hmr : m < r := by
          rcases Nat.lt_or_ge m r with h | h
          · exact h
          · have := HHI.out m h (by omega)
            rw [hq] at this
            cases this
        have H1 : a ≤ m ∧ m + 1 ≤ r := ⟨by omega, by omega⟩
        clear hq hm hm1 hm2
        go_wp2_with (fail)
        go_roundw
        case rel => exact ⟨m + 1, b, by go_num, rfl, H1.2, hb, hbn, hB1⟩
        case measure => simp [intOf]; omega
    · have hnl : ¬ ((a : Int) < (b : Int)) := by omega
      obtain rfl : a = r := by omega
      go_wp2_with (fail)
      go_ret
      exact ⟨rfl, hB⟩

/-! ### place -/
theorem eg_place1 : ∀ args w, (callFunc 55 args).run Try.prog w = .ok (.enter 55 args) w := fun args w => by simp [go_sem]
set_option maxRecDepth 100000 in
set_option maxHeartbeats 4000000 in
theorem place1_calls (cap no : Int) (A : Option Addr) (c : Nat) (l : List Fl) (k : Nat) (hk : k < l.length) (b0 b1 : Nat) (w : World) (hR : Kd.C kF w A l.length l) (hc : l.length ≤ c) (hD : BoxC w b0 (cellsD cap A l.length c) 24) (hN : BoxC w b1 #[.int .i64 no] 3) :
    Calls Try.prog 55 #[.int .i64 (k : Int), .pointer (some ⟨b0, 0, none⟩), .pointer (some ⟨b1, 0, none⟩)] w fun e w' => e = .returned (.bool (decide (no ≤ l[k].no))) ∧ Below w.heap.size w w' := by
  have d0 := hD.c 0 rfl
  have d1 := hD.c 1 rfl
  have n0 := hN.c 0 rfl
  obtain ⟨ad, A1, c1, rfl, h0, h1, h2, -, -⟩ := file_at hR k hk
  have hki : (k : Int) < (l.length : Int) := by omega
  generalize l[k].no = x at *
  go_enter Try.func55, Try.ntmps55
  go_wp2_with (fail)
  go_quiet (fail)
  all_goals
    go_wp2_with (fail)
    go_ret
    exact ⟨rfl, pw_below_drewN (Below.refl _ _) _⟩
def placeF (no : Int) : List Fl → Nat
  | [] => 0
  | f :: l => if f.no < no then placeF no l + 1 else 0
theorem placeF_le (no : Int) : ∀ l : List Fl, placeF no l ≤ l.length
  | [] => Nat.le_refl _
  | f :: l => by
    have := placeF_le no l
    unfold placeF
    split
    · simp; omega
    · omega
theorem placeF_lo (no : Int) : ∀ (l : List Fl) (i : Nat) (h : i < l.length), i < placeF no l → l[i].no < no
  | [], i, h, _ => by simp at h
  | f :: l, i, h, hp => by
    unfold placeF at hp
    split at hp
    · cases i with
      | zero => assumption
      | succ i => exact placeF_lo no l i (by simpa using h) (by omega)
    · omega
theorem risF_gt : ∀ (l : List Fl) (p : Int), risF p l → ∀ (i : Nat) (h : i < l.length), p < l[i].no
  | [], _, _, i, h => by simp at h
  | f :: l, p, hr, i, h => by
    cases i with
    | zero => exact hr.1
    | succ i => exact Int.lt_trans hr.1 (risF_gt l f.no hr.2.2.2.2 i (by simpa using h))
theorem placeF_hi (no : Int) : ∀ (l : List Fl) (p : Int), risF p l → ∀ (i : Nat) (h : i < l.length), placeF no l ≤ i → no ≤ l[i].no
  | [], _, _, i, h, _ => by simp at h
  | f :: l, p, hr, i, h, hp => by
    unfold placeF at hp
    split at hp
    · cases i with
      | zero => omega
      | succ i => exact placeF_hi no l f.no hr.2.2.2.2 i (by simpa using h) (by omega)
    · cases i with
      | zero => show no ≤ f.no; omega
      | succ i =>
        have h' : i < l.length := by simpa using h
        have := risF_gt l f.no hr.2.2.2.2 i h'
        show no ≤ (l[i]'h').no
        omega
theorem idxF_place (no : Int) : ∀ (l : List Fl) (p : Int), risF p l → idxF no l = if h : placeF no l < l.length then (if (l[placeF no l]'h).no = no then some (placeF no l) else none) else none
  | [], _, _ => rfl
  | f :: l, p, hr => by
    have ih := idxF_place no l f.no hr.2.2.2.2
    by_cases h1 : f.no < no
    · have e1 : placeF no (f :: l) = placeF no l + 1 := by show (if f.no < no then placeF no l + 1 else 0) = _; rw [if_pos h1]
      have e2 : idxF no (f :: l) = (idxF no l).map (· + 1) := by show (if f.no = no then some 0 else (idxF no l).map (· + 1)) = _; rw [if_neg (by omega)]
      rw [e2, ih]
      by_cases h2 : placeF no l < l.length
      · rw [dif_pos h2, dif_pos (show placeF no (f :: l) < (f :: l).length by rw [e1]; simpa using h2)]
        have e3 : ((f :: l)[placeF no (f :: l)]'(by rw [e1]; simpa using h2)) = l[placeF no l] := by simp [e1]
        rw [e3]
        split
        · simp [e1]
        · rfl
      · rw [dif_neg h2, dif_neg (show ¬ placeF no (f :: l) < (f :: l).length by rw [e1]; simpa using h2)]
        rfl
    · have e1 : placeF no (f :: l) = 0 := by show (if f.no < no then placeF no l + 1 else 0) = _; rw [if_neg h1]
      rw [dif_pos (show placeF no (f :: l) < (f :: l).length by rw [e1]; simp)]
      have e3 : ((f :: l)[placeF no (f :: l)]'(by rw [e1]; simp)) = f := by simp [e1]
      rw [e3, e1]
      by_cases h2 : f.no = no
      · rw [if_pos h2]; show (if f.no = no then some 0 else (idxF no l).map (· + 1)) = _; rw [if_pos h2]
      · rw [if_neg h2]
        show (if f.no = no then some 0 else (idxF no l).map (· + 1)) = _
        rw [if_neg h2]
        have hgt : ∀ (i : Nat) (h : i < l.length), no < l[i].no := fun i h => by
          have := risF_gt l f.no hr.2.2.2.2 i h
          omega
        rw [ih]
        by_cases h3 : placeF no l < l.length
        · rw [dif_pos h3, if_neg (by have := hgt _ h3; omega)]; rfl
        · rw [dif_neg h3]; rfl

set_option maxRecDepth 100000 in
set_option maxHeartbeats 4000000 in
theorem place_calls (cap no : Int) (A : Option Addr) (c : Nat) (l : List Fl) (w : World) (hR : Kd.C kF w A l.length l) (hc : l.length ≤ c) (hl : l.length ≤ 1000000) (hr : risF 0 l) :
    Calls Try.prog 37 #[.agg (cellsD cap A l.length c), .int .i64 no] w fun e w' => e = .returned (.int .i64 (placeF no l : Int)) ∧ Below w.heap.size w w' := by
  have bD := (BoxC.new w (cellsD cap A l.length c) 24).alloc (.cells #[.int .i64 no] 3)
  have bN := BoxC.new (w.alloc (.cells (cellsD cap A l.length c) 24)) #[.int .i64 no] 3
  rw [World.size_alloc] at bN
  have hb0 := below_alloc (below_alloc (Below.refl w.heap.size w) (.cells (cellsD cap A l.length c) 24)) (.cells #[.int .i64 no] 3)
  have HR := Lib.hid (Kd.C_alloc (Kd.C_alloc hR (.cells (cellsD cap A l.length c) 24)) (.cells #[.int .i64 no] 3))
  have BD := Lib.hid bD
  have BN := Lib.hid bN
  have d1 := bD.c 1 rfl
  clear hR bD bN
  go_enter Try.func37, Try.ntmps37
  go_wp2_with (fail)
  refine (search_calls l.length hl 55 #[.pointer (some ⟨w.heap.size, 0, none⟩), .pointer (some ⟨w.heap.size + 1, 0, none⟩)] (fun i => if h : i < l.length then decide (no ≤ l[i].no) else true) (placeF no l) (placeF_le no l) (fun i hi => ?_) (fun i h1 h2 => ?_) _ (fun i W hi hW => ?_) eg_place1).mono ?_
  · have hil : i < l.length := Nat.lt_of_lt_of_le hi (placeF_le no l)
    have := placeF_lo no l i hil hi
    rw [dif_pos hil, decide_eq_false (by omega)]
  · have := placeF_hi no l 0 hr i h2 h1
    rw [dif_pos h2, decide_eq_true this]
  · rw [dif_pos hi]
    exact place1_calls cap no A c l i hi w.heap.size (w.heap.size + 1) W (Kd.C_below HR.out hW) hc (BD.out.below hW) (BN.out.below hW)
  · rintro e w1 ⟨rfl, hb1⟩
    have hB1 := hb0.trans (hb1.mono hb0.size)
    clear hb1
    go_wp2_with (fail)
    go_ret
    exact ⟨rfl, hB1⟩

/-! ### Find -/
theorem findD_no {d : Dk} {no : Int} (h : ¬ mayD d) : findD d no = -1 := by unfold findD; rw [if_neg h]
theorem findD_yes {cap : Int} {l : List Fl} {no : Int} (h : mayD ⟨cap, l⟩) : findD ⟨cap, l⟩ no = if hp : placeF no l < l.length then (if (l[placeF no l]'hp).no = no then (placeF no l : Int) else -1) else -1 := by
  unfold findD
  rw [if_pos h, idxF_place no l 0 h.1]
  by_cases hp : placeF no l < l.length
  · rw [dif_pos hp, dif_pos hp]
    by_cases hq : (l[placeF no l]'hp).no = no
    · rw [if_pos hq, if_pos hq]
    · rw [if_neg hq, if_neg hq]
  · rw [dif_neg hp, dif_neg hp]
set_option maxRecDepth 100000 in
set_option maxHeartbeats 4000000 in
theorem find_calls (cap no : Int) (A : Option Addr) (c : Nat) (l : List Fl) (w : World) (hR : Kd.C kF w A l.length l) (hc : l.length ≤ c) (hu : usedF l ≤ 4611686018427387904) :
    Calls Try.prog 15 #[.agg (cellsD cap A l.length c), .int .i64 no] w fun e w' => e = .returned (.int .i64 (findD ⟨cap, l⟩ no)) ∧ Below w.heap.size w w' := by
  have bD := BoxC.new w (cellsD cap A l.length c) 24
  have hb0 := below_alloc (Below.refl w.heap.size w) (.cells (cellsD cap A l.length c) 24)
  have HR := Lib.hid hR
  have BD := Lib.hid bD
  have d0 := bD.c 0 rfl
  have d1 := bD.c 1 rfl
  clear hR bD
  go_enter Try.func15, Try.ntmps15
  go_wp2_with (fail)
  refine (may_calls cap A c l _ (Kd.C_alloc HR.out _) hc hu).mono ?_
  rintro e w1 ⟨rfl, hb1⟩
  have hB1 : Below w.heap.size w w1 := hb0.trans (hb1.mono (by simp))
  have bD1 := BD.out.below hb1
  have e0 := bD1.c 0 rfl
  have e1 := bD1.c 1 rfl
  have BD1 := Lib.hid bD1
  clear bD1 hb1 d0 d1
  by_cases hm : mayD ⟨cap, l⟩
  · obtain ⟨i, hi⟩ : ∃ i, placeF no l = i := ⟨_, rfl⟩
    have hf : findD ⟨cap, l⟩ no = if hp : i < l.length then (if (l[i]'hp).no = no then (i : Int) else -1) else -1 := by subst hi; exact findD_yes hm
    have HF := Lib.hid hf
    have hris := hm.1
    have hl12 : l.length ≤ 12 := hm.2.2.2.1
    rw [decide_eq_true hm]
    have HRIS := Lib.hid hris
    have HI := Lib.hid hi
    clear hm hf hris hi
    go_wp2_with (fail)
    have q := place_calls cap no A c l w1 (Kd.C_below HR.out hB1) hc (by omega) HRIS.out
    rw [HI.out] at q
    refine q.mono ?_
    clear q
    rintro e w2 ⟨rfl, hb2⟩
    have hB2 := hB1.trans (hb2.mono hB1.size)
    have bD2 := BD1.out.below hb2
    have f0 := bD2.c 0 rfl
    have f1 := bD2.c 1 rfl
    have HC2 := Lib.hid (Kd.C_below HR.out hB2)
    clear bD2 hb2 e0 e1 HRIS HI
    by_cases hp : i < l.length
    · have hpi : (i : Int) < (l.length : Int) := by omega
      obtain ⟨ad, A1, c1, rfl, h0, h1, h2, -, -⟩ := file_at HC2.out i hp
      have hf2 : findD ⟨cap, l⟩ no = if l[i].no = no then (i : Int) else -1 := by
        rw [HF.out]

        rw [dif_pos hp]
      generalize l[i].no = x at *
      have HF2 := Lib.hid hf2
      clear hf2 HF
      by_cases hx : x = no
      · have hxb : (x == no) = true := by simpa using hx
        have hr : findD ⟨cap, l⟩ no = (i : Int) := by rw [HF2.out, if_pos hx]
        have HX := Lib.hid hr
        clear hr HF2 hx
        go_wp2_with (fail)
        go_ret
        exact ⟨by rw [HX.out]; rfl, hB2⟩
      · have hxb : (x == no) = false := by simpa using hx
        have hr : findD ⟨cap, l⟩ no = -1 := by rw [HF2.out, if_neg hx]
        have HX := Lib.hid hr
        clear hr HF2 hx
        go_wp2_with (fail)
        go_ret
        exact ⟨by rw [HX.out]; rfl, hB2⟩
    · have hpi : ¬ (i : Int) < (l.length : Int) := by omega
      have hr : findD ⟨cap, l⟩ no = -1 := by
        rw [HF.out]
        exact dif_neg hp
      have HX := Lib.hid hr
      clear hr HF
      go_wp2_with (fail)
      go_ret
      exact ⟨by rw [HX.out]; rfl, hB2⟩
  · have hf := findD_no (no := no) hm
    have HF := Lib.hid hf
    rw [decide_eq_false hm]
    clear hm hf
    go_wp2_with (fail)
    go_ret
    exact ⟨by rw [HF.out]; rfl, hB1⟩
end Go.Proofs.Ytahiigcofgnncaa.H
