import Derived.Test.YtnicndnbloohhaaRecRP
/-! Layer 5: the reference's Get, walked. -/
namespace Go.Proofs.Ytnicndnbloohhaa.H
open Go.RowKit Moor Go.Proofs.YtnicndnbloohhaaW.PrintWords Go.Proofs.YtnicndnbloohhaaW.PrintLast Go.Proofs.YtnicndnbloohhaaW.PrintMore
set_option linter.unusedVariables false
set_option linter.unusedSimpArgs false

theorem ends_loop (l : List Int) (a : Nat) (hb : l.length ≤ 4611686018427387904) (ha : a ≤ l.length) (d : Nat) : ∀ (k i : Nat), i + d = min l.length (a + 6) → 2 * d + 2 ≤ k → a ≤ i →
    B.mooringsref05_ends.l0 k l (a : Int) (i : Int) = some (((l.drop i).take d).any (fun c => decide (c < 128)) || decide (6 ≤ l.length - a)) := by
  induction d with
  | zero =>
    intro k i hd hk hi
    obtain ⟨k, rfl⟩ : ∃ m, k = m + 2 := ⟨k - 2, by omega⟩
    simp only [B.mooringsref05_ends.l0, B.mooringsref05_ends.j1]
    have hw : wrap64 ((a : Int) + 6) = ((a + 6 : Nat) : Int) := by unfold wrap64; omega
    have hw2 : wrap64 ((l.length : Int) - (a : Int)) = ((l.length - a : Nat) : Int) := by unfold wrap64; omega
    rw [hw, hw2]
    have hr : decide (((l.length - a : Nat) : Int) ≥ 6) = decide (6 ≤ l.length - a) := decide_eq_decide.2 (by clear hw hw2; omega)
    by_cases h : (i : Int) < (l.length : Int)
    · rw [if_pos h, if_neg (by rw [decide_eq_false (by clear hw hw2 hr; omega)]; decide), hr]
      simp
    · rw [if_neg h, if_neg (by decide), hr]
      simp
  | succ d ih =>
    intro k i hd hk hi
    obtain ⟨k, rfl⟩ : ∃ m, k = m + 2 := ⟨k - 2, by omega⟩
    have h1 : i < l.length := by omega
    have e1 : l.drop i = l[i] :: l.drop (i + 1) := List.drop_eq_getElem_cons h1
    have hr : rd l (i : Int) = l[i] := by unfold rd; simp [List.getD_eq_getElem?_getD, h1]
    have hw : wrap64 ((a : Int) + 6) = ((a + 6 : Nat) : Int) := by unfold wrap64; omega
    have hw1 : wrap64 ((i : Int) + 1) = ((i + 1 : Nat) : Int) := by unfold wrap64; omega
    simp only [B.mooringsref05_ends.l0, B.mooringsref05_ends.j1]
    rw [hw, hw1, if_pos (show (i : Int) < (l.length : Int) by clear hw hw1; omega), if_pos (decide_eq_true (show (i : Int) < ((a + 6 : Nat) : Int) by clear hw hw1; omega)), if_pos (show (0 : Int) ≤ (i : Int) by clear hw hw1; omega), if_pos (show (i : Int) < (l.length : Int) by clear hw hw1; omega), hr, e1, List.take_succ_cons, List.any_cons]
    clear hw hw1
    by_cases h : l[i] < 128
    · rw [if_pos h, decide_eq_true h]
      rfl
    · rw [if_neg h, decide_eq_false h, ih k (i + 1) (by omega) (by omega) (by omega)]
      rfl
theorem ends_tells (l : List Int) (a : Nat) (hb : l.length ≤ 4611686018427387904) (ha : a ≤ l.length) : B.mooringsref05_ends.f 20 l (a : Int) = some (!openR (l.drop a)) := by
  have := ends_loop l a hb ha (min l.length (a + 6) - a) 20 a (by omega) (by omega) (Nat.le_refl _)
  unfold B.mooringsref05_ends.f
  rw [this]
  congr 1
  unfold openR
  rw [List.length_drop]
  by_cases h : 6 ≤ l.length - a
  · rw [decide_eq_true h, decide_eq_false (show ¬ l.length - a < 6 by omega)]
    simp
  · have ht : (l.drop a).take (min l.length (a + 6) - a) = l.drop a := List.take_of_length_le (by rw [List.length_drop]; omega)
    rw [ht, decide_eq_false h, decide_eq_true (show l.length - a < 6 by omega), Bool.or_false, Bool.true_and]
    generalize l.drop a = z
    induction z with
    | nil => rfl
    | cons x z ih =>
      rw [List.any_cons, List.all_cons, ih]
      by_cases h9 : x < 128
      · rw [decide_eq_true h9, decide_eq_false (show ¬ 128 ≤ x by omega)]; rfl
      · rw [decide_eq_false h9, decide_eq_true (show 128 ≤ x by omega)]; simp

theorem ends_calls (A : Option Addr) (c : Nat) (l : List Int) (a : Nat) (w : World) (hr : Kd.C (Kd.int .u8) w A l.length l) (hc : l.length ≤ c) (hl : l.length ≤ 4611686018427387904) (ha : a ≤ l.length) :
    Calls Try.prog 30 #[.slice A l.length c, .int .i64 (a : Int)] w fun e w' => e = .returned (.bool (!openR (l.drop a))) ∧ Below w.heap.size w w' :=
  (B.mooringsref05_ends.calls 20 A c l a _ w hr hc (ends_tells l a hl ha)).mono fun e w' h => ⟨h.1, h.2.below⟩
theorem refvget_calls (A : Option Addr) (c : Nat) (l : List Int) (a : Int) (w : World) (hr : Kd.C (Kd.int .u8) w A l.length l) (hc : l.length ≤ c) (ho : okB l) (hl : l.length ≤ 4611686018427387904) :
    Calls Try.prog 31 #[.slice A l.length c, .int .i64 a] w fun e w' => e = .returned (.tuple #[.int .i64 (vGet l a).1, .int .i64 (vGet l a).2]) ∧ Below w.heap.size w w' :=
  (B.mooringsref01_Get.calls 20 A c l a _ _ w hr hc (refGet_tells l a ho (.inr hl) 20 (Nat.le_refl _))).mono fun e w' h => ⟨h.1, h.2.below⟩

set_option maxRecDepth 100000 in
set_option maxHeartbeats 4000000 in
theorem refGet_neg (A : Option Addr) (c : Nat) (l : List Int) (a : Int) (w : World) (hc : l.length ≤ c) (h : a < 0) :
    Calls Try.prog 15 #[.slice A l.length c, .int .i64 a] w (RecEnd (⟨0, []⟩, 0, 2) w) := by
  go_enter Try.func15, Try.ntmps15
  go_wp2_with (fail)
  exact rec_none (h := rfl) rfl rfl rfl (BoxR.new _ _ _) (below_alloc (Below.refl _ _) _)
set_option maxRecDepth 100000 in
set_option maxHeartbeats 4000000 in
theorem refGet_high (A : Option Addr) (c : Nat) (l : List Int) (a : Int) (w : World) (hc : l.length ≤ c) (h : 0 ≤ a) (h1 : (l.length : Int) < a) :
    Calls Try.prog 15 #[.slice A l.length c, .int .i64 a] w (RecEnd (⟨0, []⟩, 0, 2) w) := by
  go_enter Try.func15, Try.ntmps15
  go_wp2_with (fail)
  exact rec_none (h := rfl) rfl rfl rfl (BoxR.new _ _ _) (below_alloc (Below.refl _ _) _)
set_option maxRecDepth 100000 in
set_option maxHeartbeats 4000000 in
theorem refGet_end (A : Option Addr) (c : Nat) (l : List Int) (w : World) (hc : l.length ≤ c) :
    Calls Try.prog 15 #[.slice A l.length c, .int .i64 (l.length : Int)] w (RecEnd (⟨0, []⟩, 0, 4) w) := by
  go_enter Try.func15, Try.ntmps15
  go_wp2_with (fail)
  exact rec_none (h := rfl) rfl rfl rfl (BoxR.new _ _ _) (below_alloc (Below.refl _ _) _)

set_option maxRecDepth 100000 in
set_option maxHeartbeats 8000000 in
theorem refGet_in (A : Option Addr) (c : Nat) (l : List Int) (a : Nat) (w : World) (hR : Kd.C (Kd.int .u8) w A l.length l) (hc : l.length ≤ c) (ho : okB l) (hl : l.length ≤ 140737488355300) (h : a < l.length) :
    Calls Try.prog 15 #[.slice A l.length c, .int .i64 (a : Int)] w (RecEnd (rGet l a) w) := by
  have hst := rGet_step ho h
  have hmo := midR_open ho h
  have hbo := midR_body ho h
  have hai : (a : Int) < (l.length : Int) := by omega
  have hda : ((a + 1 : Nat) : Int) = (a : Int) + 1 := by omega
  have hen := fun W hW => ends_calls A c l (a + 1) W hW hc (by omega) (by omega)
  rw [hda] at hst hmo hen hbo
  have hend : endR l a = (vGet l ((a : Int) + 1)).2 + (vGet l ((a : Int) + 1)).1 + 4 := by unfold endR; rw [hda]
  have HST := Lib.hid hst
  have HMO := Lib.hid hmo
  have HEND := Lib.hid hend
  have HBO := Lib.hid hbo
  have HEN := Lib.hid hen
  have HR := Lib.hid hR
  have hB0 : Below w.heap.size w (w.alloc (.cells #[.int .i64 0, .slice none 0 0] 24)) := below_alloc (Below.refl _ _) _
  have HB0 := Lib.hid hB0
  have hbx := BoxR.new w (.int .i64 0) (.slice none 0 0)
  have HBX := Lib.hid hbx
  clear hst hmo hend hR hbx hB0 hen hbo
  go_enter Try.func15, Try.ntmps15
  go_wp2_with (fail)
  refine (HEN.out _ (Kd.C_alloc HR.out _)).mono ?_
  rintro e w1 ⟨rfl, hb1⟩
  have hB1 := HB0.out.trans (hb1.mono HB0.out.size)
  have bx1 := HBX.out.below hb1
  have HB1 := Lib.hid hB1
  have b0 := bx1.c0
  have b1 := bx1.c1
  have b2 := bx1.f 0
  have b3 := bx1.f 1
  have BX1 := Lib.hid bx1
  clear hb1 hB1 bx1 HEN
  cases hop : openR (l.drop (a + 1)) with
  | true =>
    have HV := Lib.hid (HST.out.trans (if_pos hop))
    clear hop
    go_wp2_with (fail)
    rw [HV.out]
    exact rec_noneS (h := rfl) rfl rfl rfl BX1.out HB1.out
  | false =>
    have HV1 := Lib.hid (HST.out.trans (if_neg (by rw [hop]; decide)))
    clear hop HST
    go_wp2_with (fail)
    refine (refvget_calls A c l ((a : Int) + 1) w1 (Kd.C_below HR.out HB1.out) hc ho (by omega)).mono ?_
    rintro e w2 ⟨rfl, hb2⟩
    have bx2 := BX1.out.below hb2
    have HB2 := Lib.hid (HB1.out.trans (hb2.mono HB1.out.size))
    clear b0 b1 b2 b3
    have b0 := bx2.c0
    have b1 := bx2.c1
    have b2 := bx2.f 0
    have b3 := bx2.f 1
    have BX2 := Lib.hid bx2
    clear hb2 bx2 BX1
    have hn0 := vGet_n0 ho ((a : Int) + 1)
    have HBD := Lib.hid (vGet_bound l ((a : Int) + 1))
    generalize (vGet l ((a : Int) + 1)).1 = n at *
    generalize (vGet l ((a : Int) + 1)).2 = from_ at *
    by_cases h1 : from_ = -1
    · have h1b : from_ < 0 := by omega
      have HV := Lib.hid (HV1.out.trans (if_pos (.inl h1)))
      clear h1 HMO HBO
      go_wp2_with (fail)
      rw [HV.out]
      exact rec_noneS (h := rfl) rfl rfl rfl BX2.out HB2.out
    · have hbd := HBD.out.resolve_left h1
      have h1b : ¬ from_ < 0 := by omega
      by_cases h2 : n > 1000
      · have h2' : (1000 : Int) < n := h2
        have HV := Lib.hid (HV1.out.trans (if_pos (.inr h2)))
        clear h1 HMO h2 HBO
        go_wp2_with (fail)
        rw [HV.out]
        exact rec_noneS (h := rfl) rfl rfl rfl BX2.out HB2.out
      · have h2' : ¬ (1000 : Int) < n := h2
        have HV2 := Lib.hid (HV1.out.trans (if_neg (by omega)))
        by_cases h4 : (l.length : Int) < endR l a
        · have HV := Lib.hid (HV2.out.trans (if_pos h4))
          have hlt : (l.length : Int) - from_ < n + 4 := by have := HEND.out; omega
          clear h4 HMO HEND HV1 HV2 HBO
          go_wp2_with (fail)
          rw [HV.out]
          exact rec_noneS (h := rfl) rfl rfl rfl BX2.out HB2.out
        · obtain ⟨m1, m2, m3, m4, m5⟩ := HMO.out h1 (by omega) (by omega)
          have hbo := HBO.out h1 (by omega) (by omega)
          have HV3 := Lib.hid (HV2.out.trans (if_neg h4))
          have he := HEND.out
          have hea : endR l a ≤ l.length := by omega
          have heb : (a : Int) ≤ endR l a := by omega
          obtain ⟨A3, q1, q2, q3⟩ := midB A c l (a : Int) (endR l a) (by omega) heb hea hc
          rw [Int.toNat_natCast] at q1 q2 q3
          have hmd : (l.take (endR l a).toNat).drop a = midR l a := rfl
          have hmo : okB (midR l a) := okB_drop (okB_take ho _) _
          rw [hmd] at q1 q2 q3
          rw [he] at hea heb q1 m4 m5
          have HV4 := Lib.hid (show _ from HV3.out)
          rw [he] at HV4
          generalize midR l a = md at *
          have hlt : ¬ (l.length : Int) - from_ < n + 4 := by omega
          have hmll : md.length ≤ 140737488355300 := by omega
          obtain ⟨A7, r1, r2, r3, r4⟩ := midB2 A c l from_ (from_ + n) (by omega) (by omega) (by omega) hc
          have HQ2 := Lib.hid q2
          have HR2 := Lib.hid r2
          have HM5 := Lib.hid m5
          have HM4 := Lib.hid m4
          have HMO := Lib.hid hmo
          have HBD := Lib.hid hbo
          clear h4 HEND HV1 HV2 HV3 he hmd m5 q2 m4 hmo r2 hbo HBO
          go_wp2_with (fail)
          refine (refOpen_calls A3 _ md w2 (HQ2.out _ (Kd.C_below HR.out HB2.out)) q3 HMO.out (by omega)).mono ?_
          rintro e w3 ⟨v3, rfl, hR3, hb3⟩
          have bx3 := BX2.out.below hb3
          have HB3 := Lib.hid (HB2.out.trans (hb3.mono HB2.out.size))
          clear b0 b1 b2 b3
          have b0 := bx3.c0
          have b1 := bx3.c1
          have b2 := bx3.f 0
          have b3 := bx3.f 1
          have BX3 := Lib.hid bx3
          clear hb3 bx3 BX2 hR3
          cases hop : (cOpen md).2 with
          | false =>
            have HV := Lib.hid (HV4.out.trans (if_neg (by rw [hop]; decide)))
            clear HV4 HM5 hop HBD
            go_wp2_with (fail)
            rw [HV.out]
            exact rec_noneS (h := rfl) rfl rfl rfl BX3.out HB3.out
          | true =>
            have hv := HV4.out.trans (if_pos hop)
            rw [HBD.out hop] at hv
            have HV := Lib.hid hv
            clear HV4 HM5 hop HBD hv
            obtain ⟨ad, rfl, hce⟩ := cell_ofB (Kd.C_below HR.out HB3.out) a h
            have hadl := C_lt HR.out (by omega) rfl
            have hwz : w.heap.size < w3.heap.size := blk_lt BX3.out
            have hk := ho _ (List.getElem_mem h)
            generalize l[a] = k at *
            have hwk : IntKind.i64.wrap k = k := i64_of (by have := hk.1; omega) (by have := hk.2; omega)
            have hw1 : IntKind.i64.wrap (from_ + n) = from_ + n := i64_of (by omega) (by omega)
            have hw2 : IntKind.i64.wrap (from_ + n + 4) = from_ + n + 4 := i64_of (by omega) (by omega)
            have hs1 : 0 ≤ from_ := by omega
            have hs2 : from_ ≤ from_ + n := by omega
            have hs3 : from_ + n ≤ (l.length : Int) := by omega
            have hzl : ((l.take (from_ + n).toNat).drop from_.toNat).length ≤ 1000 := by omega
            have HC7 := Lib.hid (HR2.out _ (Kd.C_drew (Kd.C_below HR.out HB3.out)))
            generalize (l.take (from_ + n).toNat).drop from_.toNat = z at *
            have HKU := Lib.hid (show ∀ U, Below w3.heap.size w3 U → U.cell? (ad.add a) = some (.int .u8 k) from fun U hU => (hU.cell (p := ad.add a) (by rw [add_blockR]; omega)).trans hce)
            have hne : w.heap.size ≠ (ad.add a).block := by rw [add_blockR]; omega
            have HKS := Lib.hid (show ∀ U x y, Below w3.heap.size w3 U → ((U.setCell ⟨w.heap.size, 0, none⟩ x).setCell ⟨w.heap.size, 1, none⟩ y).cell? (ad.add a) = some (.int .u8 k) from fun U x y hU => by rw [World.cell?_setCell_far _ _ _ _ hne, World.cell?_setCell_far _ _ _ _ hne]; exact HKU.out U hU)
            have D0 := Lib.hid (show Below w3.heap.size w3 w3.drew from (Below.refl _ w3).drew)
            clear hadl hk r4 m1 m2 m3 HR2 hne HM4 HMO hda
            go_wp2_with (fail)
            go_region_held3 (fun W => W.cell? (ad.add a) = some (.int .u8 k)) (first | exact HKU.out _ D0.out | exact HKU.out _ D1 | exact HKS.out _ _ _ D1)
              ((refine Kd.R_append_rows_step (Kd.int .u8) (Rr := fun x cs => cs = [.int .u8 x]) (w0 := w3) w3.heap.size (by rfl) _ _ 22 5 (.int .u8 0) 1 (by rfl) Try.underlying22 infoU8 rfl (by decide) (by decide) (.slice none 0 0) ([] : List Int) z A7 z.length _ (fun _ => True) (fun _ => False) (by rfl) (by rfl) (Kd.R_nil _ _ _ _ _) HC7.out (fun _ _ h => h) (fun _ h => h.elim) (fun _ _ => trivial) D0.out D0.out.size (by simp; omega) ?_; intro v8 u8 hr8 D1 hG8 _; replace hr8 : Kd.R (Kd.int .u8) 5 u8 w3.heap.size (fun _ => True) v8 z := (by simpa using hr8); have hb8 := Kd.R_base hr8; obtain ⟨A8, c8, rfl, hc8, hC8⟩ := Kd.R_reads hr8; have bx8 := BX3.out.below D1; have y0 := bx8.c0; have y1 := bx8.c1; have y2 := bx8.f 0; have y3 := bx8.f 1))
            all_goals
              go_wp2_with (fail)
              rw [HV.out]
              exact rec_end (h := rfl) rfl rfl rfl bx8 (HB3.out.trans (D1.mono HB3.out.size)) hc8 (fun ad' e => by
                subst e
                have := hb8 _ rfl
                omega) (C_farB (C_farB hC8 _ _ (fun ad' e => by
                subst e
                have := hb8 _ rfl
                show w.heap.size ≠ ad'.block
                omega)) _ _ (fun ad' e => by
                subst e
                have := hb8 _ rfl
                show w.heap.size ≠ ad'.block
                omega))
theorem refGet_calls (A : Option Addr) (c : Nat) (l : List Int) (a : Int) (w : World) (hR : Kd.C (Kd.int .u8) w A l.length l) (hc : l.length ≤ c) (ho : okB l) (hl : l.length ≤ 140737488355300) :
    Calls Try.prog 15 #[.slice A l.length c, .int .i64 a] w (RecEnd (rGet l a) w) := by
  by_cases h0 : a < 0
  · have : rGet l a = (⟨0, []⟩, 0, 2) := by unfold rGet; rw [if_pos (.inl h0)]
    rw [this]
    exact refGet_neg A c l a w hc h0
  · by_cases h1 : (l.length : Int) < a
    · have : rGet l a = (⟨0, []⟩, 0, 2) := by unfold rGet; rw [if_pos (.inr h1)]
      rw [this]
      exact refGet_high A c l a w hc (by omega) h1
    · obtain ⟨k, rfl⟩ := Int.eq_ofNat_of_zero_le (show 0 ≤ a by omega)
      by_cases h2 : k < l.length
      · exact refGet_in A c l k w hR hc ho hl h2
      · obtain rfl : k = l.length := by omega
        have : rGet l (l.length : Int) = (⟨0, []⟩, 0, 4) := by
          unfold rGet
          rw [if_neg (by omega), Int.toNat_natCast, List.drop_length]
          rfl
        rw [this]
        exact refGet_end A c l w hc
end Go.Proofs.Ytnicndnbloohhaa.H
