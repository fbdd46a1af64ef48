import Derived.Test.YtiopafdndlodoaaCrcW
import Derived.Test.YtiopafdndlodoaaSlB
import Derived.Deep.QuietTactic
import Derived.BigQuiet
/-! crc.More, Sum, Seal, Open, walked. -/
namespace Go.Proofs.Ytiopafdndlodoaa.H
open Go.RowKit Moor Go.Proofs.YtiopafdndlodoaaW.PrintWords Go.Proofs.YtiopafdndlodoaaW.PrintLast Go.Proofs.YtiopafdndlodoaaW.PrintMore
set_option linter.unusedVariables false
set_option linter.unusedSimpArgs false

theorem xor_all (s : Int) (h0 : 0 ≤ s) (h1 : s ≤ 4294967295) : bits .xor .u32 s 4294967295 = (((BitVec.ofInt 32 s ^^^ cAll).toNat : Nat) : Int) := by
  obtain ⟨n, rfl⟩ := Int.eq_ofNat_of_zero_le h0
  have e : (BitVec.ofInt 32 (n : Int)).toNat = n := by rw [BitVec.ofInt_natCast, BitVec.toNat_ofNat]; exact Nat.mod_eq_of_lt (by omega)
  rw [show (4294967295 : Int) = ((4294967295 : Nat) : Int) from rfl, u32_xor_nat n 4294967295 (by omega) (by decide), BitVec.toNat_xor, e]
  rfl
theorem xor_allV (v : R32) : bits .xor .u32 ((v.toNat : Nat) : Int) 4294967295 = (((v ^^^ cAll).toNat : Nat) : Int) := by
  have := v.isLt
  rw [xor_all _ (by omega) (by omega), ofInt_toNat]

set_option maxHeartbeats 1000000 in
theorem more_calls (s : Int) (A : Option Addr) (c : Nat) (l : List Int) (w : World) (h0 : 0 ≤ s) (h1 : s ≤ 4294967295) (hR : Kd.C (Kd.int .u8) w A l.length l) (hc : l.length ≤ c) (ho : okB l) :
    Calls Try.prog 65 #[.int .u32 s, .slice A l.length c] w fun e w' => e = .returned (.int .u32 (cMore s l)) ∧ Below w.heap.size w w' := by
  have hx := xor_all s h0 h1
  have hm : cMore s l = (((cRoll (BitVec.ofInt 32 s ^^^ cAll) l ^^^ cAll).toNat : Nat) : Int) := rfl
  generalize BitVec.ofInt 32 s ^^^ cAll = v at *
  have HM := Lib.hid hm
  clear hm
  go_enter Try.func65, Try.ntmps65
  go_wp2_with (fail)
  have hbx : Boxed (w.alloc (.cells #[.int .u32 (v.toNat : Nat)] 97)) w.heap.size 97 (.int .u32 (v.toNat : Nat)) := Boxed.new _ _ _
  have hB : Below w.heap.size w (w.alloc (.cells #[.int .u32 (v.toNat : Nat)] 97)) := below_alloc (Below.refl _ _) _
  refine (roll_calls w A c l w.heap.size v _ hR hc ho hB (Nat.le_refl _) hbx).mono ?_
  rintro e w1 ⟨rfl, hb1, hg1⟩
  have hB1 : Below w.heap.size w w1 := hB.grown hg1 (by simp) (fun j e => by cases e; exact Nat.le_refl _)
  have hc1 := hb1.cell
  have hxv := xor_allV (cRoll v l)
  have hlt := (cRoll v l).isLt
  generalize cRoll v l = u at *
  clear hbx hB hb1 hg1 hx
  go_wp2_with (fail)
  go_ret
  exact ⟨by rw [HM.out, BitVec.toNat_xor]; rfl, hB1⟩

set_option maxHeartbeats 1000000 in
theorem sum_calls (A : Option Addr) (c : Nat) (l : List Int) (w : World) (hR : Kd.C (Kd.int .u8) w A l.length l) (hc : l.length ≤ c) (ho : okB l) :
    Calls Try.prog 60 #[.slice A l.length c] w fun e w' => e = .returned (.int .u32 (cSum l)) ∧ Below w.heap.size w w' := by
  have h0 := cMore_zero l
  have H0 := Lib.hid h0
  clear h0
  go_enter Try.func60, Try.ntmps60
  go_wp2_with (fail)
  refine (more_calls 0 A c l w (by omega) (by omega) hR hc ho).mono ?_
  rw [H0.out]
  rintro e w1 ⟨rfl, hb1⟩
  go_wp2_with (fail)
  go_ret
  exact ⟨rfl, hb1⟩

theorem equalB_loop (x y : List Int) (hl : x.length = y.length) (hb : x.length ≤ 4611686018427387904) (d : Nat) : ∀ (k i : Nat), i + d = x.length → d < k →
    B.slices_Equal_byte_byte.l0 k x y (x.length : Int) (i : Int) = some (decide (x.drop i = y.drop i)) := by
  induction d with
  | zero =>
    intro k i hd hk
    obtain ⟨k, rfl⟩ : ∃ m, k = m + 1 := ⟨k - 1, by omega⟩
    simp only [B.slices_Equal_byte_byte.l0]
    rw [if_neg (show ¬ (i : Int) < x.length by omega)]
    have h1 : x.drop i = [] := List.drop_eq_nil_iff.2 (by omega)
    have h2 : y.drop i = [] := List.drop_eq_nil_iff.2 (by omega)
    rw [h1, h2]
    rfl
  | succ d ih =>
    intro k i hd hk
    obtain ⟨k, rfl⟩ : ∃ m, k = m + 1 := ⟨k - 1, by omega⟩
    have h1 : i < x.length := by omega
    have h2 : i < y.length := by omega
    have e1 : x.drop i = x[i] :: x.drop (i + 1) := List.drop_eq_getElem_cons h1
    have e2 : y.drop i = y[i] :: y.drop (i + 1) := List.drop_eq_getElem_cons h2
    have r1 : rd x (i : Int) = x[i] := by unfold rd; simp [List.getD_eq_getElem?_getD, h1]
    have r2 : rd y (i : Int) = y[i] := by unfold rd; simp [List.getD_eq_getElem?_getD, h2]
    have hw : wrap64 ((i : Int) + 1) = ((i + 1 : Nat) : Int) := by unfold wrap64; omega
    simp only [B.slices_Equal_byte_byte.l0]
    rw [if_pos (show (i : Int) < x.length by omega), if_pos (show (0 : Int) ≤ i by omega), if_pos (show (i : Int) < x.length by omega), if_pos (show (i : Int) < y.length by omega), r1, r2, hw]
    by_cases h : x[i] = y[i]
    · rw [if_pos h, ih k (i + 1) (by omega) (by omega), e1, e2, h]
      congr 1
      apply decide_eq_decide.2
      rw [List.cons.injEq]
      exact ⟨fun g => ⟨rfl, g⟩, fun g => g.2⟩
    · rw [if_neg h, e1, e2]
      have : ¬ (x[i] :: x.drop (i + 1) = y[i] :: y.drop (i + 1)) := fun g => h (by injection g)
      rw [decide_eq_false this]
theorem equalB_tells (x y : List Int) (hb : x.length ≤ 4611686018427387904) : B.slices_Equal_byte_byte.f (x.length + 1) x y = some (decide (x = y)) := by
  unfold B.slices_Equal_byte_byte.f
  by_cases h : x.length = y.length
  · rw [if_pos (by omega)]
    have := equalB_loop x y h hb x.length (x.length + 1) 0 (by omega) (by omega)
    simpa using this
  · rw [if_neg (by omega), decide_eq_false (fun e => h (by rw [e]))]
theorem equalB_calls (A : Option Addr) (c : Nat) (x : List Int) (A' : Option Addr) (c' : Nat) (y : List Int) (b : Bool) (hb : decide (x = y) = b) (w : World) (hR : Kd.C (Kd.int .u8) w A x.length x) (hc : x.length ≤ c) (hR' : Kd.C (Kd.int .u8) w A' y.length y) (hc' : y.length ≤ c') (hl : x.length ≤ 4611686018427387904) :
    Calls Try.prog 58 #[.slice A x.length c, .slice A' y.length c'] w fun e w' => e = .returned (.bool b) ∧ Below w.heap.size w w' :=
  (B.slices_Equal_byte_byte.calls (x.length + 1) A c x A' c' y b w hR hc hR' hc' (by rw [equalB_tells x y hl, hb])).mono fun e w' h => ⟨h.1, h.2.below⟩

theorem four_tells (v : R32) : B.crc_four.f ((v.toNat : Nat) : Int) = some (fourB v) := by
  unfold B.crc_four.f fourB
  have := v.isLt
  congr 1
  simp only [List.cons.injEq, and_true]
  omega

set_option maxRecDepth 100000 in
set_option maxHeartbeats 2000000 in
theorem seal_calls (A : Option Addr) (c : Nat) (l : List Int) (w : World) (hR : Kd.C (Kd.int .u8) w A l.length l) (hc : l.length ≤ c) (ho : okB l) (hl : l.length ≤ 140737488355324) :
    Calls Try.prog 50 #[.slice A l.length c] w fun e w' => ∃ v : Value, e = .returned v ∧ Kd.R (Kd.int .u8) 5 w' w.heap.size (fun _ => True) v (cSeal l) ∧ Below w.heap.size w w' := by
  have hs : cSum l = (((cSumV l).toNat : Nat) : Int) := rfl
  have hf : cSeal l = [l, fourB (cSumV l)].flatten := by simp [cSeal]
  generalize cSumV l = v at *
  have HS := Lib.hid hs
  have HF := Lib.hid hf
  clear hs hf
  go_enter Try.func50, Try.ntmps50
  go_wp2_with (fail)
  refine (sum_calls A c l w hR hc ho).mono ?_
  rintro e w1 ⟨rfl, hb1⟩
  rw [HS.out]
  go_wp2_with (fail)
  refine (B.crc_four.calls _ (fourB v) w1 (four_tells v)).mono ?_
  rintro e w2 ⟨v2, rfl, hR2, hb2⟩
  obtain ⟨A2, c2, rfl, hc2, hC2⟩ := Kd.R_reads hR2
  have hB2 : Below w.heap.size w w2 := hb1.trans (hb2.mono hb1.size)
  have h4 : (fourB v).length = 4 := rfl
  have hlit := lit_rows w2 29 [.slice A l.length c, .slice A2 (fourB v).length c2] [l, fourB v] rfl (by simp) (by
    intro j p hj
    match j with
    | 0 => simp at hj; subst hj; exact ⟨A, c, rfl, hc, Kd.C_below hR hB2⟩
    | 1 => simp at hj; subst hj; exact ⟨A2, c2, rfl, hc2, hC2⟩
    | j + 2 => simp at hj)
  have HL := Lib.hid hlit
  clear hlit hR2 hC2
  go_wp2_with (fail)
  refine (concatB_calls (some ⟨w2.heap.size, 0, none⟩) 2 [l, fourB v] _ HL.out (by simp) (by simp [h4]; omega)).mono ?_
  rintro e w3 ⟨v3, rfl, hR3, hb3⟩
  have hB3 : Below w.heap.size w w3 := by
    refine hB2.trans ?_
    refine Below.mono ?_ hB2.size
    exact (below_alloc (Below.refl _ w2) _).trans (hb3.mono (by simp))
  have hR3' := Kd.R_lower hR3 (show w.heap.size ≤ _ by have := hB2.size; simp; omega)
  clear hR3 hb3
  go_wp2_with (fail)
  go_ret
  exact ⟨_, rfl, by rw [HF.out]; exact hR3', hB3⟩

set_option maxRecDepth 100000 in
set_option maxHeartbeats 4000000 in
theorem open_calls (A : Option Addr) (c : Nat) (l : List Int) (w : World) (hR : Kd.C (Kd.int .u8) w A l.length l) (hc : l.length ≤ c) (ho : okB l) (hl : l.length ≤ 140737488355328) :
    Calls Try.prog 47 #[.slice A l.length c] w fun e w' => ∃ v : Value, e = .returned (.tuple #[v, .bool (cOpen l).2]) ∧ Kd.R (Kd.int .u8) 5 w' w.heap.size (fun _ => True) v (cOpen l).1 ∧ Below w.heap.size w w' := by
  by_cases h4 : 4 ≤ l.length
  · have hn : ¬ ((l.length : Int) - 4 < 0) := by omega
    have hn0 : 0 ≤ (l.length : Int) - 4 := by omega
    have hn1 : (l.length : Int) - 4 ≤ l.length := by omega
    have he : ((l.length : Int) - 4).toNat = l.length - 4 := by omega
    obtain ⟨A', hd1, hd2, hd3⟩ := dropB A c l ((l.length : Int) - 4) hn0 hn1 hc
    obtain ⟨ht1, ht2, ht3⟩ := takeB A c l ((l.length : Int) - 4) hn0 hn1 hc
    rw [he] at hd1 hd2 hd3 ht1 ht2 ht3
    have hop : cOpen l = if l.drop (l.length - 4) = fourB (cSumV (l.take (l.length - 4))) then (l.take (l.length - 4), true) else ([], false) := by
      unfold cOpen
      by_cases g : l.drop (l.length - 4) = fourB (cSumV (l.take (l.length - 4)))
      · rw [if_pos ⟨h4, g⟩, if_pos g]
      · rw [if_neg (fun q => g q.2), if_neg g]
    have hot := okB_take ho (l.length - 4)
    have htl : (l.take (l.length - 4)).length ≤ 140737488355328 := by simp; omega
    have hyl0 : (l.drop (l.length - 4)).length ≤ 140737488355328 := by simp; omega
    generalize l.take (l.length - 4) = x at *
    generalize l.drop (l.length - 4) = y at *
    have hs : cSum x = (((cSumV x).toNat : Nat) : Int) := rfl
    generalize cSumV x = v at *
    obtain ⟨b, hbq⟩ : ∃ b, decide (y = fourB v) = b := ⟨_, rfl⟩
    have hnd : decide ((l.length : Int) - 4 < 0) = false := decide_eq_false hn
    have hyl : y.length ≤ 4611686018427387904 := by omega
    have HS := Lib.hid hs
    have HO := Lib.hid hop
    have HR := Lib.hid hR
    have HBQ := Lib.hid hbq
    clear hs hn hbq
    have HT2 := Lib.hid ht2
    have HD2 := Lib.hid hd2
    clear hop hR ht2 hd2 he
    go_enter Try.func47, Try.ntmps47
    go_wp2_with (fail)
    go_region_with (first
      | (go_at_call 60; refine (sum_calls A c x _ (HT2.out _ (Kd.C_drew HR.out)) ht3 hot).mono ?_; rintro e w1 ⟨rfl, hb1⟩; rw [HS.out])
      | (go_at_call 59; refine (B.crc_four.calls _ (fourB v) _ (four_tells v)).mono ?_; rintro e w2 ⟨v2, rfl, hR2, hb2⟩; obtain ⟨A2, c2, rfl, hc2, hC2⟩ := Kd.R_reads hR2)
      | (go_at_call 58; refine (equalB_calls A' _ y A2 c2 (fourB v) b HBQ.out _ (HD2.out _ (Kd.C_below HR.out ((below_drew (Below.refl _ w)).trans ((hb1.trans (hb2.mono hb1.size)).mono (by simp))))) hd3 hC2 hc2 hyl).mono ?_; rintro e w3 ⟨rfl, hb3⟩))
    all_goals
      have hB3 : Below w.heap.size w w3 := (below_drew (Below.refl _ w)).trans ((hb1.trans ((hb2.trans (hb3.mono hb2.size)).mono hb1.size)).mono (by simp))
      clear hR2 hC2 hb1 hb2 hb3
      cases b with
      | false =>
        have hv : cOpen l = ([], false) := by
          rw [HO.out, if_neg (of_decide_eq_false HBQ.out)]
        have HV := Lib.hid hv
        clear hv
        go_wp2_with (fail)
        refine bodyPost_ret (results_tmp2 (fn := Try.f47) (t := 2) (u := 3) rfl _ _ _) rfl ?_
        exact ⟨.slice none 0 0, by rw [HV.out]; rfl, by rw [HV.out]; exact Kd.R_nil _ _ _ _ _, hB3⟩
      | true =>
        have hv : cOpen l = (x, true) := by
          rw [HO.out, if_pos (of_decide_eq_true HBQ.out)]
        have HV := Lib.hid hv
        clear hv
        go_wp2_with (fail)
        refine (cloneB_calls A c x _ (HT2.out _ (Kd.C_below HR.out hB3)) ht3 htl).mono ?_
        rintro e w4 ⟨v4, rfl, hR4, hb4⟩
        go_wp2_with (fail)
        refine bodyPost_ret (results_tmp2 (fn := Try.f47) (t := 2) (u := 3) rfl _ _ _) rfl ?_
        exact ⟨v4, by rw [HV.out]; rfl, by rw [HV.out]; exact Kd.R_lower hR4 hB3.size, hB3.trans (hb4.mono hB3.size)⟩
  · have hn : (l.length : Int) - 4 < 0 := by omega
    have hnd : decide ((l.length : Int) - 4 < 0) = true := decide_eq_true hn
    have hv : cOpen l = ([], false) := by unfold cOpen; rw [if_neg (fun q => h4 q.1)]
    have HV := Lib.hid hv
    clear hv
    go_enter Try.func47, Try.ntmps47
    go_wp2_with (fail)
    go_quiet (fail)
    all_goals
      go_wp2_with (fail)
      refine bodyPost_ret (results_tmp2 (fn := Try.f47) (t := 2) (u := 3) rfl _ _ _) rfl ?_
      exact ⟨.slice none 0 0, by rw [HV.out]; rfl, by rw [HV.out]; exact Kd.R_nil _ _ _ _ _, pw_below_drewN (Below.refl _ _) _⟩
end Go.Proofs.Ytiopafdndlodoaa.H
