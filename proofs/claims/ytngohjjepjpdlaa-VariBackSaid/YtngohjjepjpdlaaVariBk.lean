import Derived.Test.YtngohjjepjpdlaaVariAw
import Derived.Test.YtngohjjepjpdlaaStr
import Derived.Deep.RegionHeld
import Derived.OpenShut
import Derived.Outline
/-! The law VariBack, walked. -/
namespace Go.Proofs.Ytngohjjepjpdlaa.H
open Go.RowKit Moor Go.Proofs.YtngohjjepjpdlaaW.PrintWords Go.Proofs.YtngohjjepjpdlaaW.PrintLast Go.Proofs.YtngohjjepjpdlaaW.PrintMore
set_option linter.unusedVariables false
set_option linter.unusedSimpArgs false

theorem below_onBk {w8 W0 W1 : World} (h : Below W0.heap.size W0 W1) (g : Below w8.heap.size w8 W0) : Below w8.heap.size w8 W1 := g.trans (h.mono g.size)
theorem infoU8 : (Try.prog.info? 5).map (fun i => (i.zero, i.size, i.bytes)) = some (some (.int .u8 0), 1, 1) := by kernel_rfl
theorem vGet_neg {l : List Int} {a : Int} (h : (vGet l a).2 < 0) : vGet l a = (0, -1) := by
  rcases vGet_bound l a with g | g
  · unfold vGet at g ⊢
    split
    · rfl
    · rename_i hx
      rw [if_neg hx] at g
      cases hd : dec (l.drop a.toNat) with
      | none => rfl
      | some p => rw [hd] at g; simp at g; omega
  · omega
theorem vGet_pos {l : List Int} {a : Int} (ho : okB l) (h : ¬ (vGet l a).2 < 0) : 0 ≤ a ∧ a < (vGet l a).2 ∧ (vGet l a).2 ≤ l.length ∧ vPut (vGet l a).1 = (l.take (vGet l a).2.toNat).drop a.toNat := by
  have hb : 0 ≤ a ∧ a < (vGet l a).2 ∧ (vGet l a).2 ≤ l.length := by
    rcases vGet_bound l a with g | g
    · omega
    · exact g
  refine ⟨hb.1, hb.2.1, hb.2.2, ?_⟩
  obtain ⟨i, rfl⟩ := Int.eq_ofNat_of_zero_le hb.1
  cases hd : dec (l.drop i) with
  | none => rw [vGet_none hd] at h; exact absurd (by decide) h
  | some p =>
    obtain ⟨n, k⟩ := p
    obtain ⟨h1, h2, _, h3, h4⟩ := dec_put_of (okB_drop ho _) hd
    rw [vGet_some (by omega) hd]
    simp only [Int.toNat_natCast]
    rw [vPut_pos h1, h4, List.drop_take]
    congr 1
    omega
theorem vGet_put {n : Int} (h : mayN n) (a b : List Int) : vGet (a ++ vPut n ++ b) (a.length : Int) = (n, ((a.length + (vPut n).length : Nat) : Int)) := by
  rw [vPut_pos h]
  have hd : dec ((a ++ put n ++ b).drop a.length) = some (n, (put n).length) := by
    rw [List.append_assoc, List.drop_append]
    simp
    exact dec_put h b
  exact vGet_some (by simp) hd
theorem vPut_ok (n : Int) : okB (vPut n) ∧ (vPut n).length ≤ 6 := by
  by_cases h : mayN n
  · rw [vPut_pos h]
    exact ⟨put_ok h, put_le n⟩
  · rw [vPut_neg h]
    exact ⟨okB_nil, by simp⟩

set_option maxRecDepth 100000 in
set_option maxHeartbeats 8000000 in
theorem vbYes_calls (a0 : Int) (A1 : Option Addr) (c1 : Nat) (l1 : List Int) (A2 : Option Addr) (c2 : Nat) (l2 : List Int) (a3 : Int) (w : World) (hw0 : (Lit.int .i64 a0).wf = true) (hr1 : Kd.C (Kd.int .u8) w A1 l1.length l1) (hc1 : l1.length ≤ c1) (ho1 : okB l1) (hr2 : Kd.C (Kd.int .u8) w A2 l2.length l2) (hc2 : l2.length ≤ c2) (ho2 : okB l2) (hw3 : (Lit.int .i64 a3).wf = true) (g0 : l1.length ≤ 500) (g1 : l2.length ≤ 500) (hx : 0 ≤ a0 ∧ a0 ≤ 1099511627776) :
    Calls Try.prog 4 #[.int .i64 a0, .slice A1 l1.length c1, .slice A2 l2.length c2, .int .i64 a3] w fun e w' => e = .returned (.bool true) ∧ Below w.heap.size w w' := by
  have k1 : ¬ ((500 : Int) < (l1.length : Int)) := by omega
  have k2 : ¬ ((500 : Int) < (l2.length : Int)) := by omega
  obtain ⟨i0, hi, hz0, hz1, hz2⟩ := info_parts infoU8
  have hpo := (vPut_ok a0).1
  have hpl := (vPut_ok a0).2
  have hput : vari_Put.f a0 = some (vPut a0) := rfl

  have hn : mayN a0 := ⟨hx.1, hx.2⟩
  have h1 : 0 ≤ a0 := hx.1
  have h2 : a0 ≤ 1099511627776 := hx.2
  have hpp : 0 < (vPut a0).length := by rw [vPut_pos hn]; exact put_pos a0
  have hg := vGet_put hn l1 l2

  have hno : ¬ ((6 : Int) < ((vPut a0).length : Int)) := by omega
  generalize vPut a0 = p at *
  have HPUT := Lib.hid hput

  have hpi : (0 : Int) < (p.length : Int) := by omega
  have HG := Lib.hid hg
  clear hput hg
  go_enter Try.func4, Try.ntmps4
  go_wp2_with (fail)
  refine (awake_true w).mono ?_
  rintro e w1 ⟨rfl, hb1⟩
  have hB1 : Below w.heap.size w w1 := hb1
  go_wp2_with (fail)
  refine (vari_Put.calls a0 p w1 HPUT.out).mono ?_
  rintro e w2 ⟨v2, rfl, hR2, hb2⟩
  have hB2 : Below w.heap.size w w2 := hB1.trans (hb2.mono hB1.size)
  obtain ⟨A4, c4, rfl, hc4, hC4⟩ := Kd.R_reads hR2
  have hC1 := Kd.C_below hr1 hB2
  have hC2 := Kd.C_below hr2 hB2
  clear hR2 hr1 hr2 hb2
  go_wp2_with (first
    | (at_builtin; refine Kd.R_append_rows (Kd.int .u8) (Rr := fun x cs => cs = [.int .u8 x]) (w0 := w2) w2.heap.size rfl _ _ 22 5 (.int .u8 0) 1 rfl Try.underlying22 infoU8 rfl (by decide) (by decide) _ (l1 ++ p) l2 A2 l2.length c2 (fun _ => True) (fun _ => False) rfl rfl hRb (Kd.C_below hC2 hBb) (fun _ _ h => h) (fun _ h => h.elim) (fun _ _ => trivial) hBb hBb.size (by simp; omega) ?_; intro vc w3 hRc hBc _ _)
    | (at_builtin; refine Kd.R_append_rows (Kd.int .u8) (Rr := fun x cs => cs = [.int .u8 x]) (w0 := w2) w2.heap.size rfl _ _ 22 5 (.int .u8 0) 1 rfl Try.underlying22 infoU8 rfl (by decide) (by decide) _ l1 p A4 p.length c4 (fun _ => True) (fun _ => False) rfl rfl hRa (Kd.C_below hC4 hBa) (fun _ _ h => h) (fun _ h => h.elim) (fun _ _ => trivial) hBa hBa.size (by simp; omega) ?_; intro vb wb hRb hBb _ _)
    | (at_builtin; refine Kd.R_append_rows (Kd.int .u8) (Rr := fun x cs => cs = [.int .u8 x]) (w0 := w2) w2.heap.size rfl _ _ 22 5 (.int .u8 0) 1 rfl Try.underlying22 infoU8 rfl (by decide) (by decide) (.slice none 0 0) [] l1 A1 l1.length c1 (fun _ => True) (fun _ => False) rfl rfl (Kd.R_nil _ _ _ _ _) hC1 (fun _ _ h => h) (fun _ h => h.elim) (fun _ _ => trivial) (Below.refl _ _) (Nat.le_refl _) (by simp; omega) ?_; intro va wa hRa hBa _ _; simp only [List.nil_append] at hRa))
  obtain ⟨A5, c5, rfl, hc5, hC5⟩ := Kd.R_reads hRc
  have hB3 : Below w.heap.size w w3 := hB2.trans (hBc.mono hB2.size)
  have hC6 := Kd.C_below hC2 hBc
  have hoall : okB (l1 ++ p ++ l2) := okB_append (okB_append ho1 hpo) ho2
  have hlall : (l1 ++ p ++ l2).length ≤ 2000 := by simp; omega
  clear hRa hRb hRc hBa hBb hBc hC1 hC2 hC4
  have q := get_calls A5 c5 (l1 ++ p ++ l2) (l1.length : Int) w3 hC5 hc5 hoall (by omega)
  rw [HG.out] at q
  generalize l1 ++ p ++ l2 = lall at *
  refine q.mono ?_
  clear q hC5
  rintro e w4 ⟨rfl, hb4⟩
  have hB4 : Below w.heap.size w w4 := hB3.trans (hb4.mono hB3.size)
  replace hC6 := Kd.C_below hC6 hb4
  have hne : ((a0 : Int) != a0) = false := by simp
  go_wp2_with (fail)
  refine (get_calls A2 c2 l2 a3 w4 hC6 hc2 ho2 (by omega)).mono ?_
  rintro e w5 ⟨rfl, hb5⟩
  have hB5 : Below w.heap.size w w5 := hB4.trans (hb5.mono hB4.size)
  replace hC6 := Kd.C_below hC6 hb5
  clear hb4 hb5
  by_cases hneg : (vGet l2 a3).2 < 0
  · rw [vGet_neg hneg]
    go_wp2_with (fail)
    go_ret
    exact ⟨rfl, hB5⟩
  · obtain ⟨q1, q2, q3, q4⟩ := vGet_pos ho2 hneg
    generalize (vGet l2 a3).2 = t at *
    generalize (vGet l2 a3).1 = k at *
    obtain ⟨A7, m1, m2, m3⟩ := print_mid_of (P := Try.prog) (Value.int .u8) (0 : Int) 22 5 .i64 .i64 Try.underlying22 hi hz1 A2 c2 l2 a3 t q1 (by omega) q3 hc2
    have hml : ((l2.take t.toNat).drop a3.toNat).length ≤ 500 := by simp; omega
    generalize hmid : (l2.take t.toNat).drop a3.toNat = md at *
    have hC7 : Kd.C (Kd.int .u8) w5 A7 md.length md := Kd.C_of_reads (h1 := fun _ => rfl) (m2 w5 (Kd.reads_of_C (h1 := fun _ => rfl) hC6))
    have hpk : vari_Put.f k = some md := by rw [← q4]; rfl
    have HPK := Lib.hid hpk
    have HK := Lib.hid (show ∀ W, Below w5.heap.size w5 W → Below w5.heap.size w5 W ∧ Sem.run Try.prog (convert 22 9 (Value.slice A7 md.length (c2 - a3.toNat))) W = Result.ok (Value.string (strOfNums md)) W from fun W h => ⟨h, Kd.C_string (P := Try.prog) (c := (c2 - a3.toNat)) Try.underlying22 Try.underlying5 Try.underlying9 (Kd.C_below hC7 h)⟩)
    have DR := Lib.hid (show Below w5.heap.size w5 w5.drew from (Below.refl _ w5).drew)
    have e0 : ((strOfNums md).toList == (strOfNums md).toList) = true := by simp
    clear hmid q4 hpk hC7 hC6 m2
    go_wp2_with (fail)
    go_region_held (fun W => Below w5.heap.size w5 W ∧ Sem.run Try.prog (convert 22 9 (Value.slice A7 md.length (c2 - a3.toNat))) W = Result.ok (Value.string (strOfNums md)) W)
      (first | exact HK.out _ DR.out | exact HK.out _ D6)
      (first
        | (go_at_call 17; refine (vari_Put.calls k md _ HPK.out).mono ?_; rintro e w6 ⟨v6, rfl, hR6, hb6⟩; obtain ⟨A6, c6, rfl, hc6, hC8⟩ := Kd.R_reads hR6; have hcv6 := Kd.C_string (P := Try.prog) (c := c6) Try.underlying22 Try.underlying5 Try.underlying9 hC8; have D6 := below_onBk hb6 DR.out))
    all_goals
      go_wp2_with (fail)
      go_ret
      exact ⟨rfl, hB5.trans (D6.mono hB5.size)⟩

set_option maxRecDepth 100000 in
set_option maxHeartbeats 8000000 in
theorem vbNeg_calls (a0 : Int) (A1 : Option Addr) (c1 : Nat) (l1 : List Int) (A2 : Option Addr) (c2 : Nat) (l2 : List Int) (a3 : Int) (w : World) (hw0 : (Lit.int .i64 a0).wf = true) (hr1 : Kd.C (Kd.int .u8) w A1 l1.length l1) (hc1 : l1.length ≤ c1) (ho1 : okB l1) (hr2 : Kd.C (Kd.int .u8) w A2 l2.length l2) (hc2 : l2.length ≤ c2) (ho2 : okB l2) (hw3 : (Lit.int .i64 a3).wf = true) (g0 : l1.length ≤ 500) (g1 : l2.length ≤ 500) (hx : a0 < 0) :
    Calls Try.prog 4 #[.int .i64 a0, .slice A1 l1.length c1, .slice A2 l2.length c2, .int .i64 a3] w fun e w' => e = .returned (.bool true) ∧ Below w.heap.size w w' := by
  have k1 : ¬ ((500 : Int) < (l1.length : Int)) := by omega
  have k2 : ¬ ((500 : Int) < (l2.length : Int)) := by omega
  obtain ⟨i0, hi, hz0, hz1, hz2⟩ := info_parts infoU8
  have hn : ¬ mayN a0 := fun h => by have := h.1; omega
  have hx' : a0 < 0 := hx
  have hput : vari_Put.f a0 = some [] := by show some (vPut a0) = _; rw [vPut_neg hn]
  have hpo : okB ([] : List Int) := okB_nil
  have HPUT := Lib.hid hput
  clear hput hn
  go_enter Try.func4, Try.ntmps4
  go_wp2_with (fail)
  refine (awake_true w).mono ?_
  rintro e w1 ⟨rfl, hb1⟩
  have hB1 : Below w.heap.size w w1 := hb1
  go_wp2_with (fail)
  refine (vari_Put.calls a0 ([] : List Int) w1 HPUT.out).mono ?_
  rintro e w2 ⟨v2, rfl, hR2, hb2⟩
  have hB2 : Below w.heap.size w w2 := hB1.trans (hb2.mono hB1.size)
  obtain ⟨A4, c4, rfl, hc4, hC4⟩ := Kd.R_reads hR2
  have hC1 := Kd.C_below hr1 hB2
  have hC2 := Kd.C_below hr2 hB2
  clear hR2 hr1 hr2 hb2
  go_wp2_with (first
    | (at_builtin; refine Kd.R_append_rows (Kd.int .u8) (Rr := fun x cs => cs = [.int .u8 x]) (w0 := w2) w2.heap.size rfl _ _ 22 5 (.int .u8 0) 1 rfl Try.underlying22 infoU8 rfl (by decide) (by decide) _ (l1 ++ ([] : List Int)) l2 A2 l2.length c2 (fun _ => True) (fun _ => False) rfl rfl hRb (Kd.C_below hC2 hBb) (fun _ _ h => h) (fun _ h => h.elim) (fun _ _ => trivial) hBb hBb.size (by simp; omega) ?_; intro vc w3 hRc hBc _ _)
    | (at_builtin; refine Kd.R_append_rows (Kd.int .u8) (Rr := fun x cs => cs = [.int .u8 x]) (w0 := w2) w2.heap.size rfl _ _ 22 5 (.int .u8 0) 1 rfl Try.underlying22 infoU8 rfl (by decide) (by decide) _ l1 ([] : List Int) A4 ([] : List Int).length c4 (fun _ => True) (fun _ => False) rfl rfl hRa (Kd.C_below hC4 hBa) (fun _ _ h => h) (fun _ h => h.elim) (fun _ _ => trivial) hBa hBa.size (by simp; omega) ?_; intro vb wb hRb hBb _ _)
    | (at_builtin; refine Kd.R_append_rows (Kd.int .u8) (Rr := fun x cs => cs = [.int .u8 x]) (w0 := w2) w2.heap.size rfl _ _ 22 5 (.int .u8 0) 1 rfl Try.underlying22 infoU8 rfl (by decide) (by decide) (.slice none 0 0) [] l1 A1 l1.length c1 (fun _ => True) (fun _ => False) rfl rfl (Kd.R_nil _ _ _ _ _) hC1 (fun _ _ h => h) (fun _ h => h.elim) (fun _ _ => trivial) (Below.refl _ _) (Nat.le_refl _) (by simp; omega) ?_; intro va wa hRa hBa _ _; simp only [List.nil_append] at hRa))
  obtain ⟨A5, c5, rfl, hc5, hC5⟩ := Kd.R_reads hRc
  have hB3 : Below w.heap.size w w3 := hB2.trans (hBc.mono hB2.size)
  have hC6 := Kd.C_below hC2 hBc
  have hoall : okB (l1 ++ ([] : List Int) ++ l2) := okB_append (okB_append ho1 hpo) ho2
  have hlall : (l1 ++ ([] : List Int) ++ l2).length ≤ 2000 := by simp; omega
  clear hRa hRb hRc hBa hBb hBc hC1 hC2 hC4
  have q := get_calls A5 c5 (l1 ++ ([] : List Int) ++ l2) (l1.length : Int) w3 hC5 hc5 hoall (by omega)

  generalize l1 ++ ([] : List Int) ++ l2 = lall at *
  refine q.mono ?_
  clear q hC5
  rintro e w4 ⟨rfl, hb4⟩
  have hB4 : Below w.heap.size w w4 := hB3.trans (hb4.mono hB3.size)
  replace hC6 := Kd.C_below hC6 hb4

  go_wp2_with (fail)
  refine (get_calls A2 c2 l2 a3 w4 hC6 hc2 ho2 (by omega)).mono ?_
  rintro e w5 ⟨rfl, hb5⟩
  have hB5 : Below w.heap.size w w5 := hB4.trans (hb5.mono hB4.size)
  replace hC6 := Kd.C_below hC6 hb5
  clear hb4 hb5
  by_cases hneg : (vGet l2 a3).2 < 0
  · rw [vGet_neg hneg]
    go_wp2_with (fail)
    go_ret
    exact ⟨rfl, hB5⟩
  · obtain ⟨q1, q2, q3, q4⟩ := vGet_pos ho2 hneg
    generalize (vGet l2 a3).2 = t at *
    generalize (vGet l2 a3).1 = k at *
    obtain ⟨A7, m1, m2, m3⟩ := print_mid_of (P := Try.prog) (Value.int .u8) (0 : Int) 22 5 .i64 .i64 Try.underlying22 hi hz1 A2 c2 l2 a3 t q1 (by omega) q3 hc2
    have hml : ((l2.take t.toNat).drop a3.toNat).length ≤ 500 := by simp; omega
    generalize hmid : (l2.take t.toNat).drop a3.toNat = md at *
    have hC7 : Kd.C (Kd.int .u8) w5 A7 md.length md := Kd.C_of_reads (h1 := fun _ => rfl) (m2 w5 (Kd.reads_of_C (h1 := fun _ => rfl) hC6))
    have hpk : vari_Put.f k = some md := by rw [← q4]; rfl
    have HPK := Lib.hid hpk
    have HK := Lib.hid (show ∀ W, Below w5.heap.size w5 W → Below w5.heap.size w5 W ∧ Sem.run Try.prog (convert 22 9 (Value.slice A7 md.length (c2 - a3.toNat))) W = Result.ok (Value.string (strOfNums md)) W from fun W h => ⟨h, Kd.C_string (P := Try.prog) (c := (c2 - a3.toNat)) Try.underlying22 Try.underlying5 Try.underlying9 (Kd.C_below hC7 h)⟩)
    have DR := Lib.hid (show Below w5.heap.size w5 w5.drew from (Below.refl _ w5).drew)
    have e0 : ((strOfNums md).toList == (strOfNums md).toList) = true := by simp
    clear hmid q4 hpk hC7 hC6 m2
    go_wp2_with (fail)
    go_region_held (fun W => Below w5.heap.size w5 W ∧ Sem.run Try.prog (convert 22 9 (Value.slice A7 md.length (c2 - a3.toNat))) W = Result.ok (Value.string (strOfNums md)) W)
      (first | exact HK.out _ DR.out | exact HK.out _ D6)
      (first
        | (go_at_call 17; refine (vari_Put.calls k md _ HPK.out).mono ?_; rintro e w6 ⟨v6, rfl, hR6, hb6⟩; obtain ⟨A6, c6, rfl, hc6, hC8⟩ := Kd.R_reads hR6; have hcv6 := Kd.C_string (P := Try.prog) (c := c6) Try.underlying22 Try.underlying5 Try.underlying9 hC8; have D6 := below_onBk hb6 DR.out))
    all_goals
      go_wp2_with (fail)
      go_ret
      exact ⟨rfl, hB5.trans (D6.mono hB5.size)⟩

set_option maxRecDepth 100000 in
set_option maxHeartbeats 8000000 in
theorem vbBig_calls (a0 : Int) (A1 : Option Addr) (c1 : Nat) (l1 : List Int) (A2 : Option Addr) (c2 : Nat) (l2 : List Int) (a3 : Int) (w : World) (hw0 : (Lit.int .i64 a0).wf = true) (hr1 : Kd.C (Kd.int .u8) w A1 l1.length l1) (hc1 : l1.length ≤ c1) (ho1 : okB l1) (hr2 : Kd.C (Kd.int .u8) w A2 l2.length l2) (hc2 : l2.length ≤ c2) (ho2 : okB l2) (hw3 : (Lit.int .i64 a3).wf = true) (g0 : l1.length ≤ 500) (g1 : l2.length ≤ 500) (hx : 1099511627776 < a0) :
    Calls Try.prog 4 #[.int .i64 a0, .slice A1 l1.length c1, .slice A2 l2.length c2, .int .i64 a3] w fun e w' => e = .returned (.bool true) ∧ Below w.heap.size w w' := by
  have k1 : ¬ ((500 : Int) < (l1.length : Int)) := by omega
  have k2 : ¬ ((500 : Int) < (l2.length : Int)) := by omega
  obtain ⟨i0, hi, hz0, hz1, hz2⟩ := info_parts infoU8
  have hn : ¬ mayN a0 := fun h => by have := h.2; omega
  have hx' : 1099511627776 < a0 := hx
  have hput : vari_Put.f a0 = some [] := by show some (vPut a0) = _; rw [vPut_neg hn]
  have hpo : okB ([] : List Int) := okB_nil
  have HPUT := Lib.hid hput
  clear hput hn
  have hge : 0 ≤ a0 := by omega
  go_enter Try.func4, Try.ntmps4
  go_wp2_with (fail)
  refine (awake_true w).mono ?_
  rintro e w1 ⟨rfl, hb1⟩
  have hB1 : Below w.heap.size w w1 := hb1
  go_wp2_with (fail)
  refine (vari_Put.calls a0 ([] : List Int) w1 HPUT.out).mono ?_
  rintro e w2 ⟨v2, rfl, hR2, hb2⟩
  have hB2 : Below w.heap.size w w2 := hB1.trans (hb2.mono hB1.size)
  obtain ⟨A4, c4, rfl, hc4, hC4⟩ := Kd.R_reads hR2
  have hC1 := Kd.C_below hr1 hB2
  have hC2 := Kd.C_below hr2 hB2
  clear hR2 hr1 hr2 hb2
  go_wp2_with (first
    | (at_builtin; refine Kd.R_append_rows (Kd.int .u8) (Rr := fun x cs => cs = [.int .u8 x]) (w0 := w2) w2.heap.size rfl _ _ 22 5 (.int .u8 0) 1 rfl Try.underlying22 infoU8 rfl (by decide) (by decide) _ (l1 ++ ([] : List Int)) l2 A2 l2.length c2 (fun _ => True) (fun _ => False) rfl rfl hRb (Kd.C_below hC2 hBb) (fun _ _ h => h) (fun _ h => h.elim) (fun _ _ => trivial) hBb hBb.size (by simp; omega) ?_; intro vc w3 hRc hBc _ _)
    | (at_builtin; refine Kd.R_append_rows (Kd.int .u8) (Rr := fun x cs => cs = [.int .u8 x]) (w0 := w2) w2.heap.size rfl _ _ 22 5 (.int .u8 0) 1 rfl Try.underlying22 infoU8 rfl (by decide) (by decide) _ l1 ([] : List Int) A4 ([] : List Int).length c4 (fun _ => True) (fun _ => False) rfl rfl hRa (Kd.C_below hC4 hBa) (fun _ _ h => h) (fun _ h => h.elim) (fun _ _ => trivial) hBa hBa.size (by simp; omega) ?_; intro vb wb hRb hBb _ _)
    | (at_builtin; refine Kd.R_append_rows (Kd.int .u8) (Rr := fun x cs => cs = [.int .u8 x]) (w0 := w2) w2.heap.size rfl _ _ 22 5 (.int .u8 0) 1 rfl Try.underlying22 infoU8 rfl (by decide) (by decide) (.slice none 0 0) [] l1 A1 l1.length c1 (fun _ => True) (fun _ => False) rfl rfl (Kd.R_nil _ _ _ _ _) hC1 (fun _ _ h => h) (fun _ h => h.elim) (fun _ _ => trivial) (Below.refl _ _) (Nat.le_refl _) (by simp; omega) ?_; intro va wa hRa hBa _ _; simp only [List.nil_append] at hRa))
  obtain ⟨A5, c5, rfl, hc5, hC5⟩ := Kd.R_reads hRc
  have hB3 : Below w.heap.size w w3 := hB2.trans (hBc.mono hB2.size)
  have hC6 := Kd.C_below hC2 hBc
  have hoall : okB (l1 ++ ([] : List Int) ++ l2) := okB_append (okB_append ho1 hpo) ho2
  have hlall : (l1 ++ ([] : List Int) ++ l2).length ≤ 2000 := by simp; omega
  clear hRa hRb hRc hBa hBb hBc hC1 hC2 hC4
  have q := get_calls A5 c5 (l1 ++ ([] : List Int) ++ l2) (l1.length : Int) w3 hC5 hc5 hoall (by omega)

  generalize l1 ++ ([] : List Int) ++ l2 = lall at *
  refine q.mono ?_
  clear q hC5
  rintro e w4 ⟨rfl, hb4⟩
  have hB4 : Below w.heap.size w w4 := hB3.trans (hb4.mono hB3.size)
  replace hC6 := Kd.C_below hC6 hb4

  go_wp2_with (fail)
  refine (get_calls A2 c2 l2 a3 w4 hC6 hc2 ho2 (by omega)).mono ?_
  rintro e w5 ⟨rfl, hb5⟩
  have hB5 : Below w.heap.size w w5 := hB4.trans (hb5.mono hB4.size)
  replace hC6 := Kd.C_below hC6 hb5
  clear hb4 hb5
  by_cases hneg : (vGet l2 a3).2 < 0
  · rw [vGet_neg hneg]
    go_wp2_with (fail)
    go_ret
    exact ⟨rfl, hB5⟩
  · obtain ⟨q1, q2, q3, q4⟩ := vGet_pos ho2 hneg
    generalize (vGet l2 a3).2 = t at *
    generalize (vGet l2 a3).1 = k at *
    obtain ⟨A7, m1, m2, m3⟩ := print_mid_of (P := Try.prog) (Value.int .u8) (0 : Int) 22 5 .i64 .i64 Try.underlying22 hi hz1 A2 c2 l2 a3 t q1 (by omega) q3 hc2
    have hml : ((l2.take t.toNat).drop a3.toNat).length ≤ 500 := by simp; omega
    generalize hmid : (l2.take t.toNat).drop a3.toNat = md at *
    have hC7 : Kd.C (Kd.int .u8) w5 A7 md.length md := Kd.C_of_reads (h1 := fun _ => rfl) (m2 w5 (Kd.reads_of_C (h1 := fun _ => rfl) hC6))
    have hpk : vari_Put.f k = some md := by rw [← q4]; rfl
    have HPK := Lib.hid hpk
    have HK := Lib.hid (show ∀ W, Below w5.heap.size w5 W → Below w5.heap.size w5 W ∧ Sem.run Try.prog (convert 22 9 (Value.slice A7 md.length (c2 - a3.toNat))) W = Result.ok (Value.string (strOfNums md)) W from fun W h => ⟨h, Kd.C_string (P := Try.prog) (c := (c2 - a3.toNat)) Try.underlying22 Try.underlying5 Try.underlying9 (Kd.C_below hC7 h)⟩)
    have DR := Lib.hid (show Below w5.heap.size w5 w5.drew from (Below.refl _ w5).drew)
    have e0 : ((strOfNums md).toList == (strOfNums md).toList) = true := by simp
    clear hmid q4 hpk hC7 hC6 m2
    go_wp2_with (fail)
    go_region_held (fun W => Below w5.heap.size w5 W ∧ Sem.run Try.prog (convert 22 9 (Value.slice A7 md.length (c2 - a3.toNat))) W = Result.ok (Value.string (strOfNums md)) W)
      (first | exact HK.out _ DR.out | exact HK.out _ D6)
      (first
        | (go_at_call 17; refine (vari_Put.calls k md _ HPK.out).mono ?_; rintro e w6 ⟨v6, rfl, hR6, hb6⟩; obtain ⟨A6, c6, rfl, hc6, hC8⟩ := Kd.R_reads hR6; have hcv6 := Kd.C_string (P := Try.prog) (c := c6) Try.underlying22 Try.underlying5 Try.underlying9 hC8; have D6 := below_onBk hb6 DR.out))
    all_goals
      go_wp2_with (fail)
      go_ret
      exact ⟨rfl, hB5.trans (D6.mono hB5.size)⟩

set_option maxRecDepth 100000 in
set_option maxHeartbeats 8000000 in
theorem variBack_calls (a0 : Int) (A1 : Option Addr) (c1 : Nat) (l1 : List Int) (A2 : Option Addr) (c2 : Nat) (l2 : List Int) (a3 : Int) (w : World) (hw0 : (Lit.int .i64 a0).wf = true) (hr1 : Kd.C (Kd.int .u8) w A1 l1.length l1) (hc1 : l1.length ≤ c1) (ho1 : okB l1) (hr2 : Kd.C (Kd.int .u8) w A2 l2.length l2) (hc2 : l2.length ≤ c2) (ho2 : okB l2) (hw3 : (Lit.int .i64 a3).wf = true) (g0 : l1.length ≤ 500) (g1 : l2.length ≤ 500) :
    Calls Try.prog 4 #[.int .i64 a0, .slice A1 l1.length c1, .slice A2 l2.length c2, .int .i64 a3] w fun e w' => e = .returned (.bool true) ∧ Below w.heap.size w w' := by
  by_cases h1 : a0 < 0
  · exact vbNeg_calls a0 A1 c1 l1 A2 c2 l2 a3 w hw0 hr1 hc1 ho1 hr2 hc2 ho2 hw3 g0 g1 h1
  · by_cases h2 : 1099511627776 < a0
    · exact vbBig_calls a0 A1 c1 l1 A2 c2 l2 a3 w hw0 hr1 hc1 ho1 hr2 hc2 ho2 hw3 g0 g1 h2
    · exact vbYes_calls a0 A1 c1 l1 A2 c2 l2 a3 w hw0 hr1 hc1 ho1 hr2 hc2 ho2 hw3 g0 g1 ⟨by omega, by omega⟩

theorem variBack_walk (a0 : Int) (a1 : Option Addr) (len1 cap1 : Nat) (z1 : List Int) (a2 : Option Addr) (len2 cap2 : Nat) (z2 : List Int) (a3 : Int) (w : World)
    (w0 : (Lit.int .i64 a0).wf = true)
    (w1 : (a1 = none ∧ len1 = 0 ∧ cap1 = 0 ∧ z1 = []) ∨ ∃ x, a1 = some x ∧ len1 ≤ cap1 ∧ cap1 ≤ maxLen ∧ z1.length = cap1 ∧ (∀ i, i < z1.length → w.cell? (x.add i) = some (.int .u8 (z1.getD i 0))) ∧ ∀ n ∈ z1, (Lit.int .u8 n).wf = true) (y1 : len1 * 1 ≤ 140737488351232)
    (w2 : (a2 = none ∧ len2 = 0 ∧ cap2 = 0 ∧ z2 = []) ∨ ∃ x, a2 = some x ∧ len2 ≤ cap2 ∧ cap2 ≤ maxLen ∧ z2.length = cap2 ∧ (∀ i, i < z2.length → w.cell? (x.add i) = some (.int .u8 (z2.getD i 0))) ∧ ∀ n ∈ z2, (Lit.int .u8 n).wf = true) (y2 : len2 * 1 ≤ 140737488351232)
    (w3 : (Lit.int .i64 a3).wf = true) :
    Calls Try.prog 4 #[.int .i64 a0, .slice a1 len1 cap1, .slice a2 len2 cap2, .int .i64 a3] w fun e w' => e = .returned (.bool true) ∧ Below w.heap.size w w' := by
  obtain ⟨l1, rfl, hr1, hm1, hw1, hc1⟩ := ReadsInt.ofRowC w1
  have hR1 : Kd.C (Kd.int .u8) w a1 l1.length l1 := Kd.C_of_reads (d := (0 : Int)) (h1 := fun _ => rfl) hr1
  clear w1 hr1
  unfold maxLen at hm1
  obtain ⟨l2, rfl, hr2, hm2, hw2, hc2⟩ := ReadsInt.ofRowC w2
  have hR2 : Kd.C (Kd.int .u8) w a2 l2.length l2 := Kd.C_of_reads (d := (0 : Int)) (h1 := fun _ => rfl) hr2
  clear w2 hr2
  unfold maxLen at hm2
  by_cases g0 : l1.length ≤ 500
  · skip
    by_cases g1 : l2.length ≤ 500
    · skip
      exact variBack_calls a0 a1 cap1 l1 a2 cap2 l2 a3 w w0 hR1 hc1 (okB_wf hw1) hR2 hc2 (okB_wf hw2) w3 g0 g1
    · have k1 : ¬ ((500 : Int) < (l1.length : Int)) := by omega
      have k2 : (500 : Int) < (l2.length : Int) := by omega
      go_enter Try.func4, Try.ntmps4
      go_wp2_with (fail)
      refine (awake_true w).mono ?_
      rintro e w1 ⟨rfl, hb1⟩
      go_wp2_with (fail)
      go_ret
      exact ⟨rfl, hb1⟩
  · have k1 : (500 : Int) < (l1.length : Int) := by omega
    go_enter Try.func4, Try.ntmps4
    go_wp2_with (fail)
    refine (awake_true w).mono ?_
    rintro e w1 ⟨rfl, hb1⟩
    go_wp2_with (fail)
    go_ret
    exact ⟨rfl, hb1⟩

end Go.Proofs.Ytngohjjepjpdlaa.H
