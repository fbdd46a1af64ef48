import Derived.Test.YtiopafdndlodoaaCrcR0
import Derived.Test.YtiopafdndlodoaaStr
import Derived.Deep.RegionHeld
/-! The reference's Open, walked. -/
namespace Go.Proofs.Ytiopafdndlodoaa.H
open Go.RowKit Moor Go.Proofs.YtiopafdndlodoaaW.PrintWords Go.Proofs.YtiopafdndlodoaaW.PrintLast Go.Proofs.YtiopafdndlodoaaW.PrintMore
set_option linter.unusedVariables false
set_option linter.unusedSimpArgs false

set_option maxRecDepth 100000 in
set_option maxHeartbeats 8000000 in
theorem refOpen_calls (A : Option Addr) (c : Nat) (l : List Int) (w : World) (hR : Kd.C (Kd.int .u8) w A l.length l) (hc : l.length ≤ c) (ho : okB l) (hl : l.length ≤ 140737488355323) :
    Calls Try.prog 44 #[.slice A l.length c] w fun e w' => ∃ v : Value, e = .returned (.tuple #[v, .bool (cOpen l).2]) ∧ Kd.R (Kd.int .u8) 5 w' w.heap.size (fun _ => True) v (cOpen l).1 ∧ Below w.heap.size w w' := by
  by_cases h4 : 4 ≤ l.length
  · have hn : ¬ ((l.length : Int) - 4 < 0) := by omega
    have hn0 : 0 ≤ (l.length : Int) - 4 := by omega
    have hn1 : (l.length : Int) - 4 ≤ l.length := by omega
    have he : ((l.length : Int) - 4).toNat = l.length - 4 := by omega
    obtain ⟨ht1, ht2, ht3⟩ := takeB A c l ((l.length : Int) - 4) hn0 hn1 hc
    rw [he] at ht1 ht2 ht3
    have hop : cOpen l = if cSeal (l.take (l.length - 4)) = l then (l.take (l.length - 4), true) else ([], false) := by
      unfold cOpen cSeal
      by_cases g : l.drop (l.length - 4) = fourB (cSumV (l.take (l.length - 4)))
      · rw [if_pos ⟨h4, g⟩, if_pos (by rw [← g]; exact List.take_append_drop _ _)]
      · rw [if_neg (fun q => g q.2), if_neg]
        intro q
        apply g
        have e := okSplit h4
        rw [← q] at e
        have hlx : (l.take (l.length - 4) ++ fourB (cSumV (l.take (l.length - 4)))).length = l.length := by rw [q]
        rw [hlx, q] at e
        have := (List.append_inj (q.trans (okSplit h4)) rfl).2
        exact this.symm
    have hot := okB_take ho (l.length - 4)
    have htl : (l.take (l.length - 4)).length ≤ 140737488355323 := by simp; omega
    generalize l.take (l.length - 4) = x at *
    have hse := refSeal_tells x hot htl _ (Nat.le_refl _)
    have hos : okB (cSeal x) := cSeal_ok hot
    generalize cSeal x = y at *
    have hs : ((strOfNums y).toList == (strOfNums l).toList) = decide (y = l) := str_eq hos ho
    obtain ⟨b, hbq⟩ : ∃ b, decide (y = l) = b := ⟨_, rfl⟩
    rw [hbq] at hs
    have hnd : decide ((l.length : Int) - 4 < 0) = false := decide_eq_false hn
    have HO := Lib.hid hop
    have HR := Lib.hid hR
    have HT2 := Lib.hid ht2
    have HS := Lib.hid hs
    have HE := Lib.hid hse
    have HBQ := Lib.hid hbq
    have hk : ∀ W, Below w.heap.size w W → Below w.heap.size w W ∧ Sem.run Try.prog (convert 29 9 (Value.slice A l.length c)) W = Result.ok (Value.string (strOfNums l)) W := fun W h =>
      ⟨h, Kd.C_string (P := Try.prog) (c := c) Try.underlying29 Try.underlying5 Try.underlying9 (Kd.C_below hR h)⟩
    have HK := Lib.hid hk
    have DR := Lib.hid (show Below w.heap.size w w.drew from (Below.refl _ w).drew)
    clear hop hR ht2 he hs hse hbq hk hn
    go_enter Try.func44, Try.ntmps44
    go_wp2_with (fail)
    go_region_held (fun W => Below w.heap.size w W ∧ Sem.run Try.prog (convert 29 9 (Value.slice A l.length c)) W = Result.ok (Value.string (strOfNums l)) W)
      (first | exact HK.out _ DR.out | exact HK.out _ (DR.out.trans (hb1.mono (by simp))))
      (first
        | (go_at_call 40; refine (B.mooringsref04_Seal.calls _ A c x y _ (HT2.out _ (Kd.C_drew HR.out)) ht3 HE.out).mono ?_; rintro e w1 ⟨v1, rfl, hR1, hb1⟩; obtain ⟨A1, c1, rfl, hc1, hC1⟩ := Kd.R_reads hR1; have hcv1 := Kd.C_string (P := Try.prog) (c := c1) Try.underlying29 Try.underlying5 Try.underlying9 hC1))
    all_goals
      rw [HS.out]
      have hB3 : Below w.heap.size w w1 := DR.out.trans (hb1.mono (by simp))
      clear hR1 hC1 hb1 hcv1
      cases b with
      | false =>
        have hv : cOpen l = ([], false) := by
          rw [HO.out, if_neg (of_decide_eq_false HBQ.out)]
        have HV := Lib.hid hv
        clear hv
        go_wp2_with (fail)
        refine bodyPost_ret (results_tmp2 (fn := Try.f44) (t := 2) (u := 3) rfl _ _ _) rfl ?_
        exact ⟨.slice none 0 0, by rw [HV.out]; rfl, by rw [HV.out]; exact Kd.R_nil _ _ _ _ _, hB3⟩
      | true =>
        have hv : cOpen l = (x, true) := by
          rw [HO.out, if_pos (of_decide_eq_true HBQ.out)]
        have HV := Lib.hid hv
        clear hv
        go_wp2_with (at_builtin; refine Kd.R_append_rows (Kd.int .u8) (Rr := fun x cs => cs = [.int .u8 x]) (w0 := w) w.heap.size rfl _ _ 29 5 (.int .u8 0) 1 rfl Try.underlying29 infoU8 rfl (by decide) (by decide) (.slice none 0 0) [] x A x.length c (fun _ => True) (fun _ => False) rfl rfl (Kd.R_nil _ _ _ _ _) (HT2.out _ (Kd.C_below HR.out hB3)) (fun _ _ h => h) (fun _ h => h.elim) (fun _ _ => trivial) hB3 hB3.size (by simp; omega) ?_; intro v2 w2 hR2 hB2 hG2 _)
        refine bodyPost_ret (results_tmp2 (fn := Try.f44) (t := 2) (u := 3) rfl _ _ _) rfl ?_
        exact ⟨v2, by rw [HV.out]; rfl, by rw [HV.out]; simpa using hR2, hB2⟩
  · have hn : (l.length : Int) - 4 < 0 := by omega
    have hnd : decide ((l.length : Int) - 4 < 0) = true := decide_eq_true hn
    have hv : cOpen l = ([], false) := by unfold cOpen; rw [if_neg (fun q => h4 q.1)]
    have HV := Lib.hid hv
    clear hv
    go_enter Try.func44, Try.ntmps44
    go_wp2_with (fail)
    go_quiet (fail)
    all_goals
      go_wp2_with (fail)
      refine bodyPost_ret (results_tmp2 (fn := Try.f44) (t := 2) (u := 3) rfl _ _ _) rfl ?_
      exact ⟨.slice none 0 0, by rw [HV.out]; rfl, by rw [HV.out]; exact Kd.R_nil _ _ _ _ _, pw_below_drewN (Below.refl _ _) _⟩
end Go.Proofs.Ytiopafdndlodoaa.H
