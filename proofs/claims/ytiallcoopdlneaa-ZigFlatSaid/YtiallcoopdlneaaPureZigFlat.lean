import Derived.Test.YtiallcoopdlneaaLx6
import Derived.Test.YtiallcoopdlneaaPureawake
namespace Go.Proofs.Ytiallcoopdlneaa.Pure
open Go.RowKit Go.Proofs.Ytiallcoopdlneaa.L Go.Proofs.Ytiallcoopdlneaa.H Moor Go.Proofs.YtiallcoopdlneaaW.PrintWords Go.Proofs.YtiallcoopdlneaaW.PrintLast
set_option linter.unusedVariables false
set_option linter.unusedSimpArgs false

theorem replicate_snoc (x : Int) (k : Nat) : List.replicate k x ++ [x] = List.replicate (k + 1) x := by rw [List.replicate_succ']
theorem zig_self (n : Int) : zig (n - n) = 0 := by unfold zig; rw [if_neg (by omega)]; omega
theorem diffs_flat (n : Int) : ∀ k : Nat, diffs n (List.replicate k n) = List.replicate k 0
  | 0 => rfl
  | k + 1 => by
    rw [List.replicate_succ]
    simp only [diffs, zig_self, diffs_flat n k]
    rw [← List.replicate_succ]
theorem flat_noughts : ∀ k : Nat, (List.replicate k (0 : Int)).flatMap put = List.replicate k 0
  | 0 => rfl
  | k + 1 => by
    rw [List.replicate_succ, List.flatMap_cons, flat_noughts k]
    rfl
/-- The bytes of a number, as often as ever. -/
theorem flat_steps (n : Int) (k : Nat) (hn : zin n) (hk : k + 1 ≤ 300) : vSteps (List.replicate (k + 1) n) = (put (zig n) ++ List.replicate k 0, true) := by
  rw [vSteps_pos ⟨by simp; omega, fun x hx => by rw [List.eq_of_mem_replicate hx]; exact hn⟩]
  rw [List.replicate_succ]
  simp only [diffs, diffs_flat, List.flatMap_cons, flat_noughts, Int.sub_zero]
theorem flat_l1 (p : List Int) (j : Nat) : ∀ (m i : Nat), i ≤ j → j - i < m → p.length + j ≤ 9000 →
    mooringslaw02_ZigFlat.l1 m (p ++ List.replicate j 0) ((p.length + i : Nat) : Int) = some true := by
  intro m
  induction m with
  | zero => intro i _ h; omega
  | succ m ih =>
    intro i hi hm hl
    simp only [mooringslaw02_ZigFlat.l1]
    by_cases h : ((p.length + i : Nat) : Int) < ((p ++ List.replicate j (0 : Int)).length : Int)
    · have hij : i < j := by simp at h; omega
      rw [if_pos h, if_pos (by omega)]
      have e : rd (p ++ List.replicate j (0 : Int)) ((p.length + i : Nat) : Int) = 0 := by
        rw [rd_nat _ _ (by simp; omega)]
        rw [List.getElem_append_right (by omega)]
        simp
      rw [if_pos e, wrap64_id (n := ((p.length + i : Nat) : Int) + 1) (by omega) (by omega)]
      have := ih (i + 1) (by omega) (by omega) hl
      rw [show ((p.length + (i + 1) : Nat) : Int) = ((p.length + i : Nat) : Int) + 1 by omega] at this
      exact this
    · rw [if_neg h]
theorem flat_l0 (n x1 : Int) (x2 : List Int) (R : Nat) (h2 : x1 ≤ 300) : ∀ (m i : Nat), (i : Int) ≤ x1 → x1 - i < m →
    mooringslaw02_ZigFlat.l0 (m + R) n x1 x2 (List.replicate i n) (i : Int) = mooringslaw02_ZigFlat.l0 (m + R - (x1 - i).toNat) n x1 x2 (List.replicate x1.toNat n) x1 := by
  intro m
  induction m with
  | zero => intro i h h'; omega
  | succ m ih =>
    intro i hi hm
    by_cases h : (i : Int) < x1
    · rw [show m + 1 + R = (m + R) + 1 by omega]
      simp only [mooringslaw02_ZigFlat.l0]
      rw [if_pos h, if_pos (show (List.replicate i n).length < 17592186044416 by simp; omega), wrap64_id (n := (i : Int) + 1) (by omega) (by omega), replicate_snoc]
      have := ih (i + 1) (by omega) (by omega)
      rw [show ((i + 1 : Nat) : Int) = (i : Int) + 1 by omega] at this
      rw [this]
      congr 1
      omega
    · obtain rfl : (i : Int) = x1 := by omega
      congr 1
      omega
theorem ZigFlat : mooringslaw02_ZigFlat.Pure := by
  intro a0 a1 l2 h0 h1 h2 h3 h4
  by_cases g : 0 ≤ a0 ∧ a0 < 274877906944 ∧ 1 ≤ a1 ∧ a1 ≤ 300 ∧ l2.length ≤ 300
  · obtain ⟨g1, g2, g3, g4, g5⟩ := g
    obtain ⟨R, hR⟩ : ∃ R : Nat, R = 399 := ⟨_, rfl⟩
    refine ⟨(a1.toNat + 1 + (R + 1)) + 1, ?_⟩
    unfold mooringslaw02_ZigFlat.f
    rw [awake_some]
    simp only [Option.bind_some, if_true, mooringslaw02_ZigFlat.j0]
    rw [if_neg (show ¬ a0 < 0 by omega), if_neg (show ¬ a0 ≥ 274877906944 by omega), if_neg (show ¬ a1 < 1 by omega), if_neg (show ¬ a1 > 300 by omega), decide_eq_false (show ¬ (l2.length : Int) > 300 by omega), if_neg (by decide)]
    have H := flat_l0 a0 a1 l2 (R + 1) g4 (a1.toNat + 1) 0 (by omega) (by omega)
    rw [show List.replicate 0 a0 = [] from rfl, show ((0 : Nat) : Int) = 0 from rfl] at H
    rw [H, show a1.toNat + 1 + (R + 1) - (a1 - 0).toNat = R + 1 + 1 by omega]
    simp only [mooringslaw02_ZigFlat.l0]
    rw [if_neg (show ¬ a1 < a1 by omega)]
    obtain ⟨k, hk⟩ : ∃ k, a1.toNat = k + 1 := ⟨a1.toNat - 1, by omega⟩
    rw [hk]
    have hz : zin a0 := ⟨g1, g2⟩
    have F := flat_steps a0 k hz (by omega)
    have F1 := flat_steps a0 0 hz (by omega)
    have p6 := put_le (zig a0)
    simp only [zig_Steps.f, mooringsref01_Ints.f]
    rw [if_pos (show (List.replicate (k + 1) a0).length ≤ 17592186044416 by simp; omega), if_pos (show ([a0] : List Int).length ≤ 17592186044416 by simp), if_pos (show l2.length ≤ 17592186044416 by omega), if_pos (show (List.replicate (k + 1) a0).length ≤ 140737488355328 by simp; omega)]
    simp only [Option.bind_some]
    rw [F, show ([a0] : List Int) = List.replicate (0 + 1) a0 from rfl, F1]
    simp only [if_true, List.replicate_zero, List.append_nil]
    rw [wrap64_id (n := ((put (zig a0)).length : Int) + a1) (by omega) (by omega), wrap64_id (n := ((put (zig a0)).length : Int) + a1 - 1) (by omega) (by omega)]
    have hlen : ((put (zig a0) ++ List.replicate k (0 : Int)).length : Int) = ((put (zig a0)).length : Int) + a1 - 1 := by simp; omega
    rw [if_pos hlen]
    have J : mooringslaw02_ZigFlat.j2 (R + 1) (put (zig a0) ++ List.replicate k 0) (put (zig a0)) false = some true := by
      simp only [mooringslaw02_ZigFlat.j2]
      rw [if_neg (by decide)]
      exact flat_l1 (put (zig a0)) k R 0 (by omega) (by omega) (by omega)
    by_cases q : l2.length ≤ 400 ∧ ∀ x ∈ l2, zin x
    · rw [vSteps_pos q]
      simp only [if_true]
      have hq : ∀ x ∈ List.replicate (k + 1) a0, zin x := fun x hx => by rw [List.eq_of_mem_replicate hx]; exact hz
      have F' := vSteps_pos (l := List.replicate (k + 1) a0) ⟨by simp; omega, hq⟩
      rw [F] at F'
      have F'' := congrArg Prod.fst F'
      simp only at F''
      rw [F'', str_eq (okB_flat (diffs_mayN hq)) (okB_flat (diffs_mayN q.2)), ← F'']
      have e : decide ((diffs 0 (List.replicate (k + 1) a0)).flatMap put = (diffs 0 l2).flatMap put) = decide (List.replicate (k + 1) a0 = l2) := by
        refine decide_eq_decide.2 ⟨fun h => ?_, fun h => by rw [h]⟩
        have := flat_inj (diffs_mayN hq) (diffs_mayN q.2) h
        have s1 := sums_diffs 0 _ zin0 hq
        have s2 := sums_diffs 0 _ zin0 q.2
        rw [this, s2] at s1
        exact (Option.some.inj s1).symm
      rw [F'', e, bne_self_eq_false, ← F'']
      exact J
    · rw [vSteps_neg q]
      exact J
  · refine ⟨1, ?_⟩
    unfold mooringslaw02_ZigFlat.f
    rw [awake_some]
    simp only [Option.bind_some, if_true, mooringslaw02_ZigFlat.j0]
    by_cases a : a0 < 0
    · rw [if_pos a]
    · rw [if_neg a]
      by_cases b : a0 ≥ 274877906944
      · rw [if_pos b]
      · rw [if_neg b]
        by_cases c : a1 < 1
        · rw [if_pos c]
        · rw [if_neg c]
          by_cases d : a1 > 300
          · rw [if_pos d]
          · rw [if_neg d, decide_eq_true (show (l2.length : Int) > 300 by omega), if_pos rfl]

end Go.Proofs.Ytiallcoopdlneaa.Pure
