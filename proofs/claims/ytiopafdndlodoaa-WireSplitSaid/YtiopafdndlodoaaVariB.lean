import Derived.Test.YtiopafdndlodoaaVariB0
/-! The printed functions of layer 1 answer as the plain ones: put, all. -/
namespace Go.Proofs.Ytiopafdndlodoaa.H
open Go.RowKit Moor Go.Proofs.YtiopafdndlodoaaW.PrintWords Go.Proofs.YtiopafdndlodoaaW.PrintLast Go.Proofs.YtiopafdndlodoaaW.PrintMore
set_option linter.unusedVariables false
set_option linter.unusedSimpArgs false

set_option maxRecDepth 20000 in
/-- .. all, from the i-th on. -/
theorem all_loop (l : List Int) (hl : l.length ≤ 400) (d : Nat) : ∀ (k i : Nat) (out : List Int), i + d = l.length → d + 10 < k → out.length ≤ 6 * i →
    B.vari_All.l0 k out l (l.length : Int) (i : Int) = some (if ∀ x ∈ l.drop i, mayN x then (out ++ (l.drop i).flatMap put, true) else ([], false)) := by
  induction d with
  | zero =>
    intro k i out hd hk ho
    obtain ⟨k, rfl⟩ : ∃ m, k = m + 1 := ⟨k - 1, by omega⟩
    have : l.drop i = [] := List.drop_eq_nil_iff.2 (by omega)
    simp only [B.vari_All.l0]
    rw [if_neg (show ¬ (i : Int) < l.length by omega), this]
    simp
  | succ d ih =>
    intro k i out hd hk ho
    obtain ⟨k, rfl⟩ : ∃ m, k = m + 1 := ⟨k - 1, by omega⟩
    have hlt : i < l.length := by omega
    have hdrop : l.drop i = l[i] :: l.drop (i + 1) := List.drop_eq_getElem_cons hlt
    have hi6 : i ≤ 4611686018427387904 := by omega
    simp only [B.vari_All.l0]
    rw [if_pos (show (i : Int) < l.length by omega), if_pos (show (0 : Int) ≤ i by omega), if_pos (show (i : Int) < l.length by omega), rd_nat l i hlt, vmay_tells, hdrop]
    simp only [Option.bind_some]
    by_cases h : mayN l[i]
    · have hp := put_le l[i]
      rw [decide_eq_true h, if_pos rfl, vput_tells out l[i] h (by omega) k (by omega)]
      simp only [Option.bind_some]
      rw [wrap64_nat i hi6, ih k (i + 1) (out ++ put l[i]) (by omega) (by omega) (by simp; omega)]
      simp only [List.forall_mem_cons, List.flatMap_cons, List.append_assoc, h, true_and]
    · rw [decide_eq_false h]
      simp only [List.forall_mem_cons, h, false_and, if_false]
      rfl
theorem vAll_tells (l : List Int) (k : Nat) (hk : 420 ≤ k) : B.vari_All.f k l = some (vAll l) := by
  unfold B.vari_All.f vAll
  by_cases h : l.length ≤ 400
  · rw [if_neg (show ¬ (l.length : Int) > 400 by omega)]
    have := all_loop l h l.length k 0 [] (by omega) (by omega) (by simp)
    simp only [Int.natCast_zero, List.drop_zero, List.nil_append] at this
    rw [this]
    simp [h]
  · rw [if_pos (show (l.length : Int) > 400 by omega)]
    simp [h]

end Go.Proofs.Ytiopafdndlodoaa.H
