import Derived.Test.YtiallcoopdlneaaLx4
import Derived.Test.YtiallcoopdlneaaPureawake
namespace Go.Proofs.Ytiallcoopdlneaa.Pure
open Go.RowKit Go.Proofs.Ytiallcoopdlneaa.L Go.Proofs.Ytiallcoopdlneaa.H Moor Go.Proofs.YtiallcoopdlneaaW.PrintWords Go.Proofs.YtiallcoopdlneaaW.PrintLast
set_option linter.unusedVariables false
set_option linter.unusedSimpArgs false

theorem put_one {n : Int} (h : n < 128) : (put n).length = 1 := by
  unfold put putF
  rw [if_pos h]
  rfl
theorem zig_small {d : Int} (h0 : -64 ≤ d) (h1 : d ≤ 63) : zig d < 128 := by unfold zig; split <;> omega
/-- The bytes of differences that are near are as many. -/
theorem near_one : ∀ (z : List Int), (∀ x ∈ z, x < 128) → (z.flatMap put).length = z.length
  | [], _ => rfl
  | x :: t, h => by
    rw [List.flatMap_cons, List.length_append, put_one (h x (by simp)), near_one t (fun y hy => h y (by simp [hy]))]
    simp
    omega
theorem diffs_append : ∀ (p : Int) (a b : List Int), ∃ q, diffs p (a ++ b) = diffs p a ++ diffs q b
  | p, [], b => ⟨p, rfl⟩
  | p, x :: t, b => by
    obtain ⟨q, h⟩ := diffs_append x t b
    exact ⟨q, by simp [diffs, h]⟩

/-- The list made so far: its last number, its bounds, its differences. -/
def Close (l : List Int) (last : Int) : Prop := (∀ y ∈ l, zin y) ∧ (∀ x ∈ diffs 0 l, x < 128) ∧ (if l = [] then (0 : Int) else l[l.length - 1]?.getD 0) = last ∧ 0 ≤ last ∧ last ≤ 63 * l.length

theorem close_l0 : ∀ (m : Nat) (l0 : List Int) (l : List Int) (last : Int), (∀ x ∈ l0, (Lit.int .i64 x).wf = true) → l0.length ≤ 300 → l.length ≤ l0.length → l0.length - l.length < m → Close l last →
    mooringslaw02_ZigClose.l0 m l0 l last (l.length : Int) = some true := by
  intro m
  induction m with
  | zero => intro l0 l last _ _ _ h; omega
  | succ m ih =>
    intro l0 l last hw hl hle hm hc
    simp only [mooringslaw02_ZigClose.l0]
    by_cases h : (l.length : Int) < (l0.length : Int)
    · rw [if_pos h, if_pos (show (0 : Int) ≤ (l.length : Int) by omega)]
      have hk : l.length < l0.length := by omega
      generalize hd : rd l0 (l.length : Int) = d
      obtain ⟨c1, c2, c3, c4, c5⟩ := hc
      by_cases g1 : d < -64
      · rw [if_pos g1]
      · rw [if_neg g1]
        by_cases g2 : d > 63
        · rw [if_pos g2]
        · rw [if_neg g2, wrap64_id (n := last + d) (by omega) (by omega), wrap64_id (n := (l.length : Int) + 1) (by omega) (by omega)]
          by_cases g3 : last + d < 0
          · rw [if_pos g3]
          · rw [if_neg g3, if_pos (show l.length < 17592186044416 by omega)]
            have e : ((l ++ [last + d]).length : Int) = (l.length : Int) + 1 := by simp
            rw [← e]
            refine ih l0 (l ++ [last + d]) (last + d) hw hl (by simp; omega) (by simp; omega) ⟨?_, ?_, ?_, by omega, by simp; omega⟩
            · intro y hy
              rcases List.mem_append.1 hy with hy | hy
              · exact c1 y hy
              · obtain rfl : y = last + d := by simpa using hy
                exact ⟨by omega, by omega⟩
            · rw [diffs_snoc, c3]
              intro x hx
              rcases List.mem_append.1 hx with hx | hx
              · exact c2 x hx
              · obtain rfl : x = zig (last + d - last) := by simpa using hx
                exact zig_small (by omega) (by omega)
            · simp
    · rw [if_neg h]
      obtain ⟨c1, c2, c3, c4, c5⟩ := hc
      simp only [zig_Steps.f]
      rw [if_pos (show l.length ≤ 17592186044416 by omega), vSteps_pos ⟨by omega, c1⟩]
      simp only [Option.bind_some, if_true]
      rw [near_one _ c2, diffs_length]
      simp
theorem ZigClose : mooringslaw02_ZigClose.Pure := by
  intro l0 h0 h1 h2
  by_cases a : (l0.length : Int) > 300
  · refine ⟨1, ?_⟩
    unfold mooringslaw02_ZigClose.f
    rw [awake_some]
    simp only [Option.bind_some, if_true, mooringslaw02_ZigClose.j0]
    rw [decide_eq_true a, if_pos rfl]
  · refine ⟨l0.length + 2, ?_⟩
    unfold mooringslaw02_ZigClose.f
    rw [awake_some]
    simp only [Option.bind_some, if_true, mooringslaw02_ZigClose.j0]
    rw [decide_eq_false a, if_neg (by decide)]
    exact close_l0 (l0.length + 1) l0 [] 0 h2 (by omega) (by simp) (by simp) ⟨by simp, by simp [diffs], by simp, by omega, by simp⟩

end Go.Proofs.Ytiallcoopdlneaa.Pure
