import Derived.Test.YtngohjjepjpdlaaLx3
import Derived.Test.YtngohjjepjpdlaaStr
namespace Go.Proofs.Ytngohjjepjpdlaa.Pure
open Go.RowKit Go.Proofs.Ytngohjjepjpdlaa.L Go.Proofs.Ytngohjjepjpdlaa.H Moor Go.Proofs.YtngohjjepjpdlaaW.PrintWords Go.Proofs.YtngohjjepjpdlaaW.PrintLast

theorem all_j1 (l2 : List Int) (o2 : okB l2) (n2 : l2.length ≤ 500) : mooringslaw01_VariAll.j1 1 l2 false = some true := by
  simp only [mooringslaw01_VariAll.j1, vari_Read.f, vari_All.f]
  rw [if_neg (by decide), if_pos ⟨o2, by omega⟩]
  simp only [Option.bind_some]
  by_cases h : ∃ m, Moor.read l2 = some m ∧ m.length ≤ 400
  · obtain ⟨m, hr, hm⟩ := h
    obtain ⟨h1, h2, _, _⟩ := read_back o2 hr
    simp only [vRead_pos hr hm, vAll_pos ⟨hm, h1⟩, h2, if_true]
    simp
  · simp only [vRead_neg (fun m h1 h2 => h ⟨m, h1, h2⟩)]
    simp

theorem VariAll : mooringslaw01_VariAll.Pure := by
  intro l0 l1 l2 m0 h0 w0 m1 h1 w1 m2 h2 w2
  refine ⟨2, ?_⟩
  unfold mooringslaw01_VariAll.f
  simp only [mooringslaw01_awake.f, Option.bind_some, if_true]
  by_cases a : (l0.length : Int) > 200
  · rw [if_pos a]
    simp [mooringslaw01_VariAll.j0]
  · rw [if_neg a]
    by_cases b : (l1.length : Int) > 200
    · rw [if_pos b]
      simp [mooringslaw01_VariAll.j0]
    · rw [if_neg b]
      by_cases c : (l2.length : Int) > 500
      · rw [decide_eq_true c]
        simp [mooringslaw01_VariAll.j0]
      · rw [decide_eq_false c]
        have J := all_j1 l2 (okB_wf w2) (by omega)
        have hA := vAll_ok l0
        have hB := vAll_ok l1
        have hR := vRead_le (vAll l0).1
        simp only [mooringslaw01_VariAll.j0, vari_All.f, vari_Read.f, mooringsref01_Ints.f, Option.bind_some]
        rw [if_neg (by decide), if_pos ⟨hA.1, by omega⟩]
        simp only [Option.bind_some, List.length_nil, Nat.zero_add, List.nil_append]
        rw [if_pos (by omega), if_pos (by omega), if_pos (by omega)]
        simp only [Option.bind_some]
        by_cases p : l0.length ≤ 400 ∧ ∀ x ∈ l0, mayN x
        · simp only [vAll_pos p, vRead_pos (read_all p.2) p.1, if_true, decide_true]
          by_cases q : l1.length ≤ 400 ∧ ∀ x ∈ l1, mayN x
          · have e2 : vAll (l0 ++ l1) = (l0.flatMap put ++ l1.flatMap put, true) := by
              rw [vAll_pos ⟨by simp; omega, fun x hx => (List.mem_append.1 hx).elim (p.2 x) (q.2 x)⟩]
              simp
            rw [vAll_pos p] at hA
            rw [vAll_pos q] at hB
            have hA' : (l0.flatMap put).length ≤ 2400 := hA.2
            have hB' : (l1.flatMap put).length ≤ 2400 := hB.2
            simp only [vAll_pos q, e2, str_append, str_size, bne_self_eq_false, if_true]
            rw [if_neg (by decide), if_pos (by omega)]
            exact J
          · have e2 : vAll (l0 ++ l1) = ([], false) := vAll_neg (fun g => q ⟨by omega, fun x hx => g.2 x (by simp [hx])⟩)
            simp only [vAll_neg q, e2, bne_self_eq_false]
            rw [if_neg (by decide), if_neg (by decide)]
            exact J
        · have e2 : vAll (l0 ++ l1) = ([], false) := vAll_neg (fun g => p ⟨by omega, fun x hx => g.2 x (by simp [hx])⟩)
          simp only [vAll_neg p, e2, bne_self_eq_false]
          rw [if_neg (by decide), if_neg (by decide), if_neg (by decide)]
          exact J

end Go.Proofs.Ytngohjjepjpdlaa.Pure
