import Derived.Test.YtiopafdndlodoaaRecG
/-! Layer 5: contracts in the plain words. -/
namespace Go.Proofs.Ytiopafdndlodoaa.H
open Go.RowKit Moor Go.Proofs.YtiopafdndlodoaaW.PrintWords Go.Proofs.YtiopafdndlodoaaW.PrintLast Go.Proofs.YtiopafdndlodoaaW.PrintMore
set_option linter.unusedVariables false
set_option linter.unusedSimpArgs false

set_option maxRecDepth 100000 in
set_option maxHeartbeats 4000000 in
theorem recPut_no (kind : Int) (A : Option Addr) (c : Nat) (l : List Int) (w : World) (hm : ¬ recMay ⟨kind, l⟩) :
    Calls Try.prog 38 #[.agg #[.int .i64 kind, .slice A l.length c]] w fun e w' => e = .returned (.tuple #[.slice none 0 0, .bool false]) ∧ Below w.heap.size w w' := by
  by_cases n0 : kind < 0
  · clear hm
    go_enter Try.func38, Try.ntmps38
    go_wp2_with (fail)
    refine bodyPost_ret (results_tmp2 (fn := Try.f38) (t := 2) (u := 3) rfl _ _ _) rfl ?_
    exact ⟨rfl, below_alloc (Below.refl _ _) _⟩
  · by_cases n1 : 255 < kind
    · clear hm
      go_enter Try.func38, Try.ntmps38
      go_wp2_with (fail)
      refine bodyPost_ret (results_tmp2 (fn := Try.f38) (t := 2) (u := 3) rfl _ _ _) rfl ?_
      exact ⟨rfl, below_alloc (Below.refl _ _) _⟩
    · have n2 : (1000 : Int) < (l.length : Int) := by
        have : ¬ (0 ≤ kind ∧ kind ≤ 255 ∧ l.length ≤ 1000) := hm
        omega
      clear hm
      go_enter Try.func38, Try.ntmps38
      go_wp2_with (fail)
      refine bodyPost_ret (results_tmp2 (fn := Try.f38) (t := 2) (u := 3) rfl _ _ _) rfl ?_
      exact ⟨rfl, below_alloc (Below.refl _ _) _⟩
/-- A slice of bytes and a word whether it is one. -/
def PutEnd (r : List Int × Bool) (w : World) (e : Ending) (w' : World) : Prop := ∃ (A' : Option Addr) (c' : Nat), e = .returned (.tuple #[.slice A' r.1.length c', .bool r.2]) ∧ r.1.length ≤ c' ∧ Kd.C (Kd.int .u8) w' A' r.1.length r.1 ∧ Below w.heap.size w w'
theorem rput_calls (r : Rc) (A : Option Addr) (c : Nat) (w : World) (hR : Kd.C (Kd.int .u8) w A r.body.length r.body) (hc : r.body.length ≤ c) (ho : okB r.body) :
    Calls Try.prog 38 #[.agg #[.int .i64 r.kind, .slice A r.body.length c]] w (PutEnd (rPut r) w) := by
  by_cases hm : recMay r
  · rw [rPut_pos hm]
    refine (recPut_calls r.kind A c r.body w hR hc ho hm).mono ?_
    rintro e w' ⟨v, rfl, hR', hB⟩
    obtain ⟨A', c', rfl, hc', hC'⟩ := Kd.R_reads hR'
    exact ⟨A', c', rfl, hc', hC', hB⟩
  · rw [rPut_neg hm]
    refine (recPut_no r.kind A c r.body w hm).mono ?_
    rintro e w' ⟨rfl, hB⟩
    exact ⟨none, 0, rfl, Nat.le_refl _, Kd.C_nil _ _, hB⟩
theorem rPut_ok {r : Rc} (ho : okB r.body) : okB (rPut r).1 := by
  by_cases hm : recMay r
  · rw [rPut_pos hm]
    refine cSeal_ok ?_
    intro x hx
    rcases List.mem_cons.1 hx with e | hx
    · rw [e]; exact ⟨hm.1, hm.2.1⟩
    · rcases List.mem_append.1 hx with h | h
      · exact put_ok (mayN_len hm) x h
      · exact ho x h
  · rw [rPut_neg hm]
    intro x hx
    cases hx
theorem rPut_len (r : Rc) : (rPut r).1.length ≤ 1011 := by
  by_cases hm : recMay r
  · rw [rPut_pos hm]
    have := recBytes_length r
    have h2 := put_le (r.body.length : Int)
    have h3 := hm.2.2
    show (recBytes r).length ≤ 1011
    omega
  · rw [rPut_neg hm]
    simp

end Go.Proofs.Ytiopafdndlodoaa.H
