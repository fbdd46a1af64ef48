import Derived.Test.YtnicndnbloohhaaMoorRecG
set_option linter.unusedVariables false
set_option linter.unusedSimpArgs false
/-! Plain laws of records: Scan, element by element. -/
namespace Moor
/-- The records from a place on, and where each ends. -/
def seqR : Nat → List Int → Nat → List (Rc × Int)
  | 0, _, _ => []
  | f + 1, b, a => match recF (b.drop a) with
    | .inl (r, k) => (r, ((a + k : Nat) : Int)) :: seqR f b (a + k)
    | .inr _ => []
def lastR (a : Int) (l : List (Rc × Int)) : Int := match l.getLast? with
  | some p => p.2
  | none => a
theorem lastR_cons (a : Int) (p : Rc × Int) (l : List (Rc × Int)) : lastR a (p :: l) = lastR p.2 l := by
  unfold lastR
  cases l with
  | nil => rfl
  | cons q l =>
    rw [List.getLast?_cons_cons]
    cases h : (q :: l).getLast? with
    | none => simp at h
    | some z => rfl
theorem lastR_snoc (a : Int) (p : Rc × Int) (l : List (Rc × Int)) : lastR a (l ++ [p]) = p.2 := by simp [lastR]
theorem rScanF_seq : ∀ (f : Nat) (b : List Int) (a : Nat), (rScanF f b a).1 = (seqR f b a).map (·.1) ∧ ((rScanF f b a).2 : Int) = lastR a (seqR f b a)
  | 0, b, a => ⟨rfl, rfl⟩
  | f + 1, b, a => by
    unfold rScanF seqR
    cases h : recF (b.drop a) with
    | inr e => exact ⟨rfl, rfl⟩
    | inl p =>
      obtain ⟨r, k⟩ := p
      obtain ⟨h1, h2⟩ := rScanF_seq f b (a + k)
      simp only
      exact ⟨by rw [h1]; rfl, by rw [h2, lastR_cons]⟩
theorem rScan_seq (b : List Int) : (rScan b).1 = (seqR (b.length + 1) b 0).map (·.1) ∧ ((rScan b).2 : Int) = lastR 0 (seqR (b.length + 1) b 0) := rScanF_seq _ b 0
/-- One step: a record is got, or none. -/
theorem seqR_step {b : List Int} (ho : okB b) {a f : Nat} (ha : a ≤ b.length) (hf : b.length - a < f) :
    ((rGet b a).2.2 = 0 ∧ ∃ a' : Nat, (rGet b a).2.1 = (a' : Int) ∧ a < a' ∧ a' ≤ b.length ∧ ∃ g, f = g + 1 ∧ b.length - a' < g ∧ seqR f b a = ((rGet b a).1, (rGet b a).2.1) :: seqR g b a') ∨
      ((rGet b a).2.2 ≠ 0 ∧ seqR f b a = []) := by
  obtain ⟨g, rfl⟩ : ∃ g, f = g + 1 := ⟨f - 1, by omega⟩
  cases h : recF (b.drop a) with
  | inl p =>
    obtain ⟨r, k⟩ := p
    left
    rw [rGet_inl ha h]
    obtain ⟨-, -, h3, h4⟩ := recF_ok (okB_drop ho a) h
    rw [List.length_drop] at h3
    refine ⟨rfl, a + k, rfl, by omega, by omega, g, rfl, by omega, ?_⟩
    conv => lhs; unfold seqR
    rw [h]
  | inr e =>
    right
    rw [rGet_inr ha h]
    have := recF_err _ h
    refine ⟨by show e ≠ 0; omega, ?_⟩
    unfold seqR
    rw [h]
end Moor
