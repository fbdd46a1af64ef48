import Derived.Test.YtiallcoopdlneaaMoorVari
/-! Plain laws of lists, step by step (layer 2); no program in sight. -/
set_option linter.unusedVariables false
set_option linter.unusedSimpArgs false
namespace Moor

def zig (n : Int) : Int := if n < 0 then -2 * n - 1 else 2 * n
def vZig (n : Int) : Int := if n < -274877906944 ∨ n > 274877906944 then -1 else zig n
def zag (k : Int) : Int := if k % 2 = 1 then -(k / 2) - 1 else k / 2
def vZag (k : Int) : Int := if k < 0 ∨ k > 549755813888 then 0 else zag k
def zin (n : Int) : Prop := 0 ≤ n ∧ n < 274877906944
instance (n : Int) : Decidable (zin n) := by unfold zin; infer_instance

def diffs : Int → List Int → List Int
  | _, [] => []
  | p, x :: t => zig (x - p) :: diffs x t
def vSteps (l : List Int) : List Int × Bool := if ∀ x ∈ l, zin x then vAll (diffs 0 l) else ([], false)
def sums : Int → List Int → Option (List Int)
  | _, [] => some []
  | p, k :: t => if k ≤ 549755813888 ∧ zin (p + vZag k) then (sums (p + vZag k) t).map ((p + vZag k) :: ·) else none
def optL : Option (List Int) → List Int × Bool
  | some l => (l, true)
  | none => ([], false)
def vSums (b : List Int) : List Int × Bool := if (vRead b).2 = true then optL (sums 0 (vRead b).1) else ([], false)

theorem zag_zig (n : Int) : zag (zig n) = n := by
  unfold zag zig
  split <;> split <;> omega
theorem zig_zag {k : Int} (h : 0 ≤ k) : zig (zag k) = k := by
  unfold zag zig
  split <;> split <;> omega
theorem zig_nonneg (n : Int) : 0 ≤ zig n := by unfold zig; split <;> omega
theorem zig_le {n : Int} (h0 : -274877906944 ≤ n) (h1 : n ≤ 274877906944) : zig n ≤ 549755813888 := by unfold zig; split <;> omega
theorem vZag_zig {n : Int} (h0 : -274877906944 ≤ n) (h1 : n ≤ 274877906944) : vZag (zig n) = n := by
  have a := zig_nonneg n
  have b := zig_le h0 h1
  unfold vZag
  rw [if_neg (by omega), zag_zig]
theorem zig_vZag {k : Int} (h0 : 0 ≤ k) (h1 : k ≤ 549755813888) : zig (vZag k) = k := by
  unfold vZag
  rw [if_neg (by omega), zig_zag h0]
theorem zag_bd {k : Int} (h0 : 0 ≤ k) (h1 : k ≤ 549755813888) : -274877906944 ≤ zag k ∧ zag k ≤ 274877906944 := by unfold zag; split <;> omega
theorem vZag_bd (k : Int) : -274877906944 ≤ vZag k ∧ vZag k ≤ 274877906944 := by
  unfold vZag
  split
  · omega
  · exact zag_bd (by omega) (by omega)

theorem diffs_length : ∀ (p : Int) (l : List Int), (diffs p l).length = l.length
  | _, [] => rfl
  | p, x :: t => by simp [diffs, diffs_length x t]
theorem diffs_may : ∀ (p : Int) (l : List Int), zin p → (∀ x ∈ l, zin x) → ∀ y ∈ diffs p l, 0 ≤ y ∧ y ≤ 549755813888
  | _, [], _, _, y, hy => by simp [diffs] at hy
  | p, x :: t, hp, hl, y, hy => by
    have hx := hl x (by simp)
    have h1 := hp.1
    have h2 := hp.2
    have h3 := hx.1
    have h4 := hx.2
    rcases List.mem_cons.1 hy with rfl | hy
    · exact ⟨zig_nonneg _, zig_le (by omega) (by omega)⟩
    · exact diffs_may x t hx (fun z hz => hl z (by simp [hz])) y hy
theorem zin0 : zin 0 := ⟨by omega, by omega⟩
theorem diffs_mayN {l : List Int} (hl : ∀ x ∈ l, zin x) : ∀ y ∈ diffs 0 l, mayN y := fun y hy => by
  have := diffs_may 0 l zin0 hl y hy
  exact ⟨this.1, by omega⟩
theorem sums_diffs : ∀ (p : Int) (l : List Int), zin p → (∀ x ∈ l, zin x) → sums p (diffs p l) = some l
  | _, [], _, _ => rfl
  | p, x :: t, hp, hl => by
    have hx := hl x (by simp)
    have h1 := hp.1
    have h2 := hp.2
    have h3 := hx.1
    have h4 := hx.2
    have e : p + vZag (zig (x - p)) = x := by rw [vZag_zig (by omega) (by omega)]; omega
    have hz : zig (x - p) ≤ 549755813888 := zig_le (by omega) (by omega)
    simp only [diffs, sums, e]
    rw [if_pos ⟨hz, hx⟩, sums_diffs x t hx (fun z hz => hl z (by simp [hz]))]
    rfl
theorem diffs_sums : ∀ (p : Int) (z l : List Int), zin p → (∀ x ∈ z, 0 ≤ x) → sums p z = some l → (∀ x ∈ l, zin x) ∧ diffs p l = z ∧ l.length = z.length
  | p, [], l, _, _, h => by
    simp [sums] at h
    subst h
    simp [diffs]
  | p, k :: t, l, hp, hz, h => by
    simp only [sums] at h
    split at h
    · rename_i g
      cases hs : sums (p + vZag k) t with
      | none => rw [hs] at h; simp at h
      | some m =>
        rw [hs] at h
        simp at h
        subst h
        obtain ⟨h1, h2, h3⟩ := diffs_sums (p + vZag k) t m g.2 (fun x hx => hz x (by simp [hx])) hs
        refine ⟨fun x hx => ?_, ?_, by simp [h3]⟩
        · rcases List.mem_cons.1 hx with rfl | hx
          · exact g.2
          · exact h1 x hx
        · simp only [diffs, h2]
          rw [show p + vZag k - p = vZag k by omega, zig_vZag (hz k (by simp)) g.1]
    · simp at h
theorem vSteps_pos {l : List Int} (h : l.length ≤ 400 ∧ ∀ x ∈ l, zin x) : vSteps l = ((diffs 0 l).flatMap put, true) := by
  unfold vSteps
  rw [if_pos h.2, vAll_pos ⟨by rw [diffs_length]; exact h.1, diffs_mayN h.2⟩]
theorem vSteps_neg {l : List Int} (h : ¬ (l.length ≤ 400 ∧ ∀ x ∈ l, zin x)) : vSteps l = ([], false) := by
  unfold vSteps
  split
  · rename_i g
    rw [vAll_neg]
    rw [diffs_length]
    exact fun q => h ⟨q.1, g⟩
  · rfl
theorem read_nonneg {b z : List Int} (ho : okB b) (h : read b = some z) : ∀ x ∈ z, 0 ≤ x := fun x hx => ((read_back ho h).1 x hx).1
/-- What is summed is told by its bytes. -/
theorem vSums_steps {l : List Int} (h : l.length ≤ 400 ∧ ∀ x ∈ l, zin x) : vSums ((diffs 0 l).flatMap put) = (l, true) := by
  unfold vSums
  have hr : vRead ((diffs 0 l).flatMap put) = (diffs 0 l, true) := vRead_pos (read_all (diffs_mayN h.2)) (by rw [diffs_length]; exact h.1)
  simp only [hr, if_true, sums_diffs 0 l zin0 h.2, optL]
theorem vSums_cases {b : List Int} (ho : okB b) : vSums b = ([], false) ∨ ∃ l, vSums b = (l, true) ∧ l.length ≤ 400 ∧ (∀ x ∈ l, zin x) ∧ (diffs 0 l).flatMap put = b := by
  by_cases h : ∃ m, read b = some m ∧ m.length ≤ 400
  · obtain ⟨m, h1, h2⟩ := h
    have hv := vRead_pos h1 h2
    unfold vSums
    simp only [hv, if_true]
    cases hs : sums 0 m with
    | none => exact .inl rfl
    | some l =>
      obtain ⟨a, b1, c⟩ := diffs_sums 0 m l zin0 (read_nonneg ho h1) hs
      refine .inr ⟨l, rfl, by omega, a, ?_⟩
      rw [b1]
      exact (read_back ho h1).2.1
  · have hv := vRead_neg (fun m h1 h2 => h ⟨m, h1, h2⟩)
    unfold vSums
    simp [hv]
theorem vSteps_ok (l : List Int) : okB (vSteps l).1 ∧ (vSteps l).1.length ≤ 2400 := by
  unfold vSteps
  split
  · exact vAll_ok _
  · exact ⟨okB_nil, by simp⟩

/-! ### what a loop over a list has done behind k rounds -/
def lastOf (l : List Int) (k : Nat) : Int := if k = 0 then 0 else l[k - 1]?.getD 0
def doneOf (l : List Int) (k : Nat) : List Int := diffs 0 (l.take k) ++ List.replicate (l.length - k) 0
theorem diffs_snoc : ∀ (p : Int) (t : List Int) (x : Int), diffs p (t ++ [x]) = diffs p t ++ [zig (x - (if t = [] then p else t[t.length - 1]?.getD 0))]
  | p, [], x => by simp [diffs]
  | p, y :: t, x => by
    simp only [List.cons_append, diffs, diffs_snoc y t x]
    cases t with
    | nil => simp
    | cons z t => simp
theorem lastOf_take (l : List Int) (k : Nat) (hk : k ≤ l.length) : (if l.take k = [] then (0 : Int) else (l.take k)[(l.take k).length - 1]?.getD 0) = lastOf l k := by
  unfold lastOf
  by_cases h : k = 0
  · simp [h]
  · have hl : (l.take k).length = k := by simp; omega
    have hne : l.take k ≠ [] := fun e => by rw [e] at hl; simp at hl; omega
    rw [if_neg hne, if_neg h, hl, List.getElem?_take, if_pos (by omega)]
theorem doneOf_length (l : List Int) (k : Nat) (hk : k ≤ l.length) : (doneOf l k).length = l.length := by
  unfold doneOf
  rw [List.length_append, diffs_length]
  simp
  omega
theorem doneOf_succ (l : List Int) (k : Nat) (hk : k < l.length) : (doneOf l k).set k (zig (l[k] - lastOf l k)) = doneOf l (k + 1) := by
  unfold doneOf
  have hl : (diffs 0 (l.take k)).length = k := by rw [diffs_length]; simp; omega
  obtain ⟨m, hm⟩ : ∃ m, l.length - k = m + 1 := ⟨l.length - k - 1, by omega⟩
  have hm2 : l.length - (k + 1) = m := by omega
  have ht : l.take (k + 1) = l.take k ++ [l[k]] := by rw [List.take_succ_eq_append_getElem hk]
  rw [hm, hm2, ht, diffs_snoc, lastOf_take l k (by omega), List.replicate_succ, List.append_assoc]
  rw [List.set_append_right _ _ (by omega), hl]
  simp
theorem doneOf_0 (l : List Int) : doneOf l 0 = List.replicate l.length 0 := by simp [doneOf, diffs]
theorem doneOf_all (l : List Int) : doneOf l l.length = diffs 0 l := by simp [doneOf]
theorem lastOf_succ (l : List Int) (k : Nat) (hk : k < l.length) : lastOf l (k + 1) = l[k] := by simp [lastOf, hk]
theorem lastOf_zin (l : List Int) (k : Nat) (hk : k ≤ l.length) (h : ∀ j, j < k → zin (l[j]?.getD 0)) : zin (lastOf l k) := by
  unfold lastOf
  split
  · exact zin0
  · exact h (k - 1) (by omega)

end Moor
