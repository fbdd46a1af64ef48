import Derived.Test.YtngohjjepjpdlaaVariA
/-! The printed functions of layer 1 answer as the plain ones: put, all, and the references. -/
namespace Go.Proofs.Ytngohjjepjpdlaa.H
open Go.RowKit Moor Go.Proofs.YtngohjjepjpdlaaW.PrintWords Go.Proofs.YtngohjjepjpdlaaW.PrintLast Go.Proofs.YtngohjjepjpdlaaW.PrintMore
set_option linter.unusedVariables false
set_option linter.unusedSimpArgs false

set_option maxRecDepth 20000 in
theorem or128 : ∀ a : Nat, a < 256 → (a ||| 128) = a % 128 + 128 := by decide
theorem u8_or128 (n : Int) (h : 0 ≤ n) : bits .or .u8 (n % 256) 128 = n % 128 + 128 := by
  rw [u8_or (n % 256) 128 (by omega) (by omega) (by omega) (by omega)]
  have := or128 (n % 256).toNat (by omega)
  rw [show (128 : Int).toNat = 128 from rfl, this]
  omega

attribute [local irreducible] shl Go.bits

theorem put_loop (f : Nat) : ∀ (k : Nat) (out : List Int) (n : Int), f < k → 0 ≤ n → n < 128 ^ (f + 1) → out.length + f < 140737488355328 → B.vari_put.l0 k out n = some (out ++ putF f n) := by
  induction f with
  | zero =>
    intro k out n hk h0 h1 hl
    obtain ⟨k, rfl⟩ : ∃ m, k = m + 1 := ⟨k - 1, by omega⟩
    have h2 : n < 128 := by simpa using h1
    simp only [B.vari_put.l0]
    rw [if_neg (show ¬ n ≥ 128 by omega), if_pos (by omega)]
    rfl
  | succ f ih =>
    intro k out n hk h0 h1 hl
    obtain ⟨k, rfl⟩ : ∃ m, k = m + 1 := ⟨k - 1, by omega⟩
    simp only [B.vari_put.l0]
    have hol : out.length < 140737488355328 := by omega
    by_cases h : n < 128
    · rw [if_neg (show ¬ n ≥ 128 by omega), if_pos hol, putF, if_pos h]
      have : n % 256 = n := by omega
      rw [this]
    · rw [if_pos (show n ≥ 128 by omega), if_pos hol, u8_or128 n h0, ih k _ (n / 128) (by omega) (by omega) (pow_step f n h1) (by simp; omega), putF, if_neg h]
      simp
theorem vput_tells (out : List Int) (n : Int) (hn : mayN n) (hl : out.length < 140737488355000) (k : Nat) (hk : 10 ≤ k) : B.vari_put.f k out n = some (out ++ put n) :=
  put_loop 5 k out n (by omega) hn.1 (by have := hn.2; show n < 4398046511104; omega) (by omega)
theorem vmay_tells (n : Int) : B.vari_may.f n = some (decide (mayN n)) := by
  unfold B.vari_may.f
  by_cases h : n ≥ 0
  · rw [if_pos h]
    congr 1
    exact decide_eq_decide.2 ⟨fun g => ⟨h, g⟩, fun g => g.2⟩
  · rw [if_neg h, decide_eq_false (show ¬ mayN n from fun g => h g.1)]
theorem vPut_tells (n : Int) (k : Nat) (hk : 10 ≤ k) : B.vari_Put.f k n = some (vPut n) := by
  unfold B.vari_Put.f vPut
  rw [vmay_tells]
  simp only [Option.bind_some]
  by_cases h : mayN n
  · rw [decide_eq_true h, if_pos rfl, vput_tells [] n h (by simp) k hk, if_pos h]
    rfl
  · rw [decide_eq_false h, if_neg h]
    rfl

/-- .. all, from the i-th on. -/
theorem all_loop (l : List Int) (hl : l.length ≤ 400) (d : Nat) : ∀ (k i : Nat) (out : List Int), i + d = l.length → d + 10 < k → out.length ≤ 6 * i →
    B.vari_All.l0 k out l (l.length : Int) (i : Int) = some (if ∀ x ∈ l.drop i, mayN x then (out ++ (l.drop i).flatMap put, true) else ([], false)) := by
  induction d with
  | zero =>
    intro k i out hd hk ho
    obtain ⟨k, rfl⟩ : ∃ m, k = m + 1 := ⟨k - 1, by omega⟩
    have : l.drop i = [] := List.drop_eq_nil_iff.2 (by omega)
    simp only [B.vari_All.l0]
    rw [if_neg (show ¬ (i : Int) < l.length by omega), this]
    simp
  | succ d ih =>
    intro k i out hd hk ho
    obtain ⟨k, rfl⟩ : ∃ m, k = m + 1 := ⟨k - 1, by omega⟩
    have hlt : i < l.length := by omega
    have hdrop : l.drop i = l[i] :: l.drop (i + 1) := List.drop_eq_getElem_cons hlt
    have hi6 : i ≤ 4611686018427387904 := by omega
    simp only [B.vari_All.l0]
    rw [if_pos (show (i : Int) < l.length by omega), if_pos (show (0 : Int) ≤ i by omega), if_pos (show (i : Int) < l.length by omega), rd_nat l i hlt, vmay_tells, hdrop]
    simp only [Option.bind_some]
    by_cases h : mayN l[i]
    · have hp := put_le l[i]
      rw [decide_eq_true h, if_pos rfl, vput_tells out l[i] h (by omega) k (by omega)]
      simp only [Option.bind_some]
      rw [wrap64_nat i hi6, ih k (i + 1) (out ++ put l[i]) (by omega) (by omega) (by simp; omega)]
      simp only [List.forall_mem_cons, List.flatMap_cons, List.append_assoc, h, true_and]
    · rw [decide_eq_false h]
      simp only [List.forall_mem_cons, h, false_and, if_false]
      rfl
theorem vAll_tells (l : List Int) (k : Nat) (hk : 420 ≤ k) : B.vari_All.f k l = some (vAll l) := by
  unfold B.vari_All.f vAll
  by_cases h : l.length ≤ 400
  · rw [if_neg (show ¬ (l.length : Int) > 400 by omega)]
    have := all_loop l h l.length k 0 [] (by omega) (by omega) (by simp)
    simp only [Int.natCast_zero, List.drop_zero, List.nil_append] at this
    rw [this]
    simp [h]
  · rw [if_pos (show (l.length : Int) > 400 by omega)]
    simp [h]

/-! ### the references -/
theorem ref_put_loop (f : Nat) : ∀ (k : Nat) (out : List Int) (n : Int), f < k → 0 ≤ n → n < 128 ^ (f + 1) → n ≤ 1099511627776 → out.length + f < 140737488355328 → B.mooringsref01_Put.l0 k n out = some (out ++ putF f n) := by
  induction f with
  | zero =>
    intro k out n hk h0 h1 h3 hl
    obtain ⟨k, rfl⟩ : ∃ m, k = m + 1 := ⟨k - 1, by omega⟩
    have h2 : n < 128 := by simpa using h1
    simp only [B.mooringsref01_Put.l0]
    rw [if_neg (show ¬ n ≥ 128 by omega), if_pos (by omega)]
    rfl
  | succ f ih =>
    intro k out n hk h0 h1 h3 hl
    obtain ⟨k, rfl⟩ : ∃ m, k = m + 1 := ⟨k - 1, by omega⟩
    have e1 : Int.tdiv n 128 = n / 128 := Int.tdiv_eq_ediv_of_nonneg h0
    have e2 : Int.tmod n 128 = n % 128 := Int.tmod_eq_emod_of_nonneg h0
    simp only [B.mooringsref01_Put.l0]
    have hol : out.length < 140737488355328 := by omega
    by_cases h : n < 128
    · rw [if_neg (show ¬ n ≥ 128 by omega), if_pos hol, putF, if_pos h]
      have : n % 256 = n := by omega
      rw [this]
    · have e4 : (n % 128 + 128) % 256 = n % 128 + 128 := by omega
      rw [if_pos (show n ≥ 128 by omega), if_pos hol, e1, e2, wrap64_id (n := n / 128) (by omega) (by omega), wrap64_id (n := n % 128 + 128) (by omega) (by omega), e4, ih k _ (n / 128) (by omega) (by omega) (pow_step f n h1) (by omega) (by simp; omega), putF, if_neg h]
      simp
theorem refPut_tells (n : Int) (k : Nat) (hk : 10 ≤ k) : B.mooringsref01_Put.f k n = some (vPut n) := by
  obtain ⟨k, rfl⟩ : ∃ m, k = m + 1 := ⟨k - 1, by omega⟩
  unfold B.mooringsref01_Put.f vPut
  by_cases h : mayN n
  · have h1 := h.1
    have h2 := h.2
    rw [if_neg (show ¬ n < 0 by omega), decide_eq_false (show ¬ n > 1099511627776 by omega), if_pos h]
    simp only [B.mooringsref01_Put.j0]
    rw [if_neg (by decide), ref_put_loop 5 k [] n (by omega) h.1 (by show n < 4398046511104; omega) h2 (by simp)]
    rfl
  · rw [if_neg h]
    unfold mayN at h
    by_cases h1 : n < 0
    · rw [if_pos h1]
      rfl
    · rw [if_neg h1, decide_eq_true (show n > 1099511627776 by omega)]
      rfl

theorem ref_get_loop (l : List Int) (a : Nat) (ho : okB l) (ha2 : a ≤ 4611686018427387904) (f : Nat) : ∀ (k i : Nat) (n : Int), i + f = 6 → 2 * f + 2 ≤ k → 0 ≤ n → n < 128 ^ i →
    B.mooringsref01_Get.l0 k l (a : Int) n (128 ^ i) ((a + i : Nat) : Int) = some (fin a (accF i n (decF f (l.drop (a + i))))) := by
  induction f with
  | zero =>
    intro k i n hf hk h0 h1
    obtain ⟨k, rfl⟩ : ∃ m, k = m + 2 := ⟨k - 2, by omega⟩
    simp only [B.mooringsref01_Get.l0, B.mooringsref01_Get.j1]
    have e : wrap64 (((a + i : Nat) : Int) - a) = i := by
      have : ((a + i : Nat) : Int) - a = i := by omega
      rw [this]
      exact wrap64_id (by omega) (by omega)
    rw [e, decide_eq_false (show ¬ (i : Int) < 6 by omega)]
    simp [decF, accF, fin]
  | succ f ih =>
    intro k i n hf hk h0 h1
    obtain ⟨k, rfl⟩ : ∃ m, k = m + 2 := ⟨k - 2, by omega⟩
    simp only [B.mooringsref01_Get.l0, B.mooringsref01_Get.j1]
    have hai : ((a + i : Nat) : Int) = (a : Int) + i := by omega
    have e : wrap64 (((a + i : Nat) : Int) - a) = i := by
      have : ((a + i : Nat) : Int) - a = i := by omega
      rw [this]
      exact wrap64_id (by omega) (by omega)
    rw [e]
    clear e
    by_cases hlt : a + i < l.length
    · have hdrop : l.drop (a + i) = l[a + i] :: l.drop (a + i + 1) := List.drop_eq_getElem_cons hlt
      have hc := ho l[a + i] (List.getElem_mem hlt)
      rw [if_pos (show ((a + i : Nat) : Int) < l.length by omega), decide_eq_true (show (i : Int) < 6 by omega), if_pos rfl, if_pos (show (0 : Int) ≤ ((a + i : Nat) : Int) by omega), if_pos (show ((a + i : Nat) : Int) < l.length by omega), rd_nat l (a + i) hlt, hdrop]
      generalize l[a + i] = c at hc ⊢
      have hp : (0 : Int) < 128 ^ i := Int.pow_pos (by decide)
      have hps : (128 : Int) ^ (i + 1) = 128 ^ i * 128 := Int.pow_succ ..
      have hpm : (128 : Int) ^ i ≤ 34359738368 := by
        have : 128 ^ i ≤ 128 ^ 5 := Nat.pow_le_pow_right (by omega) (by omega)
        have h5 : ((128 ^ i : Nat) : Int) = (128 : Int) ^ i := by simp
        omega
      have hm0 : 0 ≤ 128 ^ i * (c % 128) := Int.mul_nonneg (by omega) (by omega)
      have hm1 : 128 ^ i * (c % 128) ≤ 128 ^ i * 127 := Int.mul_le_mul_of_nonneg_left (by omega) (by omega)
      have em : Int.tmod c 128 = c % 128 := Int.tmod_eq_emod_of_nonneg hc.1
      have hb : n + 128 ^ i * (c % 128) ≤ 9223372036854775807 := by omega
      have hb' : -9223372036854775808 ≤ n + 128 ^ i * (c % 128) := by omega
      have hb2 : 128 ^ i * (c % 128) ≤ 9223372036854775807 := by omega
      have hb2' : -9223372036854775808 ≤ 128 ^ i * (c % 128) := by omega
      have hb3 : (128 : Int) ^ i * 128 ≤ 9223372036854775807 := by omega
      have hb3' : -9223372036854775808 ≤ (128 : Int) ^ i * 128 := by omega
      have hc2 : c ≤ 9223372036854775807 := by omega
      have hc3 : -9223372036854775808 ≤ c := by omega
      have hi6 : a + i ≤ 4611686018427387904 + 6 := by omega
      have ew : wrap64 (((a + i : Nat) : Int) + 1) = ((a + (i + 1) : Nat) : Int) := by
        have : ((a + i : Nat) : Int) + 1 = ((a + (i + 1) : Nat) : Int) := by omega
        rw [this]
        exact wrap64_id (by omega) (by omega)
      have hn2 : 0 ≤ n + 128 ^ i * (c % 128) := by omega
      have hn3 : n + 128 ^ i * (c % 128) < 128 ^ (i + 1) := by rw [hps]; clear ew; omega
      rw [wrap64_id hc3 hc2, em, wrap64_id hb2' hb2, wrap64_id hb' hb, wrap64_id hb3' hb3, ← hps, ew]
      clear ew
      have hfin : ∀ v : Int, fin (a : Int) (some (v, i + 1)) = if v ≤ 1099511627776 then (v, ((a + (i + 1) : Nat) : Int)) else (0, -1) := by
        intro v
        simp only [fin]
        split <;> simp <;> omega
      by_cases h128 : c < 128
      · have ec : c % 128 = c := by omega
        rw [if_pos h128, decF, if_pos h128, ec]
        by_cases hz : c = 0
        · subst hz
          have h9 : ¬ n > 1099511627776 ↔ n ≤ 1099511627776 := by omega
          by_cases hi0 : 0 < i
          · have : (((a + i : Nat) : Int) > (a : Int)) := by omega
            simp only [accF, hi0, this, if_true, true_and, fin]
            split <;> simp
          · have hi1 : i = 0 := by omega
            subst hi1
            have h1' : n < 1 := by simpa using h1
            have hn0 : n = 0 := by omega
            subst hn0
            simp [accF, fin]
        · rw [if_neg hz]
          simp only [accF, hz, and_false, if_false]
          rw [hfin, Int.mul_comm c]
          by_cases hv : n + 128 ^ i * c > 1099511627776
          · rw [if_pos hv, if_neg (by omega)]
          · rw [if_neg hv, if_pos (by omega)]
      · rw [if_neg h128, ih k (i + 1) _ (by omega) (by omega) hn2 hn3, decF, if_neg h128]
        congr 2
        rw [show a + (i + 1) = a + i + 1 by omega]
        cases hr : decF f (l.drop (a + i + 1)) with
        | none => rfl
        | some p =>
          obtain ⟨m, j⟩ := p
          by_cases hmz : m = 0
          · simp [accF, hmz]
          · have hge : 0 ≤ m := (decF_put f _ m j (okB_drop ho _) hr).1
            have hne : ¬ (c - 128 + 128 * m = 0) := by omega
            simp only [accF, hmz, hne, and_false, if_false, Option.some.injEq, Prod.mk.injEq]
            have : c % 128 = c - 128 := by omega
            refine ⟨?_, by omega⟩
            rw [this, hps, Int.add_mul, Int.add_assoc, Int.mul_comm (128 ^ i) (c - 128)]
            congr 2
            rw [Int.mul_comm 128 m, Int.mul_assoc, Int.mul_comm 128 (128 ^ i)]
    · have hdrop : l.drop (a + i) = [] := List.drop_eq_nil_iff.2 (by omega)
      rw [if_neg (show ¬ ((a + i : Nat) : Int) < l.length by omega), hdrop]
      simp [decF, accF, fin]
theorem refGet_tells (l : List Int) (a : Int) (ho : okB l) (ha : a ≤ 4611686018427387904 ∨ l.length ≤ 4611686018427387904) (k : Nat) (hk : 20 ≤ k) : B.mooringsref01_Get.f k l a = some (vGet l a) := by
  unfold B.mooringsref01_Get.f vGet
  by_cases h1 : a < 0
  · rw [if_pos h1, if_pos (.inl h1)]
  · rw [if_neg h1]
    by_cases h2 : a > l.length
    · rw [if_pos (.inr h2)]
      obtain ⟨k, rfl⟩ : ∃ m, k = m + 2 := ⟨k - 2, by omega⟩
      simp only [B.mooringsref01_Get.l0, B.mooringsref01_Get.j1]
      rw [if_neg (by omega)]
      simp
    · have h3 : ¬ (a < 0 ∨ a > (l.length : Int)) := by omega
      rw [if_neg h3]
      obtain ⟨b, rfl⟩ := Int.eq_ofNat_of_zero_le (show 0 ≤ a by omega)
      have := ref_get_loop l b ho (by omega) 6 k 0 0 (by omega) (by omega) (by omega) (by simp)
      simp only [Nat.add_zero, Int.pow_zero] at this
      rw [this]
      congr 1
      unfold dec
      simp only [Int.toNat_natCast]
      cases decF 6 (l.drop b) with
      | none => rfl
      | some p =>
        obtain ⟨m, j⟩ := p
        simp only [accF, fin]
        by_cases hm : m ≤ 1099511627776 <;> simp [hm]

theorem refAll_loop (l : List Int) (hl : l.length ≤ 400) (d : Nat) : ∀ (k i : Nat) (out : List Int), i + d = l.length → d + 10 < k → out.length ≤ 6 * i →
    B.mooringsref01_All.l0 k l out (i : Int) = some (if ∀ x ∈ l.drop i, mayN x then (out ++ (l.drop i).flatMap put, true) else ([], false)) := by
  induction d with
  | zero =>
    intro k i out hd hk ho
    obtain ⟨k, rfl⟩ : ∃ m, k = m + 1 := ⟨k - 1, by omega⟩
    have : l.drop i = [] := List.drop_eq_nil_iff.2 (by omega)
    simp only [B.mooringsref01_All.l0]
    rw [if_neg (show ¬ (i : Int) < l.length by omega), this]
    simp
  | succ d ih =>
    intro k i out hd hk ho
    obtain ⟨k, rfl⟩ : ∃ m, k = m + 1 := ⟨k - 1, by omega⟩
    have hlt : i < l.length := by omega
    have hdrop : l.drop i = l[i] :: l.drop (i + 1) := List.drop_eq_getElem_cons hlt
    have hi6 : i ≤ 4611686018427387904 := by omega
    simp only [B.mooringsref01_All.l0]
    rw [if_pos (show (i : Int) < l.length by omega), if_pos (show (0 : Int) ≤ i by omega), rd_nat l i hlt, hdrop]
    by_cases h : mayN l[i]
    · have hp := put_le l[i]
      have h1 := h.1
      have h2 := h.2
      rw [if_neg (show ¬ l[i] < 0 by omega), if_neg (show ¬ l[i] > 1099511627776 by omega), refPut_tells l[i] k (by omega)]
      simp only [Option.bind_some]
      have e : vPut l[i] = put l[i] := by simp [vPut, h]
      rw [e, if_pos (by omega), wrap64_nat i hi6, ih k (i + 1) (out ++ put l[i]) (by omega) (by omega) (by simp; omega)]
      simp only [List.forall_mem_cons, List.flatMap_cons, List.append_assoc, h, true_and]
    · have hn : ¬ ∀ x ∈ l[i] :: l.drop (i + 1), mayN x := fun g => h (g _ List.mem_cons_self)
      rw [if_neg hn]
      unfold mayN at h
      by_cases h1 : l[i] < 0
      · rw [if_pos h1]
      · rw [if_neg h1, if_pos (show l[i] > 1099511627776 by omega)]
theorem refAll_tells (l : List Int) (k : Nat) (hk : 420 ≤ k) : B.mooringsref01_All.f k l = some (vAll l) := by
  unfold B.mooringsref01_All.f vAll
  by_cases h : l.length ≤ 400
  · rw [if_neg (show ¬ (l.length : Int) > 400 by omega)]
    have := refAll_loop l h l.length k 0 [] (by omega) (by omega) (by simp)
    simp only [Int.natCast_zero, List.drop_zero, List.nil_append] at this
    rw [this]
    simp [h]
  · rw [if_pos (show (l.length : Int) > 400 by omega)]
    simp [h]

theorem read_loop (l : List Int) (ho : okB l) (hl : l.length ≤ 4611686018427387904) (d : Nat) : ∀ (k a : Nat) (out : List Int), a ≤ l.length → l.length - a ≤ d → d + 21 ≤ k → out.length ≤ 400 →
    B.mooringsref01_Read.l0 k l out (a : Int) = some (match read (l.drop a) with | some m => if out.length + m.length ≤ 400 then (out ++ m, true) else ([], false) | none => ([], false)) := by
  induction d with
  | zero =>
    intro k a out ha hd hk hol
    obtain ⟨k, rfl⟩ : ∃ m, k = m + 1 := ⟨k - 1, by omega⟩
    have : l.drop a = [] := List.drop_eq_nil_iff.2 (by omega)
    simp only [B.mooringsref01_Read.l0]
    rw [if_neg (show ¬ (a : Int) < l.length by omega), this, read_nil]
    simp [hol]
  | succ d ih =>
    intro k a out ha hd hk hol
    obtain ⟨k, rfl⟩ : ∃ m, k = m + 1 := ⟨k - 1, by omega⟩
    simp only [B.mooringsref01_Read.l0]
    by_cases hlt : a < l.length
    · have hne : l.drop a ≠ [] := fun e => by have := List.drop_eq_nil_iff.1 e; omega
      rw [if_pos (show (a : Int) < l.length by omega), refGet_tells l a ho (.inr hl) k (by omega)]
      simp only [Option.bind_some]
      unfold vGet
      rw [if_neg (show ¬ ((a : Int) < 0 ∨ (a : Int) > l.length) by omega)]
      simp only [Int.toNat_natCast]
      cases hdc : dec (l.drop a) with
      | none =>
        rw [read_none hne hdc]
        simp
      | some p =>
        obtain ⟨n, j⟩ := p
        have hj := dec_pos hdc
        simp at hj
        simp only
        rw [if_neg (show ¬ ((a : Int) + j < 0) by omega), read_step hne hdc]
        by_cases h400 : out.length = 400
        · rw [if_pos (show (out.length : Int) = 400 by omega)]
          cases hr : read ((l.drop a).drop j) <;> simp [h400]
        · rw [if_neg (show ¬ (out.length : Int) = 400 by omega), if_pos (by omega)]
          have := ih k (a + j) (out ++ [n]) (by omega) (by omega) (by omega) (by simp; omega)
          rw [show ((a + j : Nat) : Int) = (a : Int) + j by omega] at this
          rw [this, List.drop_drop]
          cases hr : read (l.drop (a + j)) with
          | none => simp
          | some m =>
            simp only [Option.map_some, List.length_append, List.length_cons, List.length_nil, List.append_assoc, List.cons_append, List.nil_append]
            rw [show out.length + (0 + 1) + m.length = out.length + (m.length + 1) by omega]
    · have : l.drop a = [] := List.drop_eq_nil_iff.2 (by omega)
      rw [if_neg (show ¬ (a : Int) < l.length by omega), this, read_nil]
      simp [hol]
theorem refRead_tells (l : List Int) (ho : okB l) (hl : l.length ≤ 4611686018427387904) (k : Nat) (hk : l.length + 21 ≤ k) : B.mooringsref01_Read.f k l = some (vRead l) := by
  unfold B.mooringsref01_Read.f vRead
  have := read_loop l ho hl l.length k 0 [] (by omega) (by omega) hk (by simp)
  simp only [Int.natCast_zero, List.drop_zero] at this
  rw [this]
  congr 1
  cases read l <;> simp

theorem ints_loop (l m : List Int) (hlm : l.length = m.length) (hl : l.length ≤ 4611686018427387904) (d : Nat) : ∀ (k i : Nat), i + d = l.length → d < k → B.mooringsref01_Ints.l0 k l m (i : Int) = some (decide (l.drop i = m.drop i)) := by
  induction d with
  | zero =>
    intro k i hd hk
    obtain ⟨k, rfl⟩ : ∃ m, k = m + 1 := ⟨k - 1, by omega⟩
    simp only [B.mooringsref01_Ints.l0]
    rw [if_neg (show ¬ (i : Int) < l.length by omega), List.drop_eq_nil_iff.2 (show l.length ≤ i by omega), List.drop_eq_nil_iff.2 (show m.length ≤ i by omega)]
    rfl
  | succ d ih =>
    intro k i hd hk
    obtain ⟨k, rfl⟩ : ∃ m, k = m + 1 := ⟨k - 1, by omega⟩
    have h1 : i < l.length := by omega
    have h2 : i < m.length := by omega
    have hi6 : i ≤ 4611686018427387904 := by omega
    simp only [B.mooringsref01_Ints.l0]
    rw [if_pos (show (i : Int) < l.length by omega), if_pos (show (0 : Int) ≤ i by omega), if_pos (show (i : Int) < m.length by omega), rd_nat l i h1, rd_nat m i h2, List.drop_eq_getElem_cons h1, List.drop_eq_getElem_cons h2, wrap64_nat i hi6, ih k (i + 1) (by omega) (by omega)]
    generalize l.drop (i + 1) = p
    generalize m.drop (i + 1) = q
    generalize l[i] = x
    generalize m[i] = y
    by_cases h : x = y <;> simp [h]
theorem refInts_tells (l m : List Int) (hl : l.length ≤ 4611686018427387904) (k : Nat) (hk : l.length < k) : B.mooringsref01_Ints.f k l m = some (decide (l = m)) := by
  unfold B.mooringsref01_Ints.f
  by_cases h : l.length = m.length
  · rw [if_pos (show (l.length : Int) = m.length by omega)]
    have := ints_loop l m h hl l.length k 0 (by omega) hk
    simpa using this
  · rw [if_neg (show ¬ (l.length : Int) = m.length by omega)]
    congr 1
    symm
    simp
    rintro rfl
    exact h rfl

end Go.Proofs.Ytngohjjepjpdlaa.H
