import Derived.Test.YtiopafdndlodoaaMoorVari
set_option linter.unusedVariables false
set_option linter.unusedSimpArgs false
/-! Plain laws of sums of bytes (layer 4): the register, linear and of one way back; no program in sight. -/
namespace Moor

abbrev R32 := BitVec 32
def poly : R32 := 0x04c11db7#32
/-- One step without a bit. -/
def lfsr (r : R32) : R32 := if r.msb then (r <<< 1) ^^^ poly else r <<< 1
def inB (b : Bool) : R32 := if b then 0x80000000#32 else 0#32
def stepB (r : R32) (b : Bool) : R32 := lfsr (r ^^^ inB b)
def rollB (r : R32) (l : List Bool) : R32 := l.foldl stepB r

theorem lfsr_xor (x y : R32) : lfsr (x ^^^ y) = lfsr x ^^^ lfsr y := by
  unfold lfsr
  rw [BitVec.msb_xor, BitVec.shiftLeft_xor_distrib]
  cases x.msb <;> cases y.msb <;> simp
  · ac_rfl
  · ac_rfl
  · rw [show (x <<< 1 ^^^ poly) ^^^ (y <<< 1 ^^^ poly) = (x <<< 1 ^^^ y <<< 1) ^^^ (poly ^^^ poly) by ac_rfl]
    simp
theorem lfsr_zero : lfsr 0#32 = 0#32 := by decide
theorem inB_xor (a b : Bool) : inB (a ^^ b) = inB a ^^^ inB b := by cases a <;> cases b <;> decide
theorem stepB_xor (r s : R32) (a b : Bool) : stepB (r ^^^ s) (a ^^ b) = stepB r a ^^^ stepB s b := by
  unfold stepB
  rw [← lfsr_xor, inB_xor]
  congr 1
  ac_rfl
theorem lsb_shift (y : R32) : (y <<< 1).getLsbD 0 = false := by simp
theorem lfsr_even {y z : R32} (h : lfsr y = z) (hz : z.getLsbD 0 = false) : y.msb = false ∧ y <<< 1 = z := by
  unfold lfsr at h
  cases hm : y.msb with
  | false => rw [hm] at h; exact ⟨rfl, h⟩
  | true =>
    rw [hm, if_pos rfl] at h
    rw [← h] at hz
    rw [BitVec.getLsbD_xor, lsb_shift] at hz
    exact absurd hz (by decide)
theorem shift_back {y z : R32} (hm : y.msb = false) (h : y <<< 1 = z) : y = z >>> 1 := by
  subst h
  have h1 : y.toNat < 2 ^ 31 := by
    have := BitVec.msb_eq_decide y
    rw [hm] at this
    simp at this
    omega
  apply BitVec.eq_of_toNat_eq
  simp [BitVec.toNat_shiftLeft, BitVec.toNat_ushiftRight, Nat.shiftRight_eq_div_pow, Nat.shiftLeft_eq]
  omega
theorem lfsr_inj0 {y : R32} (h : lfsr y = 0#32) : y = 0#32 := by
  obtain ⟨h1, h2⟩ := lfsr_even h (by decide)
  rw [shift_back h1 h2]
  decide
theorem xor_eq_zero {a b : R32} (h : a ^^^ b = 0#32) : a = b := by
  have : a = (a ^^^ b) ^^^ b := by rw [BitVec.xor_assoc]; simp
  rw [this, h]
  simp
theorem lfsr_inj {x y : R32} (h : lfsr x = lfsr y) : x = y := by
  apply xor_eq_zero
  apply lfsr_inj0
  rw [lfsr_xor, h]
  simp

/-! ### many bits -/
def xorL (l m : List Bool) : List Bool := List.zipWith (· ^^ ·) l m
def zerosB (n : Nat) : List Bool := List.replicate n false
theorem rollB_append (r : R32) (l m : List Bool) : rollB r (l ++ m) = rollB (rollB r l) m := by simp [rollB]
theorem rollB_xor : ∀ (l m : List Bool) (r s : R32), l.length = m.length → rollB (r ^^^ s) (xorL l m) = rollB r l ^^^ rollB s m
  | [], [], _, _, _ => rfl
  | a :: l, b :: m, r, s, h => by
    show rollB (stepB (r ^^^ s) (a ^^ b)) (xorL l m) = rollB (stepB r a) l ^^^ rollB (stepB s b) m
    rw [stepB_xor, rollB_xor l m _ _ (by simpa using h)]
  | [], _ :: _, _, _, h => by simp at h
  | _ :: _, [], _, _, h => by simp at h
theorem xorL_self (l : List Bool) : xorL l l = zerosB l.length := by
  induction l with
  | nil => rfl
  | cons a l ih => show (a ^^ a) :: xorL l l = _; rw [ih]; simp [zerosB, List.replicate_succ]
theorem xorL_length (l m : List Bool) (h : l.length = m.length) : (xorL l m).length = l.length := by simp [xorL, h]
theorem stepB_inj {r s : R32} {b : Bool} (h : stepB r b = stepB s b) : r = s := by
  have := lfsr_inj h
  have e : r = (r ^^^ inB b) ^^^ inB b := by rw [BitVec.xor_assoc]; simp
  rw [e, this, BitVec.xor_assoc]
  simp
theorem rollB_inj : ∀ (l : List Bool) {r s : R32}, rollB r l = rollB s l → r = s
  | [], _, _, h => h
  | _ :: l, _, _, h => stepB_inj (rollB_inj l h)
theorem rollB_zeros (n : Nat) : rollB 0#32 (zerosB n) = 0#32 := by
  induction n with
  | zero => rfl
  | succ n ih =>
    show rollB (stepB 0#32 false) (zerosB n) = 0#32
    rw [show stepB 0#32 false = 0#32 by decide]
    exact ih

/-- Bits, at the high end of a register. -/
def pack : List Bool → R32
  | [] => 0#32
  | b :: e => inB b ^^^ (pack e >>> 1)
theorem pack_low : ∀ (e : List Bool) (i : Nat), i + e.length < 32 → (pack e).getLsbD i = false
  | [], _, _ => by simp [pack]
  | b :: e, i, h => by
    have h' : i + 1 + e.length < 32 := by simp at h; omega
    unfold pack
    rw [BitVec.getLsbD_xor, BitVec.getLsbD_ushiftRight, Nat.add_comm 1 i, pack_low e (i + 1) h']
    have : (inB b).getLsbD i = false := by
      have hi : i < 31 := by simp at h; omega
      unfold inB
      cases b with
      | false => simp
      | true =>
        show (0x80000000#32).getLsbD i = false
        have : ∀ j : Fin 31, (0x80000000#32).getLsbD j.1 = false := by decide
        exact this ⟨i, hi⟩
    rw [this]
    rfl
theorem roll_zero_pack : ∀ (e : List Bool) (r : R32), e.length ≤ 32 → rollB r e = 0#32 → r = pack e
  | [], r, _, h => h
  | b :: e, r, hl, h => by
    have hl' : e.length ≤ 31 := by simpa using hl
    have h1 := roll_zero_pack e (stepB r b) (by omega) h
    obtain ⟨h2, h3⟩ := lfsr_even h1 (pack_low e 0 (by omega))
    have h4 := shift_back h2 h3
    unfold pack
    rw [← h4, BitVec.xor_comm, BitVec.xor_assoc]
    simp
theorem lfsr_pack {z : R32} (hz : z.getLsbD 0 = false) : lfsr (z >>> 1) = z := by
  have hm : (z >>> 1).msb = false := by rw [BitVec.msb_eq_getLsbD_last]; simp
  unfold lfsr
  rw [hm]
  simp only [Bool.false_eq_true, if_false]
  apply BitVec.eq_of_getLsbD_eq
  intro i hi
  rw [BitVec.getLsbD_shiftLeft, BitVec.getLsbD_ushiftRight]
  by_cases h : i = 0
  · subst h
    rw [hz]
    simp
  · have e : 1 + (i - 1) = i := by omega
    simp only [e, hi, decide_true, Bool.true_and]
    have : ¬ i < 1 := by omega
    simp [this]
theorem roll_pack : ∀ (e : List Bool), e.length ≤ 32 → rollB (pack e) e = 0#32
  | [], _ => rfl
  | b :: e, hl => by
    have hl' : e.length ≤ 31 := by simpa using hl
    show rollB (stepB (pack (b :: e)) b) e = 0#32
    have : stepB (pack (b :: e)) b = pack e := by
      show lfsr ((inB b ^^^ pack e >>> 1) ^^^ inB b) = pack e
      rw [show (inB b ^^^ pack e >>> 1) ^^^ inB b = (pack e >>> 1) ^^^ (inB b ^^^ inB b) by ac_rfl]
      simp only [BitVec.xor_self, BitVec.xor_zero]
      exact lfsr_pack (pack_low e 0 (by omega))
    rw [this]
    exact roll_pack e (by omega)
theorem pack_zero : ∀ (e : List Bool), e.length ≤ 32 → pack e = 0#32 → e = zerosB e.length
  | [], _, _ => rfl
  | b :: e, hl, h => by
    have hl' : e.length ≤ 31 := by simpa using hl
    unfold pack at h
    have hb : b = false := by
      have := congrArg BitVec.msb h
      rw [BitVec.msb_xor] at this
      have h2 : (pack e >>> 1).msb = false := by rw [BitVec.msb_eq_getLsbD_last]; simp
      rw [h2] at this
      cases b with
      | false => rfl
      | true => revert this; decide
    subst hb
    have h3 : pack e >>> 1 = 0#32 := by simpa [inB] using h
    have h4 : pack e = 0#32 := by
      have := lfsr_pack (pack_low e 0 (by omega))
      rw [h3, lfsr_zero] at this
      exact this.symm
    have h5 := pack_zero e (by omega) h4
    rw [h5]
    simp [zerosB, List.replicate_succ]
/-- What differs within 32 bits in a row comes to another register. -/
theorem roll_burst (p q : Nat) (e : List Bool) (he : e.length ≤ 32) (h : rollB 0#32 (zerosB p ++ e ++ zerosB q) = 0#32) : e = zerosB e.length := by
  rw [rollB_append, rollB_append, rollB_zeros] at h
  have h2 : rollB 0#32 e = 0#32 := rollB_inj (zerosB q) (h.trans (rollB_zeros q).symm)
  exact pack_zero e he (roll_zero_pack e _ he h2).symm
/-- The register behind 32 bits, as one that they were put into at once. -/
theorem roll_at_once (r : R32) (e : List Bool) (he : e.length = 32) : rollB r e = rollB (r ^^^ pack e) (zerosB 32) := by
  have h := rollB_xor (zerosB 32) e (r ^^^ pack e) (pack e) (by simp [zerosB, he])
  rw [roll_pack e (by omega)] at h
  have e1 : (r ^^^ pack e) ^^^ pack e = r := by rw [BitVec.xor_assoc]; simp
  have e2 : xorL (zerosB 32) e = e := by
    have : ∀ (l : List Bool) (n : Nat), l.length = n → xorL (zerosB n) l = l := by
      intro l
      induction l with
      | nil => intro n hn; subst hn; rfl
      | cons a l ih =>
        intro n hn
        subst hn
        show (false ^^ a) :: xorL (zerosB l.length) l = _
        rw [ih _ rfl]
        simp
    exact this e 32 he
  rw [e1, e2] at h
  simpa using h

/-! ### bytes and their bits -/
/-- A byte's bits, the highest first. -/
def byteBits (c : Int) : List Bool := [c.toNat.testBit 7, c.toNat.testBit 6, c.toNat.testBit 5, c.toNat.testBit 4, c.toNat.testBit 3, c.toNat.testBit 2, c.toNat.testBit 1, c.toNat.testBit 0]
def bitsOf (l : List Int) : List Bool := l.flatMap byteBits
theorem byteBits_length (c : Int) : (byteBits c).length = 8 := rfl
theorem bitsOf_length (l : List Int) : (bitsOf l).length = 8 * l.length := by
  induction l with
  | nil => rfl
  | cons c l ih =>
    show (byteBits c ++ bitsOf l).length = _
    rw [List.length_append, ih, byteBits_length, List.length_cons]
    omega
theorem bitsOf_append (l m : List Int) : bitsOf (l ++ m) = bitsOf l ++ bitsOf m := List.flatMap_append
theorem byteBits_inj {a b : Int} (ha : 0 ≤ a ∧ a ≤ 255) (hb : 0 ≤ b ∧ b ≤ 255) (h : byteBits a = byteBits b) : a = b := by
  have e : a.toNat = b.toNat := by
    apply Nat.eq_of_testBit_eq
    intro i
    simp only [byteBits, List.cons.injEq, and_true] at h
    obtain ⟨h7, h6, h5, h4, h3, h2, h1, h0⟩ := h
    by_cases hi : i < 8
    · have : i = 0 ∨ i = 1 ∨ i = 2 ∨ i = 3 ∨ i = 4 ∨ i = 5 ∨ i = 6 ∨ i = 7 := by omega
      rcases this with rfl | rfl | rfl | rfl | rfl | rfl | rfl | rfl <;> assumption
    · have hp : 2 ^ 8 ≤ 2 ^ i := Nat.pow_le_pow_right (by omega) (by omega)
      rw [Nat.testBit_lt_two_pow (show a.toNat < 2 ^ i by omega), Nat.testBit_lt_two_pow (show b.toNat < 2 ^ i by omega)]
  omega
theorem bitsOf_inj : ∀ {l m : List Int}, okB l → okB m → bitsOf l = bitsOf m → l = m
  | [], [], _, _, _ => rfl
  | a :: l, b :: m, ha, hb, h => by
    have h' : byteBits a ++ bitsOf l = byteBits b ++ bitsOf m := h
    obtain ⟨h1, h2⟩ := List.append_inj h' rfl
    rw [byteBits_inj (ha a (by simp)) (hb b (by simp)) h1, bitsOf_inj (fun x hx => ha x (by simp [hx])) (fun x hx => hb x (by simp [hx])) h2]
  | [], b :: m, _, _, h => by have := congrArg List.length h; rw [bitsOf_length, bitsOf_length] at this; simp at this
  | a :: l, [], _, _, h => by have := congrArg List.length h; rw [bitsOf_length, bitsOf_length] at this; simp at this
/-- One bit of bytes. -/
def bitAt (l : List Int) (j : Nat) : Bool := (byteBits (l.getD (j / 8) 0)).getD (j % 8) false
theorem bitsOf_get : ∀ (l : List Int) (j : Nat), (bitsOf l).getD j false = bitAt l j
  | [], j => by
    unfold bitAt
    have : j % 8 = 0 ∨ j % 8 = 1 ∨ j % 8 = 2 ∨ j % 8 = 3 ∨ j % 8 = 4 ∨ j % 8 = 5 ∨ j % 8 = 6 ∨ j % 8 = 7 := by omega
    rcases this with h | h | h | h | h | h | h | h <;> rw [h] <;> simp [bitsOf, byteBits]
  | c :: l, j => by
    show (byteBits c ++ bitsOf l).getD j false = _
    unfold bitAt
    by_cases h : j < 8
    · have e1 : j / 8 = 0 := by omega
      have e2 : j % 8 = j := by omega
      rw [e1, e2, List.getD_eq_getElem?_getD, List.getElem?_append_left (by rw [byteBits_length]; exact h)]
      simp
    · have e1 : j / 8 = (j - 8) / 8 + 1 := by omega
      have e2 : j % 8 = (j - 8) % 8 := by omega
      rw [e1, e2, List.getD_eq_getElem?_getD, List.getElem?_append_right (by rw [byteBits_length]; omega), byteBits_length, ← List.getD_eq_getElem?_getD, bitsOf_get l (j - 8)]
      simp [bitAt]
def xorByte (a b : Int) : Int := ((a.toNat ^^^ b.toNat : Nat) : Int)
theorem xorByte_ok {a b : Int} (ha : 0 ≤ a ∧ a ≤ 255) (hb : 0 ≤ b ∧ b ≤ 255) : 0 ≤ xorByte a b ∧ xorByte a b ≤ 255 := by
  have : a.toNat ^^^ b.toNat < 2 ^ 8 := Nat.xor_lt_two_pow (by omega) (by omega)
  unfold xorByte
  omega
theorem byteBits_xor (a b : Int) : byteBits (xorByte a b) = xorL (byteBits a) (byteBits b) := by
  have : (xorByte a b).toNat = a.toNat ^^^ b.toNat := by unfold xorByte; omega
  simp only [byteBits, this, Nat.testBit_xor]
  rfl

/-! ### a sum's bytes -/
def fourB (v : R32) : List Int := [(v.toNat / 2 ^ 24 : Nat), (v.toNat / 2 ^ 16 % 2 ^ 8 : Nat), (v.toNat / 2 ^ 8 % 2 ^ 8 : Nat), (v.toNat % 2 ^ 8 : Nat)]
theorem fourB_ok (v : R32) : okB (fourB v) := by
  have := v.isLt
  intro x hx
  simp only [fourB, List.mem_cons, List.not_mem_nil, or_false] at hx
  omega
theorem pack_get : ∀ (e : List Bool) (i : Nat), e.length ≤ 32 → i < 32 → (pack e).getLsbD i = e.getD (31 - i) false
  | [], i, _, _ => by simp [pack]
  | b :: e, i, he, hi => by
    have he' : e.length ≤ 31 := by simpa using he
    unfold pack
    rw [BitVec.getLsbD_xor, BitVec.getLsbD_ushiftRight]
    by_cases h : i = 31
    · subst h
      have h32 : (pack e).getLsbD (1 + 31) = false := BitVec.getLsbD_of_ge _ _ (by omega)
      rw [h32]
      cases b <;> simp [inB]
    · rw [Nat.add_comm 1 i, pack_get e (i + 1) (by omega) (by omega)]
      have h1 : (inB b).getLsbD i = false := by
        cases b with
        | false => simp [inB]
        | true =>
          have : ∀ j : Fin 31, (0x80000000#32).getLsbD j.1 = false := by decide
          exact this ⟨i, by omega⟩
      have h2 : 31 - i = (31 - (i + 1)) + 1 := by omega
      rw [h1, h2]
      simp
theorem pack_inj {e f : List Bool} (he : e.length = 32) (hf : f.length = 32) (h : pack e = pack f) : e = f := by
  apply List.ext_getElem (by omega)
  intro i h1 h2
  have a := pack_get e (31 - i) (by omega) (by omega)
  have b := pack_get f (31 - i) (by omega) (by omega)
  rw [h, b] at a
  have e1 : 31 - (31 - i) = i := by omega
  rw [e1] at a
  simpa [List.getD_eq_getElem?_getD, h1, h2] using a.symm
theorem pack_four (v : R32) : pack (bitsOf (fourB v)) = v := by
  apply BitVec.eq_of_getLsbD_eq
  intro i hi
  rw [pack_get _ _ (by rw [bitsOf_length]; simp [fourB]) hi, bitsOf_get]
  have e : v.getLsbD i = v.toNat.testBit i := rfl
  rw [e]
  have : i = 0 ∨ i = 1 ∨ i = 2 ∨ i = 3 ∨ i = 4 ∨ i = 5 ∨ i = 6 ∨ i = 7 ∨ i = 8 ∨ i = 9 ∨ i = 10 ∨ i = 11 ∨ i = 12 ∨ i = 13 ∨ i = 14 ∨ i = 15 ∨ i = 16 ∨ i = 17 ∨ i = 18 ∨ i = 19 ∨ i = 20 ∨ i = 21 ∨ i = 22 ∨ i = 23 ∨ i = 24 ∨ i = 25 ∨ i = 26 ∨ i = 27 ∨ i = 28 ∨ i = 29 ∨ i = 30 ∨ i = 31 := by omega
  rcases this with rfl | rfl | rfl | rfl | rfl | rfl | rfl | rfl | rfl | rfl | rfl | rfl | rfl | rfl | rfl | rfl | rfl | rfl | rfl | rfl | rfl | rfl | rfl | rfl | rfl | rfl | rfl | rfl | rfl | rfl | rfl | rfl <;> simp only [bitAt, fourB, byteBits, Int.toNat_natCast, Nat.testBit_mod_two_pow, Nat.testBit_div_two_pow, Nat.reduceSub, Nat.reduceDiv, Nat.reduceMod, Nat.reduceAdd, Nat.reduceLT, decide_true, Bool.true_and, List.getD_cons_succ, List.getD_cons_zero]
theorem four_pack {t : List Int} (ho : okB t) (ht : t.length = 4) : fourB (pack (bitsOf t)) = t := by
  apply bitsOf_inj (fourB_ok _) ho
  exact pack_inj (by rw [bitsOf_length]; rfl) (by rw [bitsOf_length, ht]) (pack_four _)

/-! ### the answers -/
def cAll : R32 := 0xffffffff#32
def cRoll (r : R32) (l : List Int) : R32 := rollB r (bitsOf l)
def cSumV (l : List Int) : R32 := cRoll cAll l ^^^ cAll
def cSum (l : List Int) : Int := ((cSumV l).toNat : Nat)
def cMore (s : Int) (l : List Int) : Int := ((cRoll (BitVec.ofInt 32 s ^^^ cAll) l ^^^ cAll).toNat : Nat)
def cSeal (l : List Int) : List Int := l ++ fourB (cSumV l)
def cOpen (l : List Int) : List Int × Bool := if 4 ≤ l.length ∧ l.drop (l.length - 4) = fourB (cSumV (l.take (l.length - 4))) then (l.take (l.length - 4), true) else ([], false)

theorem cRoll_append (r : R32) (l m : List Int) : cRoll r (l ++ m) = cRoll (cRoll r l) m := by unfold cRoll; rw [bitsOf_append, rollB_append]
theorem all_all (r : R32) : (r ^^^ cAll) ^^^ cAll = r := by rw [BitVec.xor_assoc]; simp
theorem ofInt_toNat (v : R32) : BitVec.ofInt 32 ((v.toNat : Nat) : Int) = v := by simp
theorem cMore_sum (a b : List Int) : cMore (cSum a) b = cSum (a ++ b) := by
  unfold cMore cSum
  rw [ofInt_toNat]
  unfold cSumV
  rw [all_all, cRoll_append]
theorem cMore_more (s : Int) (a b : List Int) : cMore (cMore s a) b = cMore s (a ++ b) := by
  unfold cMore
  rw [ofInt_toNat, all_all, cRoll_append]
theorem cMore_nil {s : Int} (h0 : 0 ≤ s) (h1 : s < 4294967296) : cMore s [] = s := by
  unfold cMore
  show (((BitVec.ofInt 32 s ^^^ cAll) ^^^ cAll).toNat : Int) = s
  rw [all_all, BitVec.toNat_ofInt]
  omega
theorem cMore_zero (a : List Int) : cMore 0 a = cSum a := by
  unfold cMore cSum cSumV
  have : BitVec.ofInt 32 0 ^^^ cAll = cAll := by decide
  rw [this]
theorem cSum_ok (l : List Int) : 0 ≤ cSum l ∧ cSum l < 4294967296 := by
  have := (cSumV l).isLt
  unfold cSum
  omega
theorem cMore_ok (s : Int) (l : List Int) : 0 ≤ cMore s l ∧ cMore s l < 4294967296 := by
  have := (cRoll (BitVec.ofInt 32 s ^^^ cAll) l ^^^ cAll).isLt
  unfold cMore
  omega
theorem cSum_inj {a b : List Int} : cSum a = cSum b ↔ cRoll cAll a = cRoll cAll b := by
  constructor
  · intro h
    unfold cSum at h
    have h2 : cSumV a = cSumV b := BitVec.eq_of_toNat_eq (by omega)
    unfold cSumV at h2
    rw [← all_all (cRoll cAll a), h2, all_all]
  · intro h
    unfold cSum cSumV
    rw [h]
/-- What the register is behind sealed bytes. -/
def cRes : R32 := rollB cAll (zerosB 32)
theorem okSplit {l : List Int} (h : 4 ≤ l.length) : l = l.take (l.length - 4) ++ l.drop (l.length - 4) := (List.take_append_drop _ _).symm
theorem open_iff {l : List Int} (ho : okB l) (h : 4 ≤ l.length) : (l.drop (l.length - 4) = fourB (cSumV (l.take (l.length - 4)))) ↔ cRoll cAll l = cRes := by
  generalize ha : l.take (l.length - 4) = a
  generalize ht : l.drop (l.length - 4) = t
  have hl : l = a ++ t := by rw [← ha, ← ht]; exact okSplit h
  have htl : t.length = 4 := by rw [← ht]; simp; omega
  have hto : okB t := by rw [← ht]; exact okB_drop ho _
  rw [hl, cRoll_append]
  have h1 := roll_at_once (cRoll cAll a) (bitsOf t) (by rw [bitsOf_length, htl])
  show _ ↔ rollB (cRoll cAll a) (bitsOf t) = cRes
  rw [h1]
  unfold cRes
  constructor
  · intro e
    rw [e, pack_four]
    congr 1
    unfold cSumV
    rw [← BitVec.xor_assoc]
    simp
  · intro e
    have e2 := rollB_inj _ e
    have e3 : pack (bitsOf t) = cSumV a := by
      have g : cRoll cAll a ^^^ (cRoll cAll a ^^^ pack (bitsOf t)) = pack (bitsOf t) := by rw [← BitVec.xor_assoc, BitVec.xor_self, BitVec.zero_xor]
      rw [e2] at g
      exact g.symm
    rw [← e3, four_pack hto htl]
theorem cOpen_iff {l : List Int} (ho : okB l) : (cOpen l).2 = true ↔ 4 ≤ l.length ∧ cRoll cAll l = cRes := by
  unfold cOpen
  by_cases h : 4 ≤ l.length
  · by_cases h2 : l.drop (l.length - 4) = fourB (cSumV (l.take (l.length - 4)))
    · rw [if_pos ⟨h, h2⟩]
      exact ⟨fun _ => ⟨h, (open_iff ho h).1 h2⟩, fun _ => rfl⟩
    · rw [if_neg (fun g => h2 g.2)]
      exact ⟨fun g => by simp at g, fun g => absurd ((open_iff ho h).2 g.2) h2⟩
  · rw [if_neg (fun g => h g.1)]
    exact ⟨fun g => by simp at g, fun g => absurd g.1 h⟩
theorem cSeal_length (l : List Int) : (cSeal l).length = l.length + 4 := by simp [cSeal, fourB]
theorem cSeal_ok {l : List Int} (h : okB l) : okB (cSeal l) := okB_append h (fourB_ok _)
theorem cOpen_seal (l : List Int) : cOpen (cSeal l) = (l, true) := by
  unfold cOpen
  have hl := cSeal_length l
  have e : (cSeal l).length - 4 = l.length := by omega
  rw [e]
  have h1 : (cSeal l).take l.length = l := by simp [cSeal]
  have h2 : (cSeal l).drop l.length = fourB (cSumV l) := by simp [cSeal]
  rw [h1, h2, if_pos ⟨by omega, rfl⟩]
theorem cSeal_open {l : List Int} (h : (cOpen l).2 = true) : 4 ≤ l.length ∧ (cOpen l).1 = l.take (l.length - 4) ∧ cSeal (cOpen l).1 = l := by
  unfold cOpen at h ⊢
  split
  · rename_i h2
    refine ⟨h2.1, rfl, ?_⟩
    show l.take (l.length - 4) ++ fourB (cSumV (l.take (l.length - 4))) = l
    rw [← h2.2]
    exact List.take_append_drop _ _
  · rename_i h2
    rw [if_neg h2] at h
    simp at h
theorem cOpen_no {l : List Int} (h : (cOpen l).2 = false) : cOpen l = ([], false) := by
  unfold cOpen at h ⊢
  split
  · rename_i h2; rw [if_pos h2] at h; simp at h
  · rfl

/-! ### bits within 32 in a row -/
/-- Of as many bytes, the same bits but for 32 in a row from a place on. -/
def BurstAt (p : Nat) (x b : List Int) : Prop := x.length = b.length ∧ ∀ j, (j < p ∨ p + 32 ≤ j) → bitAt x j = bitAt b j
theorem BurstAt.refl (p : Nat) (b : List Int) : BurstAt p b b := ⟨rfl, fun _ _ => rfl⟩
theorem xorL_get (l m : List Bool) (j : Nat) (h : l.length = m.length) : (xorL l m).getD j false = (l.getD j false ^^ m.getD j false) := by
  induction l generalizing m j with
  | nil =>
    cases m with
    | nil => simp [xorL]
    | cons b m => simp at h
  | cons a l ih =>
    cases m with
    | nil => simp at h
    | cons b m =>
      cases j with
      | zero => rfl
      | succ j =>
        have := ih m j (by simpa using h)
        simpa [xorL] using this
theorem all_false {d : List Bool} (h : ∀ j, d.getD j false = false) : d = zerosB d.length := by
  apply List.ext_getElem (by simp [zerosB])
  intro i h1 h2
  have := h i
  simpa [zerosB, List.getD_eq_getElem?_getD, h1] using this
theorem burst_roll {p : Nat} {x b : List Int} (h : BurstAt p x b) (hx : okB x) (hb : okB b) {r : R32} (e : cRoll r x = cRoll r b) : x = b := by
  obtain ⟨hl, hd⟩ := h
  have hbl : (bitsOf x).length = (bitsOf b).length := by rw [bitsOf_length, bitsOf_length, hl]
  generalize hdd : xorL (bitsOf x) (bitsOf b) = d at *
  have hdl : d.length = (bitsOf x).length := by rw [← hdd]; exact xorL_length _ _ hbl
  have hg : ∀ j, (j < p ∨ p + 32 ≤ j) → d.getD j false = false := fun j hj => by
    rw [← hdd, xorL_get _ _ _ hbl, bitsOf_get, bitsOf_get, hd j hj]
    simp
  have h0 : rollB 0#32 d = 0#32 := by
    have := rollB_xor (bitsOf x) (bitsOf b) r r hbl
    rw [hdd] at this
    have e1 : r ^^^ r = 0#32 := by simp
    unfold cRoll at e
    rw [e1, e] at this
    simpa using this
  have s1 : d.take p = zerosB (d.take p).length := all_false fun j => by
    by_cases hj : j < p
    · have := hg j (.inl hj)
      rw [List.getD_eq_getElem?_getD] at this ⊢
      rw [List.getElem?_take, if_pos hj]
      exact this
    · rw [List.getD_eq_getElem?_getD, List.getElem?_take, if_neg hj]
      rfl
  have s2 : (d.drop p).drop 32 = zerosB ((d.drop p).drop 32).length := all_false fun j => by
    have := hg (p + 32 + j) (.inr (by omega))
    rw [List.getD_eq_getElem?_getD] at this ⊢
    rw [List.drop_drop, List.getElem?_drop]
    exact this
  have hdec : d = d.take p ++ (d.drop p).take 32 ++ (d.drop p).drop 32 := by rw [List.append_assoc, List.take_append_drop, List.take_append_drop]
  have h1 : rollB 0#32 (zerosB (d.take p).length ++ (d.drop p).take 32 ++ zerosB ((d.drop p).drop 32).length) = 0#32 := by
    rw [← s1, ← s2, ← hdec]
    exact h0
  have h2 := roll_burst _ _ _ (by simp; omega) h1
  have h3 : d = zerosB d.length := by
    apply all_false
    intro j
    rw [hdec, s1, h2, s2]
    rw [List.getD_eq_getElem?_getD]
    simp only [zerosB, List.replicate_append_replicate, List.getElem?_replicate]
    split <;> rfl
  apply bitsOf_inj hx hb
  apply List.ext_getElem hbl
  intro i i1 i2
  have g1 : d.getD i false = false := by
    rw [h3, List.getD_eq_getElem?_getD]
    simp only [zerosB, List.getElem?_replicate]
    split <;> rfl
  rw [← hdd, xorL_get _ _ _ hbl] at g1
  simpa [List.getD_eq_getElem?_getD, i1, i2] using g1
theorem burst_open {p : Nat} {y s : List Int} (h : BurstAt p y s) (hy : okB y) (hs : okB s) (ho : (cOpen s).2 = true) : (cOpen y).2 = true ↔ y = s := by
  constructor
  · intro g
    have a := (cOpen_iff hy).1 g
    have b := (cOpen_iff hs).1 ho
    exact burst_roll h hy hs (a.2.trans b.2.symm)
  · intro g
    rw [g]
    exact ho
/-- Other bytes at four places in a row at most. -/
theorem burst_bytes {p : Nat} {x b : List Int} (hl : x.length = b.length) (h : ∀ i, (i < p ∨ p + 4 ≤ i) → x.getD i 0 = b.getD i 0) : BurstAt (8 * p) x b :=
  ⟨hl, fun j hj => by unfold bitAt; rw [h (j / 8) (by omega)]⟩

/-! ### one bit -/
def bitOf (k : Nat) : Int := ((128 >>> (k % 8) : Nat) : Int)
def flipBit (l : List Int) (k : Nat) : List Int := l.set (k / 8) (xorByte (l.getD (k / 8) 0) (bitOf k))
theorem flip_length (l : List Int) (k : Nat) : (flipBit l k).length = l.length := by simp [flipBit]
theorem bitOf_ok (k : Nat) : 0 ≤ bitOf k ∧ bitOf k ≤ 255 := by
  have h8 : 128 >>> (k % 8) ≤ 255 := by rw [Nat.shiftRight_eq_div_pow]; exact Nat.le_trans (Nat.div_le_self _ _) (by omega)
  unfold bitOf
  exact ⟨Int.natCast_nonneg _, Int.ofNat_le.2 h8⟩
theorem flip_ok {l : List Int} (h : okB l) (k : Nat) : okB (flipBit l k) := by
  intro x hx
  unfold flipBit at hx
  rcases List.mem_or_eq_of_mem_set hx with hx | rfl
  · exact h x hx
  · refine xorByte_ok ?_ (bitOf_ok k)
    by_cases hk : k / 8 < l.length
    · rw [List.getD_eq_getElem?_getD, List.getElem?_eq_getElem hk]
      exact h _ (List.getElem_mem hk)
    · rw [List.getD_eq_getElem?_getD, List.getElem?_eq_none (by omega)]
      simp
theorem bitOf_bits (k j : Nat) : (byteBits (bitOf k)).getD (j % 8) false = decide (j % 8 = k % 8) := by
  have : ∀ a b : Fin 8, (byteBits (((128 >>> a.1 : Nat) : Int))).getD b.1 false = decide (b.1 = a.1) := by decide
  exact this ⟨k % 8, by omega⟩ ⟨j % 8, by omega⟩
theorem flip_bits (l : List Int) (k j : Nat) (hk : k < 8 * l.length) : bitAt (flipBit l k) j = (bitAt l j ^^ decide (j = k)) := by
  unfold bitAt flipBit
  by_cases h : j / 8 = k / 8
  · rw [h, List.getD_eq_getElem?_getD (l := l.set _ _), List.getElem?_set_self (by omega)]
    simp only [Option.getD_some]
    rw [byteBits_xor, xorL_get (byteBits _) (byteBits _) _ (by rw [byteBits_length, byteBits_length]), bitOf_bits]
    congr 1
    apply decide_eq_decide.2
    omega
  · rw [List.getD_eq_getElem?_getD (l := l.set _ _), List.getElem?_set_ne (by omega), ← List.getD_eq_getElem?_getD]
    have : ¬ j = k := fun e => h (by rw [e])
    simp [this]
/-- Of 32 bits from a place on, those of a mask. -/
def turnF : Nat → List Int → Nat → Nat → Nat → List Int
  | 0, l, _, _, _ => l
  | f + 1, l, p, i, m => turnF f (if p + i < 8 * l.length ∧ m % 2 = 1 then flipBit l (p + i) else l) p (i + 1) (m / 2)
def turn (l : List Int) (p m : Nat) : List Int := turnF 32 l p 0 m
theorem turnF_burst : ∀ (f : Nat) (l b : List Int) (p i m : Nat), f + i = 32 → BurstAt p l b → okB l → BurstAt p (turnF f l p i m) b ∧ okB (turnF f l p i m)
  | 0, _, _, _, _, _, _, h, ho => ⟨h, ho⟩
  | f + 1, l, b, p, i, m, hf, h, ho => by
    unfold turnF
    split
    · rename_i hc
      refine turnF_burst f _ b p (i + 1) (m / 2) (by omega) ⟨by rw [flip_length]; exact h.1, fun j hj => ?_⟩ (flip_ok ho _)
      rw [flip_bits _ _ _ hc.1, h.2 j hj]
      have : ¬ j = p + i := by omega
      simp [this]
    · exact turnF_burst f l b p (i + 1) (m / 2) (by omega) h ho
theorem turn_burst (l : List Int) (p m : Nat) (h : okB l) : BurstAt p (turn l p m) l ∧ okB (turn l p m) := turnF_burst 32 l l p 0 m rfl (BurstAt.refl p l) h

/-- One bit makes the same difference, whatever the bytes are. -/
theorem one_bit {a b : List Int} (h : a.length = b.length) (k : Nat) (hk : k < 8 * a.length) : cSumV (flipBit a k) ^^^ cSumV a = cSumV (flipBit b k) ^^^ cSumV b := by
  have key : ∀ l : List Int, k < 8 * l.length → cSumV (flipBit l k) ^^^ cSumV l = rollB 0#32 ((List.range (8 * l.length)).map fun j => decide (j = k)) := by
    intro l hl
    have hlen : (bitsOf (flipBit l k)).length = (bitsOf l).length := by rw [bitsOf_length, bitsOf_length, flip_length]
    have e : xorL (bitsOf (flipBit l k)) (bitsOf l) = (List.range (8 * l.length)).map fun j => decide (j = k) := by
      apply List.ext_getElem
      · rw [xorL_length _ _ hlen, bitsOf_length, flip_length]; simp
      · intro i i1 i2
        have g := xorL_get (bitsOf (flipBit l k)) (bitsOf l) i hlen
        rw [bitsOf_get, bitsOf_get, flip_bits _ _ _ hl] at g
        rw [List.getD_eq_getElem?_getD, List.getElem?_eq_getElem i1] at g
        simp only [Option.getD_some] at g
        rw [g]
        simp
        cases bitAt l i <;> simp
    have h2 := rollB_xor (bitsOf (flipBit l k)) (bitsOf l) cAll cAll hlen
    rw [e] at h2
    have e0 : cAll ^^^ cAll = 0#32 := by simp
    rw [e0] at h2
    rw [h2]
    unfold cSumV cRoll
    rw [show (rollB cAll (bitsOf (flipBit l k)) ^^^ cAll) ^^^ (rollB cAll (bitsOf l) ^^^ cAll) = (rollB cAll (bitsOf (flipBit l k)) ^^^ rollB cAll (bitsOf l)) ^^^ (cAll ^^^ cAll) by ac_rfl]
    simp
  rw [key a hk, key b (by omega), h]
theorem flip_other {l : List Int} (h : okB l) (k : Nat) (hk : k < 8 * l.length) : cSum (flipBit l k) ≠ cSum l := by
  intro e
  have hb : BurstAt k (flipBit l k) l := ⟨flip_length _ _, fun j hj => by
    rw [flip_bits _ _ _ hk]
    have : ¬ j = k := by omega
    simp [this]⟩
  have := burst_roll hb (flip_ok h k) h (cSum_inj.1 e)
  have g := flip_bits l k k hk
  rw [this] at g
  cases hx : bitAt l k <;> rw [hx] at g <;> simp at g

end Moor
