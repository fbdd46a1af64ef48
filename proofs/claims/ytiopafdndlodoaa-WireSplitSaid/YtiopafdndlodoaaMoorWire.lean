import Derived.Test.YtiopafdndlodoaaMoorRecG
set_option linter.unusedVariables false
set_option linter.unusedSimpArgs false
/-! Plain laws of the wire (layer 19): what is asked, and answered, as bytes; no program in sight. -/
namespace Moor

structure Rq where
  kind : Int
  sub : Int
  addr : Int
  blk : Int
  n : Int
  q : Int
  i : Int
  h : Int
  pair : Bool
deriving DecidableEq
structure Aw where
  e : Int
  a : Int
  b : Int
deriving DecidableEq
abbrev r0 : Rq := ⟨0, 0, 0, 0, 0, 0, 0, 0, false⟩
abbrev a0W : Aw := ⟨0, 0, 0⟩
def numsW (r : Rq) : List Int :=
  if r.kind = 0 then [r.sub] else if r.kind = 1 ∨ r.kind = 2 then [r.sub, r.addr, r.blk] else if r.kind = 3 ∨ r.kind = 5 ∨ r.kind = 7 then [r.n]
  else if r.kind = 4 ∨ r.kind = 6 then [r.addr, r.n] else if r.kind = 9 then [r.addr, r.blk, r.n] else [r.q, r.i, r.h, if r.pair = true then 1 else 0]
def kindW (k : Int) : Prop := 0 ≤ k ∧ k < 10
instance (k : Int) : Decidable (kindW k) := by unfold kindW; infer_instance
def plainW (r : Rq) : Rq :=
  if r.kind = 0 then ⟨0, r.sub, 0, 0, 0, 0, 0, 0, false⟩ else if r.kind = 1 ∨ r.kind = 2 then ⟨r.kind, r.sub, r.addr, r.blk, 0, 0, 0, 0, false⟩ else if r.kind = 3 ∨ r.kind = 5 ∨ r.kind = 7 then ⟨r.kind, 0, 0, 0, r.n, 0, 0, 0, false⟩
  else if r.kind = 4 ∨ r.kind = 6 then ⟨r.kind, 0, r.addr, 0, r.n, 0, 0, 0, false⟩ else if r.kind = 9 then ⟨9, 0, r.addr, r.blk, r.n, 0, 0, 0, false⟩ else ⟨r.kind, 0, 0, 0, 0, r.q, r.i, r.h, r.pair⟩
/-- What numbers ask, of a kind. -/
def madeW (k : Int) (l : List Int) : Option Rq :=
  if k = 0 then (match l with
    | [s] => some ⟨k, s, 0, 0, 0, 0, 0, 0, false⟩
    | _ => none)
  else if k = 1 ∨ k = 2 then (match l with
    | [s, a, b] => some ⟨k, s, a, b, 0, 0, 0, 0, false⟩
    | _ => none)
  else if k = 3 ∨ k = 5 ∨ k = 7 then (match l with
    | [n] => some ⟨k, 0, 0, 0, n, 0, 0, 0, false⟩
    | _ => none)
  else if k = 4 ∨ k = 6 then (match l with
    | [a, n] => some ⟨k, 0, a, 0, n, 0, 0, 0, false⟩
    | _ => none)
  else if k = 9 then (match l with
    | [a, b, n] => some ⟨k, 0, a, b, n, 0, 0, 0, false⟩
    | _ => none)
  else (match l with
    | [q, i, h, p] => if p > 1 then none else some ⟨k, 0, 0, 0, 0, q, i, h, p == 1⟩
    | _ => none)
def putW (k : Int) (l : List Int) : List Int × Bool := if (vAll l).2 = true then rPut ⟨k, (vAll l).1⟩ else ([], false)
def wPut (r : Rq) : List Int × Bool := if kindW r.kind ∧ plainW r = r then putW r.kind (numsW r) else ([], false)
def getW (b : List Int) : Int × List Int × Int :=
  if (rGet b 0).2.2 ≠ 0 then (-1, [], (rGet b 0).2.2) else if (vRead (rGet b 0).1.body).2 = false ∨ (rGet b 0).2.1 ≠ b.length then (-1, [], 2) else ((rGet b 0).1.kind, (vRead (rGet b 0).1.body).1, 0)
def wRead (b : List Int) : Rq × Int :=
  if (getW b).2.2 ≠ 0 then (r0, (getW b).2.2) else if kindW (getW b).1 then (match madeW (getW b).1 (getW b).2.1 with
    | some r => (r, 0)
    | none => (r0, 2)) else (r0, 2)
def errW (e : Int) : Prop := 0 ≤ e ∧ e ≤ 12
instance (k : Int) : Decidable (errW k) := by unfold errW; infer_instance
def wTell (a : Aw) : List Int × Bool := if errW a.e then putW a.e [a.a, a.b] else ([], false)
def wHear (b : List Int) : Aw × Int :=
  if (getW b).2.2 ≠ 0 then (a0W, (getW b).2.2) else if errW (getW b).1 then (match (getW b).2.1 with
    | [x, y] => (⟨(getW b).1, x, y⟩, 0)
    | _ => (a0W, 2)) else (a0W, 2)
def splitF : Nat → List Int → List (List Int) × List Int
  | 0, b => ([], b)
  | f + 1, b => if (rGet b 0).2.2 = 0 then (b.take (rGet b 0).2.1.toNat :: (splitF f (b.drop (rGet b 0).2.1.toNat)).1, (splitF f (b.drop (rGet b 0).2.1.toNat)).2) else ([], b)
def wSplit (b : List Int) : List (List Int) × List Int := splitF (b.length + 1) b

theorem numsW_len (r : Rq) : 1 ≤ (numsW r).length ∧ (numsW r).length ≤ 4 := by
  unfold numsW
  repeat' split
  all_goals simp
/-- What may be put has a body. -/
theorem putW_cases (k : Int) (l : List Int) (hl : l.length ≤ 400) : (∃ b, putW k l = (recBytes ⟨k, b⟩, true) ∧ recMay ⟨k, b⟩ ∧ b = l.flatMap put ∧ ∀ x ∈ l, mayN x) ∨ putW k l = ([], false) := by
  unfold putW
  by_cases h : l.length ≤ 400 ∧ ∀ x ∈ l, mayN x
  · rw [vAll_pos h, if_pos rfl]
    simp only
    by_cases hm : recMay ⟨k, l.flatMap put⟩
    · rw [rPut_pos hm]
      exact .inl ⟨_, rfl, hm, rfl, h.2⟩
    · rw [rPut_neg hm]
      exact .inr rfl
  · rw [vAll_neg h, if_neg (by simp)]
    exact .inr rfl
theorem rGet_whole {r : Rc} (h : recMay r) : rGet (recBytes r) 0 = (r, ((recBytes r).length : Int), 0) := by
  have q := rGet_put h [] []
  simpa using q
theorem getW_put {k : Int} {l : List Int} (hl : l.length ≤ 400) (h : (putW k l).2 = true) : getW (putW k l).1 = (k, l, 0) := by
  rcases putW_cases k l hl with ⟨b, h1, h2, h3, h4⟩ | g
  · rw [h1]
    unfold getW
    simp only
    rw [rGet_whole h2]
    simp only
    have hv : vRead b = (l, true) := by rw [h3]; exact vRead_pos (read_all h4) hl
    rw [hv]
    simp
  · rw [g] at h; cases h
theorem getW_cases (b : List Int) (ho : okB b) : ((getW b).2.2 = 0 ∧ (getW b).2.1.length ≤ 400 ∧ (∀ x ∈ (getW b).2.1, mayN x) ∧ putW (getW b).1 (getW b).2.1 = (b, true)) ∨ ((getW b).2.2 ≠ 0 ∧ (getW b).1 = -1 ∧ (getW b).2.1 = []) := by
  unfold getW
  rcases rGet_cases b ho 0 with h | h
  · obtain ⟨g1, g2, g3, k, g4, g5, g6, g7⟩ := h
    rw [if_neg (by rw [g1]; simp)]
    by_cases hv : (vRead (rGet b 0).1.body).2 = false ∨ (rGet b 0).2.1 ≠ b.length
    · rw [if_pos hv]; exact .inr ⟨by decide, rfl, rfl⟩
    · rw [if_neg hv]
      left
      refine ⟨rfl, ?_⟩
      simp only
      have hk : k = b.length := by omega
      have hd : recBytes (rGet b 0).1 = b := by
        have q := g7
        simp only [Int.toNat_zero, List.drop_zero] at q
        rw [q, hk, List.take_length]
      have hbo : okB (rGet b 0).1.body := by
        have h1 : okB (recBytes (rGet b 0).1) := by rw [hd]; exact ho
        rw [recBytes_eq] at h1
        intro x hx
        exact h1 x (by simp [hx])
      have hvt : (vRead (rGet b 0).1.body).2 = true := by
        cases hq : (vRead (rGet b 0).1.body).2 with
        | true => rfl
        | false => exact absurd (.inl hq) hv
      by_cases hr : ∃ m, read (rGet b 0).1.body = some m ∧ m.length ≤ 400
      · obtain ⟨m, m1, m2⟩ := hr
        rw [vRead_pos m1 m2]
        obtain ⟨r1, r2, -, -⟩ := read_back hbo m1
        refine ⟨m2, r1, ?_⟩
        unfold putW
        simp only
        rw [vAll_pos ⟨m2, r1⟩, if_pos rfl]
        simp only
        rw [r2]
        show rPut (rGet b 0).1 = _
        rw [rPut_pos g3, hd]
      · rw [vRead_neg (fun m m1 m2 => hr ⟨m, m1, m2⟩)] at hvt
        cases hvt
  · rw [if_pos h.1]
    exact .inr ⟨h.1, rfl, rfl⟩
theorem made_nums (r : Rq) : madeW r.kind (numsW r) = some (plainW r) := by
  cases r with | mk k s a b n q i hh p =>
  unfold madeW numsW plainW
  simp only
  by_cases k0 : k = 0
  · subst k0; rfl
  · rw [if_neg k0, if_neg k0, if_neg k0]
    by_cases k1 : k = 1 ∨ k = 2
    · rw [if_pos k1, if_pos k1, if_pos k1]
    · rw [if_neg k1, if_neg k1, if_neg k1]
      by_cases k2 : k = 3 ∨ k = 5 ∨ k = 7
      · rw [if_pos k2, if_pos k2, if_pos k2]
      · rw [if_neg k2, if_neg k2, if_neg k2]
        by_cases k3 : k = 4 ∨ k = 6
        · rw [if_pos k3, if_pos k3, if_pos k3]
        · rw [if_neg k3, if_neg k3, if_neg k3]
          by_cases k4 : k = 9
          · subst k4; rfl
          · rw [if_neg k4, if_neg k4, if_neg k4]
            cases p <;> rfl
theorem plainW_made {r : Rq} (hk : kindW r.kind) (h : plainW r = r) : madeW r.kind (numsW r) = some r := by rw [made_nums, h]
theorem madeW_kind {k : Int} {l : List Int} {r : Rq} (h : madeW k l = some r) : r.kind = k := by
  unfold madeW at h
  repeat' split at h
  all_goals first
    | (cases h; done)
    | (cases h; rfl)
theorem madeW_plain {k : Int} {l : List Int} {r : Rq} (hk : kindW k) (hl : ∀ x ∈ l, mayN x) (h : madeW k l = some r) : plainW r = r ∧ numsW r = l := by
  unfold kindW at hk
  unfold madeW at h
  by_cases k0 : k = 0
  · subst k0
    rw [if_pos rfl] at h
    match l, h with
    | [s], h => cases h; exact ⟨rfl, rfl⟩
  · rw [if_neg k0] at h
    by_cases k1 : k = 1 ∨ k = 2
    · rw [if_pos k1] at h
      match l, h with
      | [s, a, b], h => cases h; exact ⟨by unfold plainW; simp only; rw [if_neg k0, if_pos k1], by unfold numsW; simp only; rw [if_neg k0, if_pos k1]⟩
    · rw [if_neg k1] at h
      by_cases k2 : k = 3 ∨ k = 5 ∨ k = 7
      · rw [if_pos k2] at h
        match l, h with
        | [n], h => cases h; exact ⟨by unfold plainW; simp only; rw [if_neg k0, if_neg k1, if_pos k2], by unfold numsW; simp only; rw [if_neg k0, if_neg k1, if_pos k2]⟩
      · rw [if_neg k2] at h
        by_cases k3 : k = 4 ∨ k = 6
        · rw [if_pos k3] at h
          match l, h with
          | [a, n], h => cases h; exact ⟨by unfold plainW; simp only; rw [if_neg k0, if_neg k1, if_neg k2, if_pos k3], by unfold numsW; simp only; rw [if_neg k0, if_neg k1, if_neg k2, if_pos k3]⟩
        · rw [if_neg k3] at h
          by_cases k4 : k = 9
          · rw [if_pos k4] at h
            match l, h with
            | [a, b, n], h => cases h; exact ⟨by unfold plainW; simp only; rw [if_neg k0, if_neg k1, if_neg k2, if_neg k3, if_pos k4, k4], by unfold numsW; simp only; rw [if_neg k0, if_neg k1, if_neg k2, if_neg k3, if_pos k4]⟩
          · rw [if_neg k4] at h
            match l, h with
            | [q, i, hh, p], h =>
              simp only at h
              by_cases hp : p > 1
              · rw [if_pos hp] at h; cases h
              · rw [if_neg hp] at h
                cases h
                have hp0 : mayN p := hl p (by simp)
                unfold mayN at hp0
                refine ⟨by unfold plainW; simp only; rw [if_neg k0, if_neg k1, if_neg k2, if_neg k3, if_neg k4], ?_⟩
                unfold numsW
                simp only
                rw [if_neg k0, if_neg k1, if_neg k2, if_neg k3, if_neg k4]
                by_cases hp1 : p = 1
                · subst hp1; simp
                · have : p = 0 := by omega
                  subst this; simp
theorem wPut_cases (r : Rq) : (∃ b, wPut r = (recBytes ⟨r.kind, b⟩, true) ∧ recMay ⟨r.kind, b⟩ ∧ b = (numsW r).flatMap put ∧ (∀ x ∈ numsW r, mayN x) ∧ kindW r.kind ∧ plainW r = r) ∨ wPut r = ([], false) := by
  unfold wPut
  by_cases h : kindW r.kind ∧ plainW r = r
  · rw [if_pos h]
    rcases putW_cases r.kind (numsW r) (by have := numsW_len r; omega) with ⟨b, h1, h2, h3, h4⟩ | g
    · exact .inl ⟨b, h1, h2, h3, h4, h.1, h.2⟩
    · exact .inr g
  · rw [if_neg h]; exact .inr rfl
/-- WireBack: what is put is read. -/
theorem wRead_put {r : Rq} (h : (wPut r).2 = true) : wRead (wPut r).1 = (r, 0) := by
  unfold wPut at h ⊢
  by_cases hk : kindW r.kind ∧ plainW r = r
  · rw [if_pos hk] at h ⊢
    unfold wRead
    rw [getW_put (by have := numsW_len r; omega) h]
    simp only
    rw [if_neg (by simp), if_pos hk.1, plainW_made hk.1 hk.2]
  · rw [if_neg hk] at h; cases h
theorem wRead_cases (b : List Int) (ho : okB b) : ((wRead b).2 = 0 ∧ wPut (wRead b).1 = (b, true)) ∨ ((wRead b).2 ≠ 0 ∧ (wRead b).1 = r0) := by
  unfold wRead
  rcases getW_cases b ho with ⟨g1, g2, g3, g4⟩ | ⟨g1, g2, g3⟩
  · rw [if_neg (by rw [g1]; simp)]
    by_cases hk : kindW (getW b).1
    · rw [if_pos hk]
      cases hm : madeW (getW b).1 (getW b).2.1 with
      | none => exact .inr ⟨by simp, rfl⟩
      | some r =>
        left
        refine ⟨rfl, ?_⟩
        simp only
        have h1 := madeW_kind hm
        obtain ⟨h2, h3⟩ := madeW_plain hk g3 hm
        unfold wPut
        rw [h1, h3, if_pos ⟨hk, h2⟩, g4]
    · rw [if_neg hk]; exact .inr ⟨by simp, rfl⟩
  · rw [if_pos g1]
    exact .inr ⟨g1, rfl⟩
theorem wHear_tell {a : Aw} (h : (wTell a).2 = true) : wHear (wTell a).1 = (a, 0) := by
  unfold wTell at h ⊢
  by_cases hk : errW a.e
  · rw [if_pos hk] at h ⊢
    unfold wHear
    rw [getW_put (by simp) h]
    simp only
    rw [if_neg (by simp), if_pos hk]
  · rw [if_neg hk] at h; cases h
theorem wHear_cases (b : List Int) (ho : okB b) : ((wHear b).2 = 0 ∧ wTell (wHear b).1 = (b, true)) ∨ ((wHear b).2 ≠ 0 ∧ (wHear b).1 = a0W) := by
  unfold wHear
  rcases getW_cases b ho with ⟨g1, g2, g3, g4⟩ | ⟨g1, g2, g3⟩
  · rw [if_neg (by rw [g1]; simp)]
    by_cases hk : errW (getW b).1
    · rw [if_pos hk]
      generalize hq : (getW b).2.1 = l at *
      match l with
      | [] => exact .inr ⟨by simp, rfl⟩
      | [x] => exact .inr ⟨by simp, rfl⟩
      | [x, y] =>
        left
        refine ⟨rfl, ?_⟩
        simp only
        unfold wTell
        simp only
        rw [if_pos hk, g4]
      | x :: y :: z :: t => exact .inr ⟨by simp, rfl⟩
    · rw [if_neg hk]; exact .inr ⟨by simp, rfl⟩
  · rw [if_pos g1]
    exact .inr ⟨g1, rfl⟩
theorem wTell_cases (a : Aw) : (∃ b, wTell a = (recBytes ⟨a.e, b⟩, true) ∧ recMay ⟨a.e, b⟩ ∧ b = [a.a, a.b].flatMap put ∧ (∀ x ∈ [a.a, a.b], mayN x) ∧ errW a.e) ∨ wTell a = ([], false) := by
  unfold wTell
  by_cases h : errW a.e
  · rw [if_pos h]
    rcases putW_cases a.e [a.a, a.b] (by simp) with ⟨b, h1, h2, h3, h4⟩ | g
    · exact .inl ⟨b, h1, h2, h3, h4, h⟩
    · exact .inr g
  · rw [if_neg h]; exact .inr rfl
/-- WireKinds. -/
theorem wPut_inj {r s : Rq} (hr : (wPut r).2 = true) (hs : (wPut s).2 = true) : (wPut r).1 = (wPut s).1 ↔ r = s := by
  refine ⟨fun h => ?_, fun h => by rw [h]⟩
  have h1 := wRead_put hr
  rw [h, wRead_put hs] at h1
  exact (congrArg Prod.fst h1).symm
theorem wTell_inj {r s : Aw} (hr : (wTell r).2 = true) (hs : (wTell s).2 = true) : (wTell r).1 = (wTell s).1 ↔ r = s := by
  refine ⟨fun h => ?_, fun h => by rw [h]⟩
  have h1 := wHear_tell hr
  rw [h, wHear_tell hs] at h1
  exact (congrArg Prod.fst h1).symm
theorem recBytes_small {r : Rc} (h : recMay r) (hb : r.body.length < 128) : (recBytes r).length = 6 + r.body.length := by
  rw [recBytes_length, put_one (by omega) (by omega)]
theorem body_len {l : List Int} (h : l.length ≤ 4) : l.length ≤ (l.flatMap put).length ∧ (l.flatMap put).length ≤ 24 := by
  have h1 := flat_le l
  have h2 := flat_ge l
  omega
/-- WireLong. -/
theorem wPut_long (r : Rq) : okB (wPut r).1 ∧ ((wPut r).2 = true → 7 ≤ (wPut r).1.length) ∧ (wPut r).1.length ≤ 30 := by
  rcases wPut_cases r with ⟨b, h1, h2, h3, h4, h5, h6⟩ | g
  · rw [h1]
    have hn := numsW_len r
    have hb := body_len (l := numsW r) (by omega)
    rw [← h3] at hb
    have hl := recBytes_small h2 (by show b.length < 128; omega)
    simp only at hl ⊢
    refine ⟨?_, fun _ => by omega, by omega⟩
    have hob : okB b := by rw [h3]; exact okB_flat h4
    unfold kindW at h5
    rw [recBytes_eq]
    intro x hx
    simp only [List.mem_cons, List.mem_append] at hx
    have hm := mayN_len h2
    rcases hx with hx | hx | hx | hx
    · omega
    · exact put_ok hm x hx
    · exact hob x hx
    · exact fourB_ok _ x hx
  · rw [g]; exact ⟨okB_nil, fun h => by simp at h, by simp⟩
theorem wTell_long (a : Aw) : okB (wTell a).1 ∧ ((wTell a).2 = true → 8 ≤ (wTell a).1.length) ∧ (wTell a).1.length ≤ 18 := by
  rcases wTell_cases a with ⟨b, h1, h2, h3, h4, h5⟩ | g
  · rw [h1]
    have h6 := flat_le [a.a, a.b]
    have h7 := flat_ge [a.a, a.b]
    rw [← h3] at h6 h7
    simp only [List.length_cons, List.length_nil] at h6 h7
    have hl := recBytes_small h2 (by show b.length < 128; omega)
    simp only at hl ⊢
    refine ⟨?_, fun _ => by omega, by omega⟩
    have hob : okB b := by rw [h3]; exact okB_flat h4
    unfold errW at h5
    rw [recBytes_eq]
    intro x hx
    simp only [List.mem_cons, List.mem_append] at hx
    have hm := mayN_len h2
    rcases hx with hx | hx | hx | hx
    · omega
    · exact put_ok hm x hx
    · exact hob x hx
    · exact fourB_ok _ x hx
  · rw [g]; exact ⟨okB_nil, fun h => by simp at h, by simp⟩
theorem getW_err {b : List Int} {e : Int} (h : (rGet b 0).2.2 = e) (he : e ≠ 0) : (getW b).2.2 = e := by
  unfold getW
  rw [if_pos (by rw [h]; exact he)]
  exact h
theorem wRead_err {b : List Int} {e : Int} (h : (rGet b 0).2.2 = e) (he : e ≠ 0) : (wRead b).2 = e := by
  have h1 := getW_err h he
  unfold wRead
  rw [if_pos (by rw [h1]; exact he)]
  exact h1
/-- WireSpoiled. -/
theorem wRead_spoiled {r : Rq} (h : (wPut r).2 = true) {x : List Int} (hx : okB x) (hl : x.length = (wPut r).1.length) (at_ : Nat) (ha : 2 ≤ at_)
    (hs : ∀ i, (i < at_ ∨ at_ + 4 ≤ i) → x.getD i 0 = (wPut r).1.getD i 0) : x = (wPut r).1 ∨ (wRead x).2 = 3 := by
  have hob := (wPut_long r).1
  rcases wPut_cases r with ⟨b, h1, h2, h3, h4, h5, h6⟩ | g
  · rw [h1] at hl hs hob ⊢
    have hn := numsW_len r
    have hb := body_len (l := numsW r) (by omega)
    rw [← h3] at hb
    have hp1 : (put ((⟨r.kind, b⟩ : Rc).body.length : Int)).length = 1 := put_one (by omega) (by show (b.length : Int) < 128; omega)
    rcases rGet_spoiled h2 hx hob hl at_ (by rw [hp1]; omega) hs with g | g
    · exact .inl g
    · exact .inr (wRead_err g (by decide))
  · rw [g] at h; cases h
/-- WireCut: bytes behind. -/
theorem wRead_more {r : Rq} (h : (wPut r).2 = true) (m : List Int) : (wRead ((wPut r).1 ++ m)).2 = if m.length = 0 then 0 else 2 := by
  by_cases hm : m.length = 0
  · rw [if_pos hm, List.length_eq_zero_iff.1 hm, List.append_nil, wRead_put h]
  · rw [if_neg hm]
    rcases wPut_cases r with ⟨b, h1, h2, h3, h4, h5, h6⟩ | g
    · rw [h1]
      have q := rGet_put h2 [] m
      simp only [List.nil_append, List.length_nil, Nat.zero_add] at q
      have q' : rGet (recBytes ⟨r.kind, b⟩ ++ m) 0 = (⟨r.kind, b⟩, ((recBytes ⟨r.kind, b⟩).length : Int), 0) := q
      have hg : getW (recBytes ⟨r.kind, b⟩ ++ m) = (-1, [], 2) := by
        unfold getW
        rw [q']
        simp only
        rw [if_neg (by simp), if_pos]
        right
        rw [List.length_append]
        omega
      unfold wRead
      simp only
      rw [hg]
      simp
    · rw [g] at h; cases h
/-- WireCut: a beginning. -/
theorem wRead_cut {r : Rq} (h : (wPut r).2 = true) (k : Nat) (hk : k < (wPut r).1.length) : (wRead ((wPut r).1.take k)).2 = 4 := by
  rcases wPut_cases r with ⟨b, h1, h2, h3, h4, h5, h6⟩ | g
  · rw [h1] at hk ⊢
    have q := rGet_torn h2 [] hk
    simp only [List.nil_append, List.length_nil] at q
    have q' : rGet ((recBytes ⟨r.kind, b⟩).take k) 0 = (⟨0, []⟩, 0, 4) := q
    exact wRead_err (by rw [q']) (by decide)
  · rw [g] at h; cases h
/-! ### what comes one behind the other -/
theorem rGet_six {b : List Int} (ho : okB b) (h : (rGet b 0).2.2 = 0) : 6 ≤ (rGet b 0).2.1.toNat ∧ (rGet b 0).2.1.toNat ≤ b.length ∧ (rGet b 0).2.1 = ((rGet b 0).2.1.toNat : Int) := by
  rcases rGet_cases b ho 0 with g | g
  · obtain ⟨g1, g2, g3, k, g4, g5, g6, g7⟩ := g
    omega
  · exact absurd h g.1
theorem splitF_join : ∀ (f : Nat) (b : List Int), okB b → b.length < f → (splitF f b).1.flatten ++ (splitF f b).2 = b ∧ (rGet (splitF f b).2 0).2.2 ≠ 0
  | 0, b, ho, h => by omega
  | f + 1, b, ho, h => by
    unfold splitF
    by_cases hg : (rGet b 0).2.2 = 0
    · rw [if_pos hg]
      obtain ⟨h1, h2, h3⟩ := rGet_six ho hg
      have ih := splitF_join f (b.drop (rGet b 0).2.1.toNat) (okB_drop ho _) (by rw [List.length_drop]; omega)
      simp only [List.flatten_cons, List.append_assoc]
      rw [ih.1, List.take_append_drop]
      exact ⟨rfl, ih.2⟩
    · rw [if_neg hg]
      exact ⟨by simp, hg⟩
theorem wSplit_join {b : List Int} (ho : okB b) : (wSplit b).1.flatten ++ (wSplit b).2 = b := (splitF_join (b.length + 1) b ho (by omega)).1
theorem splitF_len : ∀ (f : Nat) (b : List Int), okB b → (splitF f b).1.length * 6 ≤ b.length ∧ okB (splitF f b).2 ∧ ∀ x ∈ (splitF f b).1, okB x
  | 0, b, ho => by
    unfold splitF
    exact ⟨by simp, ho, fun x hx => by cases hx⟩
  | f + 1, b, ho => by
    unfold splitF
    by_cases hg : (rGet b 0).2.2 = 0
    · rw [if_pos hg]
      obtain ⟨h1, h2, h3⟩ := rGet_six ho hg
      obtain ⟨i1, i2, i3⟩ := splitF_len f (b.drop (rGet b 0).2.1.toNat) (okB_drop ho _)
      rw [List.length_drop] at i1
      refine ⟨by simp only [List.length_cons]; omega, i2, fun x hx => ?_⟩
      rcases List.mem_cons.1 hx with rfl | hx
      · exact okB_take ho _
      · exact i3 x hx
    · rw [if_neg hg]
      exact ⟨by simp, ho, fun x hx => by cases hx⟩
theorem wSplit_len {b : List Int} (ho : okB b) : (wSplit b).1.length * 6 ≤ b.length ∧ okB (wSplit b).2 ∧ ∀ x ∈ (wSplit b).1, okB x := splitF_len _ b ho
theorem splitF_fuel : ∀ (f g : Nat) (b : List Int), okB b → b.length < f → b.length < g → splitF f b = splitF g b
  | 0, _, b, ho, hf, hg => by omega
  | f + 1, 0, b, ho, hf, hg => by omega
  | f + 1, g + 1, b, ho, hf, hg => by
    unfold splitF
    by_cases hz : (rGet b 0).2.2 = 0
    · obtain ⟨h1, h2, h3⟩ := rGet_six ho hz
      have hl : (b.drop (rGet b 0).2.1.toNat).length + 6 ≤ b.length := by rw [List.length_drop]; omega
      rw [if_pos hz, if_pos hz, splitF_fuel f g _ (okB_drop ho _) (by omega) (by omega)]
    · rw [if_neg hz, if_neg hz]
theorem wSplit_step {b : List Int} (ho : okB b) (h : (rGet b 0).2.2 = 0) : wSplit b = (b.take (rGet b 0).2.1.toNat :: (wSplit (b.drop (rGet b 0).2.1.toNat)).1, (wSplit (b.drop (rGet b 0).2.1.toNat)).2) := by
  obtain ⟨h1, h2, h3⟩ := rGet_six ho h
  have hl : (b.drop (rGet b 0).2.1.toNat).length + 6 ≤ b.length := by rw [List.length_drop]; omega
  unfold wSplit
  rw [splitF_fuel ((b.drop (rGet b 0).2.1.toNat).length + 1) b.length _ (okB_drop ho _) (by omega) (by omega)]
  conv => lhs; unfold splitF
  rw [if_pos h]
theorem wSplit_end {b : List Int} (h : (rGet b 0).2.2 ≠ 0) : wSplit b = ([], b) := by
  unfold wSplit splitF
  rw [if_neg h]
theorem splitF_recs : ∀ (l : List Rc) (f : Nat) (t : List Int), (∀ r ∈ l, recMay r) → (rGet t 0).2.2 ≠ 0 → l.length < f → splitF f (joinR l ++ t) = (l.map recBytes, t)
  | [], f + 1, t, hl, ht, hf => by
    show splitF (f + 1) t = ([], t)
    unfold splitF
    rw [if_neg ht]
  | r :: l, f + 1, t, hl, ht, hf => by
    have hr := hl r (by simp)
    have e1 : joinR (r :: l) ++ t = [] ++ recBytes r ++ (joinR l ++ t) := by simp [joinR]
    have q := rGet_put hr [] (joinR l ++ t)
    rw [← e1] at q
    simp only [List.length_nil, Nat.zero_add] at q
    have q' : rGet (joinR (r :: l) ++ t) 0 = (r, ((recBytes r).length : Int), 0) := q
    have e2 : joinR (r :: l) ++ t = recBytes r ++ (joinR l ++ t) := by rw [e1]; simp
    unfold splitF
    rw [q']
    simp only
    rw [if_pos trivial, Int.toNat_natCast, e2, List.take_left, List.drop_left, splitF_recs l f t (fun x hx => hl x (by simp [hx])) ht (by simpa using hf)]
    rfl
/-- WireSplit: what is put, one behind the other, and a beginning of another one. -/
theorem wSplit_torn (l : List Rq) (hl : ∀ r ∈ l, (wPut r).2 = true) {r : Rq} (hr : (wPut r).2 = true) {k : Nat} (hk : k < (wPut r).1.length) :
    wSplit (l.flatMap (fun x => (wPut x).1) ++ (wPut r).1.take k) = (l.map (fun x => (wPut x).1), (wPut r).1.take k) := by
  have hex : ∃ m : List Rc, (∀ x ∈ m, recMay x) ∧ m.map recBytes = l.map (fun x => (wPut x).1) := by
    clear hk
    induction l with
    | nil => exact ⟨[], fun x hx => (by cases hx), rfl⟩
    | cons q l ih =>
      obtain ⟨m, m1, m2⟩ := ih (fun x hx => hl x (by simp [hx]))
      rcases wPut_cases q with ⟨b, h1, h2, -⟩ | g
      · refine ⟨⟨q.kind, b⟩ :: m, fun x hx => ?_, ?_⟩
        · rcases List.mem_cons.1 hx with rfl | hx
          · exact h2
          · exact m1 x hx
        · rw [List.map_cons, List.map_cons, m2, h1]
      · have := hl q (by simp)
        rw [g] at this; cases this
  obtain ⟨m, m1, m2⟩ := hex
  have hj : l.flatMap (fun x => (wPut x).1) = joinR m := by
    unfold joinR
    rw [List.flatMap_def, List.flatMap_def, m2]
  have ht : (rGet ((wPut r).1.take k) 0).2.2 ≠ 0 := by
    rcases wPut_cases r with ⟨b, h1, h2, -⟩ | g
    · rw [h1] at hk ⊢
      have q := rGet_torn h2 [] hk
      simp only [List.nil_append, List.length_nil] at q
      have q' : rGet ((recBytes ⟨r.kind, b⟩).take k) 0 = (⟨0, []⟩, 0, 4) := q
      rw [q']
      decide
    · rw [g] at hr; cases hr
  have hlen := joinR_long m
  unfold wSplit
  rw [hj, splitF_recs m _ _ m1 ht (by rw [List.length_append]; omega), m2]
end Moor
