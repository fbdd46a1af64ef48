import Derived.Test.YtnicndnbloohhaaRecT
/-! Layer 5: contracts in the plain words. -/
namespace Go.Proofs.Ytnicndnbloohhaa.H
open Go.RowKit Moor Go.Proofs.YtnicndnbloohhaaW.PrintWords Go.Proofs.YtnicndnbloohhaaW.PrintLast Go.Proofs.YtnicndnbloohhaaW.PrintMore
set_option linter.unusedVariables false
set_option linter.unusedSimpArgs false

set_option maxRecDepth 100000 in
set_option maxHeartbeats 4000000 in
theorem recPut_no (kind : Int) (A : Option Addr) (c : Nat) (l : List Int) (w : World) (hm : ¬ recMay ⟨kind, l⟩) :
    Calls Try.prog 12 #[.agg #[.int .i64 kind, .slice A l.length c]] w fun e w' => e = .returned (.tuple #[.slice none 0 0, .bool false]) ∧ Below w.heap.size w w' := by
  by_cases n0 : kind < 0
  · clear hm
    go_enter Try.func12, Try.ntmps12
    go_wp2_with (fail)
    refine bodyPost_ret (results_tmp2 (fn := Try.f12) (t := 2) (u := 3) rfl _ _ _) rfl ?_
    exact ⟨rfl, below_alloc (Below.refl _ _) _⟩
  · by_cases n1 : 255 < kind
    · clear hm
      go_enter Try.func12, Try.ntmps12
      go_wp2_with (fail)
      refine bodyPost_ret (results_tmp2 (fn := Try.f12) (t := 2) (u := 3) rfl _ _ _) rfl ?_
      exact ⟨rfl, below_alloc (Below.refl _ _) _⟩
    · have n2 : (1000 : Int) < (l.length : Int) := by
        have : ¬ (0 ≤ kind ∧ kind ≤ 255 ∧ l.length ≤ 1000) := hm
        omega
      clear hm
      go_enter Try.func12, Try.ntmps12
      go_wp2_with (fail)
      refine bodyPost_ret (results_tmp2 (fn := Try.f12) (t := 2) (u := 3) rfl _ _ _) rfl ?_
      exact ⟨rfl, below_alloc (Below.refl _ _) _⟩
/-- A slice of bytes and a word whether it is one. -/
def PutEnd (r : List Int × Bool) (w : World) (e : Ending) (w' : World) : Prop := ∃ (A' : Option Addr) (c' : Nat), e = .returned (.tuple #[.slice A' r.1.length c', .bool r.2]) ∧ r.1.length ≤ c' ∧ Kd.C (Kd.int .u8) w' A' r.1.length r.1 ∧ Below w.heap.size w w'
theorem rput_calls (r : Rc) (A : Option Addr) (c : Nat) (w : World) (hR : Kd.C (Kd.int .u8) w A r.body.length r.body) (hc : r.body.length ≤ c) (ho : okB r.body) :
    Calls Try.prog 12 #[.agg #[.int .i64 r.kind, .slice A r.body.length c]] w (PutEnd (rPut r) w) := by
  by_cases hm : recMay r
  · rw [rPut_pos hm]
    refine (recPut_calls r.kind A c r.body w hR hc ho hm).mono ?_
    rintro e w' ⟨v, rfl, hR', hB⟩
    obtain ⟨A', c', rfl, hc', hC'⟩ := Kd.R_reads hR'
    exact ⟨A', c', rfl, hc', hC', hB⟩
  · rw [rPut_neg hm]
    refine (recPut_no r.kind A c r.body w hm).mono ?_
    rintro e w' ⟨rfl, hB⟩
    exact ⟨none, 0, rfl, Nat.le_refl _, Kd.C_nil _ _, hB⟩
theorem rPut_ok {r : Rc} (ho : okB r.body) : okB (rPut r).1 := by
  by_cases hm : recMay r
  · rw [rPut_pos hm]
    refine cSeal_ok ?_
    intro x hx
    rcases List.mem_cons.1 hx with e | hx
    · rw [e]; exact ⟨hm.1, hm.2.1⟩
    · rcases List.mem_append.1 hx with h | h
      · exact put_ok (mayN_len hm) x h
      · exact ho x h
  · rw [rPut_neg hm]
    intro x hx
    cases hx
theorem rPut_len (r : Rc) : (rPut r).1.length ≤ 1011 := by
  by_cases hm : recMay r
  · rw [rPut_pos hm]
    have := recBytes_length r
    have h2 := put_le (r.body.length : Int)
    have h3 := hm.2.2
    show (recBytes r).length ≤ 1011
    omega
  · rw [rPut_neg hm]
    simp

theorem rc_eq {r s : Rc} : (r = s) ↔ (r.kind = s.kind ∧ r.body = s.body) := by
  cases r; cases s
  simp
theorem same_tells (r s : Rc) (hr : okB r.body) (hs : okB s.body) : B.rec_Same.f r.kind r.body s.kind s.body = some (decide (r = s)) := by
  unfold B.rec_Same.f B.bytes_Equal.f
  by_cases h : r.kind = s.kind
  · rw [if_pos h, str_eq hr hs]
    simp only [Option.bind_some]
    congr 1
    apply decide_eq_decide.2
    rw [rc_eq]
    exact ⟨fun g => ⟨h, g⟩, fun g => g.2⟩
  · rw [if_neg h, decide_eq_false (fun e => h (by rw [e]))]
theorem refSame_tells (r s : Rc) (hr : okB r.body) (hs : okB s.body) : B.mooringsref05_Same.f r.kind r.body s.kind s.body = some (decide (r = s)) := by
  unfold B.mooringsref05_Same.f
  by_cases h : r.kind = s.kind
  · rw [if_pos h, str_eq hr hs]
    congr 1
    apply decide_eq_decide.2
    rw [rc_eq]
    exact ⟨fun g => ⟨h, g⟩, fun g => g.2⟩
  · rw [if_neg h, decide_eq_false (fun e => h (by rw [e]))]
theorem rsame_calls (r s : Rc) (b : Bool) (hb : decide (r = s) = b) (A : Option Addr) (c : Nat) (A' : Option Addr) (c' : Nat) (w : World) (hR : Kd.C (Kd.int .u8) w A r.body.length r.body) (hc : r.body.length ≤ c) (ho : okB r.body) (hR' : Kd.C (Kd.int .u8) w A' s.body.length s.body) (hc' : s.body.length ≤ c') (ho' : okB s.body) :
    Calls Try.prog 20 #[.agg #[.int .i64 r.kind, .slice A r.body.length c], .agg #[.int .i64 s.kind, .slice A' s.body.length c']] w fun e w' => e = .returned (.bool b) ∧ Below w.heap.size w w' :=
  B.rec_Same.calls r.kind A c r.body s.kind A' c' s.body b w hR hc hR' hc' (by rw [same_tells r s ho ho', hb])
theorem refSame_calls (r s : Rc) (b : Bool) (hb : decide (r = s) = b) (A : Option Addr) (c : Nat) (A' : Option Addr) (c' : Nat) (w : World) (hR : Kd.C (Kd.int .u8) w A r.body.length r.body) (hc : r.body.length ≤ c) (ho : okB r.body) (hR' : Kd.C (Kd.int .u8) w A' s.body.length s.body) (hc' : s.body.length ≤ c') (ho' : okB s.body) :
    Calls Try.prog 18 #[.agg #[.int .i64 r.kind, .slice A r.body.length c], .agg #[.int .i64 s.kind, .slice A' s.body.length c']] w fun e w' => e = .returned (.bool b) ∧ Below w.heap.size w w' :=
  B.mooringsref05_Same.calls r.kind A c r.body s.kind A' c' s.body b w hR hc hR' hc' (by rw [refSame_tells r s ho ho', hb])
theorem rdS (l : List Rc) (k : Nat) (h : k < l.length) : B.rd_T24 (l.map toS) (k : Int) = toS l[k] := by
  unfold B.rd_T24
  simp [List.getD_eq_getElem?_getD, h]
theorem lists_loop (x y : List Rc) (hx : ∀ r ∈ x, okB r.body) (hy : ∀ r ∈ y, okB r.body) (hl : x.length = y.length) (hb : x.length ≤ 4611686018427387904) (d : Nat) : ∀ (k i : Nat), i + d = x.length → d < k →
    B.mooringsref05_Lists.l0 k (x.map toS) (y.map toS) (i : Int) = some (decide (x.drop i = y.drop i)) := by
  induction d with
  | zero =>
    intro k i hd hk
    obtain ⟨k, rfl⟩ : ∃ m, k = m + 1 := ⟨k - 1, by omega⟩
    simp only [B.mooringsref05_Lists.l0]
    rw [if_neg (show ¬ (i : Int) < ((x.map toS).length : Int) by rw [List.length_map]; omega)]
    have h1 : x.drop i = [] := List.drop_eq_nil_iff.2 (by omega)
    have h2 : y.drop i = [] := List.drop_eq_nil_iff.2 (by omega)
    rw [h1, h2]
    rfl
  | succ d ih =>
    intro k i hd hk
    obtain ⟨k, rfl⟩ : ∃ m, k = m + 1 := ⟨k - 1, by omega⟩
    have h1 : i < x.length := by omega
    have h2 : i < y.length := by omega
    have e1 : x.drop i = x[i] :: x.drop (i + 1) := List.drop_eq_getElem_cons h1
    have e2 : y.drop i = y[i] :: y.drop (i + 1) := List.drop_eq_getElem_cons h2
    have hw : wrap64 ((i : Int) + 1) = ((i + 1 : Nat) : Int) := by unfold wrap64; omega
    simp only [B.mooringsref05_Lists.l0]
    rw [if_pos (show (i : Int) < ((x.map toS).length : Int) by rw [List.length_map]; omega), if_pos (show (0 : Int) ≤ i by omega), if_pos (show (i : Int) < ((y.map toS).length : Int) by rw [List.length_map]; omega), rdS x i h1, rdS y i h2, hw]
    rw [refSame_tells x[i] y[i] (hx _ (List.getElem_mem h1)) (hy _ (List.getElem_mem h2))]
    simp only [Option.bind_some]
    by_cases h : x[i] = y[i]
    · rw [if_pos (decide_eq_true h), ih k (i + 1) (by omega) (by omega), e1, e2, h]
      congr 1
      apply decide_eq_decide.2
      rw [List.cons.injEq]
      exact ⟨fun g => ⟨rfl, g⟩, fun g => g.2⟩
    · rw [if_neg (by rw [decide_eq_false h]; decide), e1, e2]
      have : ¬ (x[i] :: x.drop (i + 1) = y[i] :: y.drop (i + 1)) := fun g => h (by injection g)
      rw [decide_eq_false this]
theorem lists_tells (x y : List Rc) (hx : ∀ r ∈ x, okB r.body) (hy : ∀ r ∈ y, okB r.body) (hb : x.length ≤ 4611686018427387904) : B.mooringsref05_Lists.f (x.length + 1) (x.map toS) (y.map toS) = some (decide (x = y)) := by
  unfold B.mooringsref05_Lists.f
  by_cases h : x.length = y.length
  · rw [if_pos (by rw [List.length_map, List.length_map]; omega)]
    have := lists_loop x y hx hy h hb x.length (x.length + 1) 0 (by omega) (by omega)
    simpa using this
  · rw [if_neg (by rw [List.length_map, List.length_map]; omega), decide_eq_false (fun e => h (by rw [e]))]
theorem lists_calls (x y : List Rc) (b : Bool) (hb : decide (x = y) = b) (A : Option Addr) (c : Nat) (A' : Option Addr) (c' : Nat) (w : World) (hR : Kd.C kR w A (x.map toS).length (x.map toS)) (hc : x.length ≤ c) (hR' : Kd.C kR w A' (y.map toS).length (y.map toS)) (hc' : y.length ≤ c') (hx : ∀ r ∈ x, okB r.body) (hy : ∀ r ∈ y, okB r.body) (hl : x.length ≤ 4611686018427387904) :
    Calls Try.prog 19 #[.slice A x.length c, .slice A' y.length c'] w fun e w' => e = .returned (.bool b) ∧ Below w.heap.size w w' := by
  have h := B.mooringsref05_Lists.calls (x.length + 1) A c (x.map toS) A' c' (y.map toS) b w hR (by rw [List.length_map]; exact hc) hR' (by rw [List.length_map]; exact hc') (by rw [lists_tells x y hx hy hl, hb])
  rw [List.length_map, List.length_map] at h
  exact h
def fewR (x : List Rc) (m : Int) : Bool := x.all (fun r => decide (r.body.length ≤ 1100)) && decide ((x.length : Int) ≤ m)
theorem few_loop (x : List Rc) (m : Int) (hb : x.length ≤ 9223372036854775807) (d : Nat) : ∀ (k i : Nat), i + d = x.length → d < k →
    B.mooringslaw05_few.l0 k (x.map toS) m (i : Int) = some ((x.drop i).all (fun r => decide (r.body.length ≤ 1100)) && decide ((x.length : Int) ≤ m)) := by
  induction d with
  | zero =>
    intro k i hd hk
    obtain ⟨k, rfl⟩ : ∃ m, k = m + 1 := ⟨k - 1, by omega⟩
    simp only [B.mooringslaw05_few.l0]
    rw [if_neg (show ¬ (i : Int) < ((x.map toS).length : Int) by rw [List.length_map]; omega)]
    have h1 : x.drop i = [] := List.drop_eq_nil_iff.2 (by omega)
    rw [h1, List.length_map]
    rfl
  | succ d ih =>
    intro k i hd hk
    obtain ⟨k, rfl⟩ : ∃ m, k = m + 1 := ⟨k - 1, by omega⟩
    have h1 : i < x.length := by omega
    have e1 : x.drop i = x[i] :: x.drop (i + 1) := List.drop_eq_getElem_cons h1
    have hw : wrap64 ((i : Int) + 1) = ((i + 1 : Nat) : Int) := by unfold wrap64; omega
    simp only [B.mooringslaw05_few.l0]
    rw [if_pos (show (i : Int) < ((x.map toS).length : Int) by rw [List.length_map]; omega), if_pos (show (0 : Int) ≤ i by omega), rdS x i h1, hw, e1]
    by_cases h : (x[i].body.length : Int) > 1100
    · rw [if_pos h]
      simp only [List.all_cons]
      rw [decide_eq_false (show ¬ x[i].body.length ≤ 1100 by omega)]
      rfl
    · rw [if_neg h, ih k (i + 1) (by omega) (by omega)]
      simp only [List.all_cons]
      rw [decide_eq_true (show x[i].body.length ≤ 1100 by omega)]
      rfl
theorem lit_rec {W : World} {t : TypeId} {k : Int} {A : Option Addr} {c : Nat} {l : List Int} (h : Kd.C (Kd.int .u8) W A l.length l) (hc : l.length ≤ c) : Kd.C kR (W.alloc (.cells #[.int .i64 k, .slice A l.length c] t)) (some ⟨W.heap.size, 0, none⟩) ([⟨k, l⟩].map toS : List Sr).length ([⟨k, l⟩].map toS) := by
  refine ⟨rfl, by simp, fun _ => ⟨_, rfl, fun j q hj => ?_⟩⟩
  cases j with
  | zero =>
    obtain rfl : toS ⟨k, l⟩ = q := by simpa using hj
    refine ⟨[.int .i64 k, .slice A l.length c], rfl, B.k24_mk _ (toS ⟨k, l⟩) hc (Kd.C_alloc h _), fun i u hu => ?_⟩
    have hz : kR.sz = 2 := rfl
    rw [hz, add_plain, blk_cell (heap_alloc_new W _)]
    match i with
    | 0 => simpa using hu
    | 1 => simpa using hu
    | i + 2 => simp at hu
  | succ j => simp at hj
theorem fewR_one (r : Rc) : fewR [r] 1 = decide (r.body.length ≤ 1100) := by
  unfold fewR
  simp
theorem few_calls (x : List Rc) (m : Int) (b : Bool) (hb : fewR x m = b) (A : Option Addr) (c : Nat) (w : World) (hR : Kd.C kR w A (x.map toS).length (x.map toS)) (hc : x.length ≤ c) (hl : x.length ≤ 9223372036854775807) :
    Calls Try.prog 11 #[.slice A x.length c, .int .i64 m] w fun e w' => e = .returned (.bool b) ∧ Below w.heap.size w w' := by
  have h := B.mooringslaw05_few.calls (x.length + 1) A c (x.map toS) m b w hR (by rw [List.length_map]; exact hc) (by
    unfold B.mooringslaw05_few.f
    have := few_loop x m hl x.length (x.length + 1) 0 (by omega) (by omega)
    simp only [List.drop_zero] at this
    rw [← hb]
    exact this)
  rw [List.length_map] at h
  exact h.mono fun e w' h => ⟨h.1, h.2.below⟩
end Go.Proofs.Ytnicndnbloohhaa.H
/-! mooringslaw05: joined, awake. -/
namespace Go.Proofs.Ytnicndnbloohhaa.H
open Go.RowKit Moor Go.Proofs.YtnicndnbloohhaaW.PrintWords Go.Proofs.YtnicndnbloohhaaW.PrintLast Go.Proofs.YtnicndnbloohhaaW.PrintMore
set_option linter.unusedVariables false
set_option linter.unusedSimpArgs false

instance (l : List Rc) : Decidable (∀ r ∈ l, recMay r) := inferInstance
def joinedR (l : List Rc) : List Int × Bool := if ∀ r ∈ l, recMay r then (joinR l, true) else ([], false)
theorem joinR_take (l : List Rc) (k : Nat) (h : k < l.length) : joinR (l.take (k + 1)) = joinR (l.take k) ++ recBytes l[k] := by
  rw [List.take_succ_eq_append_getElem h]
  unfold joinR
  rw [List.flatMap_append]
  simp [List.flatMap]
theorem joinR_le : ∀ (l : List Rc), (∀ r ∈ l, recMay r) → (joinR l).length ≤ 1011 * l.length
  | [], h => by simp [joinR]
  | r :: l, h => by
    have h1 := joinR_le l (fun s hs => h s (by simp [hs]))
    have h2 := rPut_len r
    rw [rPut_pos (h r (by simp))] at h2
    have h3 : (recBytes r).length ≤ 1011 := h2
    simp [joinR] at h1 ⊢
    omega
theorem joinedR_pos {l : List Rc} (h : ∀ r ∈ l, recMay r) : joinedR l = (joinR l, true) := by unfold joinedR; rw [if_pos h]
theorem joinedR_neg {l : List Rc} (h : ¬ ∀ r ∈ l, recMay r) : joinedR l = ([], false) := by unfold joinedR; rw [if_neg h]
theorem joinR_ok : ∀ {l : List Rc}, (∀ r ∈ l, recMay r) → (∀ r ∈ l, okB r.body) → okB (joinR l)
  | [], h, g => fun x hx => by simp [joinR] at hx
  | r :: l, h, g => by
    have h1 := joinR_ok (l := l) (fun s hs => h s (by simp [hs])) (fun s hs => g s (by simp [hs]))
    have h2 := rPut_ok (g r (by simp))
    rw [rPut_pos (h r (by simp))] at h2
    intro x hx
    unfold joinR at hx
    rw [List.flatMap_cons, List.mem_append] at hx
    exact hx.elim (h2 x) (h1 x)
theorem at_recS {w : World} {A : Option Addr} {l : List Rc} (h : Kd.C kR w A (l.map toS).length (l.map toS)) (k : Nat) (hk : k < l.length) :
    ∃ ad A1 c1, A = some ad ∧ w.cell? (ad.add (k * 2)) = some (.int .i64 l[k].kind) ∧ w.cell? ⟨(ad.add (k * 2)).block, (ad.add (k * 2)).off + 1, none⟩ = some (.slice A1 l[k].body.length c1) ∧ l[k].body.length ≤ c1 ∧ Kd.C (Kd.int .u8) w A1 l[k].body.length l[k].body := by
  obtain ⟨ad, A1, c1, e, h0, h1, h2, h3⟩ := B.at_T24 h (k : Int) (by omega) (by rw [List.length_map]; omega)
  rw [rdS l k hk] at h0 h1 h2 h3
  exact ⟨ad, A1, c1, e, by simpa using h0, by simpa using h1, h2, h3⟩

set_option maxRecDepth 100000 in
set_option maxHeartbeats 4000000 in
theorem joined_calls (A : Option Addr) (c : Nat) (l : List Rc) (w : World) (hR : Kd.C kR w A (l.map toS).length (l.map toS)) (hc : l.length ≤ c) (ho : ∀ r ∈ l, okB r.body) (hl : l.length ≤ 100000) :
    Calls Try.prog 21 #[.slice A l.length c] w (PutEnd (joinedR l) w) := by
  have HR := Lib.hid hR
  clear hR
  go_enter Try.func21, Try.ntmps21
  go_wp2_with (fail)
  go_loopw [4, 5] (fun v i wr => ∃ k : Nat, k ≤ l.length ∧ i = .int .i64 (k : Int) ∧ Kd.R (Kd.int .u8) 5 wr w.heap.size (fun _ => True) v (joinR (l.take k)) ∧ Below w.heap.size w wr ∧ Hid (∀ r ∈ l.take k, recMay r)) (fun _ i _ => l.length - (intOf i).toNat)
  case atStart => exact ⟨0, Nat.zero_le _, rfl, Kd.R_nil _ _ _ _ _, Below.refl _ _, Lib.hid (fun r hr => by simp at hr)⟩
  case round =>
    obtain ⟨k, hk, rfl, hRk, hB, hall⟩ := hrel
    by_cases hlt : k < l.length
    · have hlti : (k : Int) < (l.length : Int) := by omega
      obtain ⟨ad, A1, c1, rfl, h0, h1, h2, h3⟩ := at_recS (Kd.C_below HR.out hB) k hlt
      have hok := ho l[k] (List.getElem_mem hlt)
      have hj := joinR_take l k hlt
      have hnx : recMay l[k] → ∀ r ∈ l.take (k + 1), recMay r := fun hm r hr => by
        rw [List.take_succ_eq_append_getElem hlt, List.mem_append] at hr
        rcases hr with hr | hr
        · exact hall.out r hr
        · rw [List.mem_singleton.1 hr]; exact hm
      have hno : ¬ recMay l[k] → joinedR l = ([], false) := fun hm => by
        unfold joinedR
        rw [if_neg (fun h => hm (h _ (List.getElem_mem hlt)))]
      have hjl := joinR_le (l.take k) hall.out
      have hjl2 : (joinR (l.take k)).length ≤ 101100000 := by
        have : (l.take k).length ≤ l.length := by rw [List.length_take]; omega
        omega
      generalize l[k] = r at *
      have HJ := Lib.hid hj
      have HN := Lib.hid hnx
      have HNO := Lib.hid hno
      clear hj hnx hno hjl
      go_wp2_with (fail)
      refine (rput_calls r A1 c1 wr h3 h2 hok).mono ?_
      rintro e w1 ⟨A2, c2, rfl, hc2, hC2, hb1⟩
      have hB1 : Below w.heap.size w w1 := hB.trans (hb1.mono hB.size)
      have hpl := rPut_len r
      clear h0 h1 h2 h3
      by_cases hm : recMay r
      · rw [rPut_pos hm] at hc2 hC2 hpl ⊢
        dsimp only at hc2 hC2 hpl ⊢
        have HRK := Lib.hid (Kd.R_below hRk hb1)
        have HC2 := Lib.hid hC2
        have HM := Lib.hid (HN.out hm)
        clear hm hC2 hRk hb1 HNO
        generalize recBytes r = y at *
        generalize joinR (l.take k) = q at *
        have hsz := hB1.size
        go_wp2_with (at_builtin; refine Kd.R_append_rows (Kd.int .u8) (Rr := fun x cs => cs = [.int .u8 x]) (w0 := w) w.heap.size rfl _ _ 22 5 (.int .u8 0) 1 rfl Try.underlying22 infoU8 rfl (by decide) (by decide) _ q y A2 y.length c2 (fun _ => True) (fun _ => False) rfl rfl HRK.out HC2.out (fun _ _ h => h) (fun _ h => h.elim) (fun _ _ => trivial) hB1 hsz (by omega) ?_; intro v2 w2 hR2 hB2 hG2 _)
        go_roundw
        case rel => exact ⟨k + 1, by omega, by go_num, by rw [HJ.out]; exact hR2, hB2, HM⟩
        case measure => simp [intOf]; omega
      · rw [rPut_neg hm]
        have HV := Lib.hid (HNO.out hm)
        clear hm hC2 hc2
        go_wp2_with (fail)
        refine bodyPost_ret (results_tmp2 (fn := Try.f21) (t := 2) (u := 3) rfl _ _ _) rfl ?_
        rw [HV.out]
        exact ⟨none, 0, rfl, Nat.le_refl _, Kd.C_nil _ _, hB1⟩
    · have hnl : ¬ ((k : Int) < (l.length : Int)) := by omega
      obtain rfl : k = l.length := by omega
      rw [List.take_length] at hRk hall
      obtain ⟨A2, c2, rfl, hc2, hC2⟩ := Kd.R_reads hRk
      have hv : joinedR l = (joinR l, true) := by unfold joinedR; rw [if_pos hall.out]
      have HV := Lib.hid hv
      clear hv hRk
      go_wp2_with (fail)
      refine bodyPost_ret (results_tmp2 (fn := Try.f21) (t := 2) (u := 3) rfl _ _ _) rfl ?_
      rw [HV.out]
      exact ⟨A2, c2, rfl, hc2, hC2, hB⟩

theorem okB_joined : ∀ {l : List Rc}, okB (joinR l) → ∀ r ∈ l, okB r.body
  | [], h, r, hr => by cases hr
  | s :: l, h, r, hr => by
    have h1 : okB (recBytes s) := fun x hx => h x (by simp [joinR, hx])
    have h2 : okB (joinR l) := fun x hx => h x (by unfold joinR at hx ⊢; rw [List.flatMap_cons, List.mem_append]; exact .inr hx)
    rcases List.mem_cons.1 hr with rfl | hr
    · intro x hx
      refine h1 x ?_
      rw [recBytes_eq]
      simp [hx]
    · exact okB_joined h2 r hr

end Go.Proofs.Ytnicndnbloohhaa.H
