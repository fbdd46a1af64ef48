import Derived.Test.YtnicndnbloohhaaRecH
/-! mooringslaw05: joined, awake. -/
namespace Go.Proofs.Ytnicndnbloohhaa.H
open Go.RowKit Moor Go.Proofs.YtnicndnbloohhaaW.PrintWords Go.Proofs.YtnicndnbloohhaaW.PrintLast Go.Proofs.YtnicndnbloohhaaW.PrintMore
set_option linter.unusedVariables false
set_option linter.unusedSimpArgs false

instance (l : List Rc) : Decidable (∀ r ∈ l, recMay r) := inferInstance
def joinedR (l : List Rc) : List Int × Bool := if ∀ r ∈ l, recMay r then (joinR l, true) else ([], false)
theorem joinR_take (l : List Rc) (k : Nat) (h : k < l.length) : joinR (l.take (k + 1)) = joinR (l.take k) ++ recBytes l[k] := by
  rw [List.take_succ_eq_append_getElem h]
  unfold joinR
  rw [List.flatMap_append]
  simp [List.flatMap]
theorem joinR_le : ∀ (l : List Rc), (∀ r ∈ l, recMay r) → (joinR l).length ≤ 1011 * l.length
  | [], h => by simp [joinR]
  | r :: l, h => by
    have h1 := joinR_le l (fun s hs => h s (by simp [hs]))
    have h2 := rPut_len r
    rw [rPut_pos (h r (by simp))] at h2
    have h3 : (recBytes r).length ≤ 1011 := h2
    simp [joinR] at h1 ⊢
    omega
theorem joinedR_pos {l : List Rc} (h : ∀ r ∈ l, recMay r) : joinedR l = (joinR l, true) := by unfold joinedR; rw [if_pos h]
theorem joinedR_neg {l : List Rc} (h : ¬ ∀ r ∈ l, recMay r) : joinedR l = ([], false) := by unfold joinedR; rw [if_neg h]
theorem joinR_ok : ∀ {l : List Rc}, (∀ r ∈ l, recMay r) → (∀ r ∈ l, okB r.body) → okB (joinR l)
  | [], h, g => fun x hx => by simp [joinR] at hx
  | r :: l, h, g => by
    have h1 := joinR_ok (l := l) (fun s hs => h s (by simp [hs])) (fun s hs => g s (by simp [hs]))
    have h2 := rPut_ok (g r (by simp))
    rw [rPut_pos (h r (by simp))] at h2
    intro x hx
    unfold joinR at hx
    rw [List.flatMap_cons, List.mem_append] at hx
    exact hx.elim (h2 x) (h1 x)
theorem at_recS {w : World} {A : Option Addr} {l : List Rc} (h : Kd.C kR w A (l.map toS).length (l.map toS)) (k : Nat) (hk : k < l.length) :
    ∃ ad A1 c1, A = some ad ∧ w.cell? (ad.add (k * 2)) = some (.int .i64 l[k].kind) ∧ w.cell? ⟨(ad.add (k * 2)).block, (ad.add (k * 2)).off + 1, none⟩ = some (.slice A1 l[k].body.length c1) ∧ l[k].body.length ≤ c1 ∧ Kd.C (Kd.int .u8) w A1 l[k].body.length l[k].body := by
  obtain ⟨ad, A1, c1, e, h0, h1, h2, h3⟩ := B.at_T24 h (k : Int) (by omega) (by rw [List.length_map]; omega)
  rw [rdS l k hk] at h0 h1 h2 h3
  exact ⟨ad, A1, c1, e, by simpa using h0, by simpa using h1, h2, h3⟩

set_option maxRecDepth 100000 in
set_option maxHeartbeats 4000000 in
theorem joined_calls (A : Option Addr) (c : Nat) (l : List Rc) (w : World) (hR : Kd.C kR w A (l.map toS).length (l.map toS)) (hc : l.length ≤ c) (ho : ∀ r ∈ l, okB r.body) (hl : l.length ≤ 100000) :
    Calls Try.prog 21 #[.slice A l.length c] w (PutEnd (joinedR l) w) := by
  have HR := Lib.hid hR
  clear hR
  go_enter Try.func21, Try.ntmps21
  go_wp2_with (fail)
  go_loopw [4, 5] (fun v i wr => ∃ k : Nat, k ≤ l.length ∧ i = .int .i64 (k : Int) ∧ Kd.R (Kd.int .u8) 5 wr w.heap.size (fun _ => True) v (joinR (l.take k)) ∧ Below w.heap.size w wr ∧ Hid (∀ r ∈ l.take k, recMay r)) (fun _ i _ => l.length - (intOf i).toNat)
  case atStart => exact ⟨0, Nat.zero_le _, rfl, Kd.R_nil _ _ _ _ _, Below.refl _ _, Lib.hid (fun r hr => by simp at hr)⟩
  case round =>
    obtain ⟨k, hk, rfl, hRk, hB, hall⟩ := hrel
    by_cases hlt : k < l.length
    · have hlti : (k : Int) < (l.length : Int) := by omega
      obtain ⟨ad, A1, c1, rfl, h0, h1, h2, h3⟩ := at_recS (Kd.C_below HR.out hB) k hlt
      have hok := ho l[k] (List.getElem_mem hlt)
      have hj := joinR_take l k hlt
      have hnx : recMay l[k] → ∀ r ∈ l.take (k + 1), recMay r := fun hm r hr => by
        rw [List.take_succ_eq_append_getElem hlt, List.mem_append] at hr
        rcases hr with hr | hr
        · exact hall.out r hr
        · rw [List.mem_singleton.1 hr]; exact hm
      have hno : ¬ recMay l[k] → joinedR l = ([], false) := fun hm => by
        unfold joinedR
        rw [if_neg (fun h => hm (h _ (List.getElem_mem hlt)))]
      have hjl := joinR_le (l.take k) hall.out
      have hjl2 : (joinR (l.take k)).length ≤ 101100000 := by
        have : (l.take k).length ≤ l.length := by rw [List.length_take]; omega
        omega
      generalize l[k] = r at *
      have HJ := Lib.hid hj
      have HN := Lib.hid hnx
      have HNO := Lib.hid hno
      clear hj hnx hno hjl
      go_wp2_with (fail)
      refine (rput_calls r A1 c1 wr h3 h2 hok).mono ?_
      rintro e w1 ⟨A2, c2, rfl, hc2, hC2, hb1⟩
      have hB1 : Below w.heap.size w w1 := hB.trans (hb1.mono hB.size)
      have hpl := rPut_len r
      clear h0 h1 h2 h3
      by_cases hm : recMay r
      · rw [rPut_pos hm] at hc2 hC2 hpl ⊢
        dsimp only at hc2 hC2 hpl ⊢
        have HRK := Lib.hid (Kd.R_below hRk hb1)
        have HC2 := Lib.hid hC2
        have HM := Lib.hid (HN.out hm)
        clear hm hC2 hRk hb1 HNO
        generalize recBytes r = y at *
        generalize joinR (l.take k) = q at *
        have hsz := hB1.size
        go_wp2_with (at_builtin; refine Kd.R_append_rows (Kd.int .u8) (Rr := fun x cs => cs = [.int .u8 x]) (w0 := w) w.heap.size rfl _ _ 22 5 (.int .u8 0) 1 rfl Try.underlying22 infoU8 rfl (by decide) (by decide) _ q y A2 y.length c2 (fun _ => True) (fun _ => False) rfl rfl HRK.out HC2.out (fun _ _ h => h) (fun _ h => h.elim) (fun _ _ => trivial) hB1 hsz (by omega) ?_; intro v2 w2 hR2 hB2 hG2 _)
        go_roundw
        case rel => exact ⟨k + 1, by omega, by go_num, by rw [HJ.out]; exact hR2, hB2, HM⟩
        case measure => simp [intOf]; omega
      · rw [rPut_neg hm]
        have HV := Lib.hid (HNO.out hm)
        clear hm hC2 hc2
        go_wp2_with (fail)
        refine bodyPost_ret (results_tmp2 (fn := Try.f21) (t := 2) (u := 3) rfl _ _ _) rfl ?_
        rw [HV.out]
        exact ⟨none, 0, rfl, Nat.le_refl _, Kd.C_nil _ _, hB1⟩
    · have hnl : ¬ ((k : Int) < (l.length : Int)) := by omega
      obtain rfl : k = l.length := by omega
      rw [List.take_length] at hRk hall
      obtain ⟨A2, c2, rfl, hc2, hC2⟩ := Kd.R_reads hRk
      have hv : joinedR l = (joinR l, true) := by unfold joinedR; rw [if_pos hall.out]
      have HV := Lib.hid hv
      clear hv hRk
      go_wp2_with (fail)
      refine bodyPost_ret (results_tmp2 (fn := Try.f21) (t := 2) (u := 3) rfl _ _ _) rfl ?_
      rw [HV.out]
      exact ⟨A2, c2, rfl, hc2, hC2, hB⟩

theorem okB_joined : ∀ {l : List Rc}, okB (joinR l) → ∀ r ∈ l, okB r.body
  | [], h, r, hr => by cases hr
  | s :: l, h, r, hr => by
    have h1 : okB (recBytes s) := fun x hx => h x (by simp [joinR, hx])
    have h2 : okB (joinR l) := fun x hx => h x (by unfold joinR at hx ⊢; rw [List.flatMap_cons, List.mem_append]; exact .inr hx)
    rcases List.mem_cons.1 hr with rfl | hr
    · intro x hx
      refine h1 x ?_
      rw [recBytes_eq]
      simp [hx]
    · exact okB_joined h2 r hr

end Go.Proofs.Ytnicndnbloohhaa.H
