import Derived.Test.YtnicndnbloohhaaRecH
import Derived.Deep.RegionHeld3
import Derived.Laws.OwnMore
/-! Layer 5: the reference's Put, walked. -/
namespace Go.Proofs.Ytnicndnbloohhaa.H
open Go.RowKit Moor Go.Proofs.YtnicndnbloohhaaW.PrintWords Go.Proofs.YtnicndnbloohhaaW.PrintLast Go.Proofs.YtnicndnbloohhaaW.PrintMore
set_option linter.unusedVariables false
set_option linter.unusedSimpArgs false
attribute [local go_sem ↓] Go.wp_at_zero Go.wp_at_succ

set_option maxRecDepth 100000 in
set_option maxHeartbeats 4000000 in
theorem refPut_no (kind : Int) (A : Option Addr) (c : Nat) (l : List Int) (w : World) (hm : ¬ recMay ⟨kind, l⟩) :
    Calls Try.prog 13 #[.agg #[.int .i64 kind, .slice A l.length c]] w fun e w' => e = .returned (.tuple #[.slice none 0 0, .bool false]) ∧ Below w.heap.size w w' := by
  by_cases n0 : kind < 0
  · clear hm
    go_enter Try.func13, Try.ntmps13
    go_wp2_with (fail)
    refine bodyPost_ret (results_tmp2 (fn := Try.f13) (t := 2) (u := 3) rfl _ _ _) rfl ?_
    exact ⟨rfl, below_alloc (Below.refl _ _) _⟩
  · by_cases n1 : 255 < kind
    · clear hm
      go_enter Try.func13, Try.ntmps13
      go_wp2_with (fail)
      refine bodyPost_ret (results_tmp2 (fn := Try.f13) (t := 2) (u := 3) rfl _ _ _) rfl ?_
      exact ⟨rfl, below_alloc (Below.refl _ _) _⟩
    · have n2 : (1000 : Int) < (l.length : Int) := by
        have : ¬ (0 ≤ kind ∧ kind ≤ 255 ∧ l.length ≤ 1000) := hm
        omega
      clear hm
      go_enter Try.func13, Try.ntmps13
      go_wp2_with (fail)
      refine bodyPost_ret (results_tmp2 (fn := Try.f13) (t := 2) (u := 3) rfl _ _ _) rfl ?_
      exact ⟨rfl, below_alloc (Below.refl _ _) _⟩
theorem lit_R (W : World) (k : Int) {base : Nat} (hb : base ≤ W.heap.size) : Kd.R (Kd.int .u8) 5 (W.alloc (.cells #[.int .u8 k] 5)) base (fun _ => True) (.slice (some ⟨W.heap.size, 0, none⟩) 1 1) [k] :=
  Kd.R_of_own (h1 := fun _ => rfl) (World.ownsRow_lit W #[.int .u8 k] 1 hb (by unfold maxLen; omega) (by simp)) (fun _ _ => trivial)
theorem refputN_calls (n : Int) (hn : mayN n) (w : World) : Calls Try.prog 25 #[.int .i64 n] w fun e w' => ∃ v : Value, e = .returned v ∧ Kd.R (Kd.int .u8) 5 w' w.heap.size (fun _ => True) v (put n) ∧ Below w.heap.size w w' :=
  B.mooringsref01_Put.calls 10 n (put n) w (by rw [refPut_tells n 10 (Nat.le_refl _)]; unfold vPut; rw [if_pos hn])
theorem refseal_calls (A : Option Addr) (c : Nat) (l : List Int) (w : World) (hR : Kd.C (Kd.int .u8) w A l.length l) (hc : l.length ≤ c) (ho : okB l) (hl : l.length ≤ 140737488355323) :
    Calls Try.prog 26 #[.slice A l.length c] w fun e w' => ∃ v : Value, e = .returned v ∧ Kd.R (Kd.int .u8) 5 w' w.heap.size (fun _ => True) v (cSeal l) ∧ Below w.heap.size w w' :=
  B.mooringsref04_Seal.calls (10 * l.length + 1) A c l _ w hR hc (refSeal_tells l ho hl _ (Nat.le_refl _))

set_option maxRecDepth 100000 in
set_option maxHeartbeats 4000000 in
theorem refPut_yes (kind : Int) (A : Option Addr) (c : Nat) (l : List Int) (w : World) (hR : Kd.C (Kd.int .u8) w A l.length l) (hc : l.length ≤ c) (ho : okB l) (hm : recMay ⟨kind, l⟩) :
    Calls Try.prog 13 #[.agg #[.int .i64 kind, .slice A l.length c]] w fun e w' => ∃ v : Value, e = .returned (.tuple #[v, .bool true]) ∧ Kd.R (Kd.int .u8) 5 w' w.heap.size (fun _ => True) v (recBytes ⟨kind, l⟩) ∧ Below w.heap.size w w' := by
  have hmn : mayN (l.length : Int) := mayN_len hm
  obtain ⟨m0, m1, m2⟩ := hm
  dsimp only at m0 m1 m2
  have n0 : ¬ kind < 0 := by omega
  have n1 : ¬ 255 < kind := by omega
  have n2 : ¬ (1000 : Int) < (l.length : Int) := by omega
  have hwu : IntKind.u8.wrap kind = kind := by show kind % 256 = kind; omega
  have hpl := put_le (l.length : Int)
  have hpo : okB (put (l.length : Int)) := put_ok hmn
  have hflat : [kind] ++ put (l.length : Int) ++ l = kind :: (put (l.length : Int) ++ l) := by simp
  have hrb : recBytes ⟨kind, l⟩ = cSeal (kind :: (put (l.length : Int) ++ l)) := rfl
  have hxo : okB (kind :: (put (l.length : Int) ++ l)) := by
    intro x hx
    rcases List.mem_cons.1 hx with e | hx
    · rw [e]; exact ⟨m0, m1⟩
    · rcases List.mem_append.1 hx with h | h
      · exact hpo x h
      · exact ho x h
  have hxl : (kind :: (put (l.length : Int) ++ l)).length ≤ 2000 := by simp; omega
  generalize hpn : put (l.length : Int) = pn at *
  generalize hxx : kind :: (pn ++ l) = xx at *
  have HPN := Lib.hid hpn
  have HF := Lib.hid hflat
  have HB := Lib.hid hrb
  have HMN := Lib.hid hmn
  have HR := Lib.hid hR
  have M2 := Lib.hid m2
  have HXL := Lib.hid hxl
  have HPL := Lib.hid hpl
  clear hR m2 hpn hflat hrb hxl hpl hpo hxx
  go_enter Try.func13, Try.ntmps13
  go_wp2_with (fail)
  have hw0 : Below w.heap.size w (w.alloc (.cells #[.int .i64 kind, .slice A l.length c] 24)) := below_alloc (Below.refl _ _) _
  have hs0 : (w.alloc (.cells #[.int .i64 kind, .slice A l.length c] 24)).heap.size = w.heap.size + 1 := by simp
  have hc0 : (w.alloc (.cells #[.int .i64 kind, .slice A l.length c] 24)).cell? ⟨w.heap.size, 0, none⟩ = some (.int .i64 kind) := (blk_cell (heap_alloc_new w _) 0).trans rfl
  have hc1 : (w.alloc (.cells #[.int .i64 kind, .slice A l.length c] 24)).cell? ⟨w.heap.size, 1, none⟩ = some (.slice A l.length c) := (blk_cell (heap_alloc_new w _) 1).trans rfl
  generalize w.alloc (.cells #[.int .i64 kind, .slice A l.length c] 24) = w0 at *
  have HS := Lib.hid (show ∀ W, Below w0.heap.size w0 W → Below w0.heap.size w0 W ∧ W.cell? ⟨w.heap.size, 0, none⟩ = some (.int .i64 kind) ∧ W.cell? ⟨w.heap.size, 1, none⟩ = some (.slice A l.length c) from fun W h => ⟨h, (h.cell (p := ⟨w.heap.size, 0, none⟩) (by rw [hs0]; exact Nat.lt_succ_self _)).trans hc0, (h.cell (p := ⟨w.heap.size, 1, none⟩) (by rw [hs0]; exact Nat.lt_succ_self _)).trans hc1⟩)
  have HW0 := Lib.hid hw0
  have HRW := Lib.hid (show ∀ W, Below w0.heap.size w0 W → Kd.C (Kd.int .u8) W A l.length l from fun W h => Kd.C_below HR.out (hw0.trans (h.mono hw0.size)))
  have DR := Lib.hid (show Below w0.heap.size w0 w0.drew from (Below.refl _ _).drew)
  have DA := Lib.hid (show Below w0.heap.size w0 (w0.alloc (.cells #[.int .u8 kind] 5)).drew from (below_alloc (Below.refl _ _) _).drew)
  clear hw0 hs0 hc0 hc1
  go_region_held3 (fun W => Below w0.heap.size w0 W ∧ W.cell? ⟨w.heap.size, 0, none⟩ = some (.int .i64 kind) ∧ W.cell? ⟨w.heap.size, 1, none⟩ = some (.slice A l.length c))
    (first | (with_reducible exact HS.out _ DR.out) | (with_reducible exact HS.out _ DA.out) | (with_reducible exact HS.out _ D2) | (with_reducible exact HS.out _ D1) | (with_reducible exact HS.out _ (below_alloc D1 _)))
    ((first
      | (go_at_call 25; have qq := refputN_calls (l.length : Int) HMN.out; rw [HPN.out] at qq; refine (qq _).mono ?_; clear qq; rintro e w1 ⟨v1, rfl, hR1, hb1⟩; obtain ⟨A1, c1, rfl, hc1, hC1⟩ := Kd.R_reads hR1; first | (with_reducible have D1 := below_onR hb1 DR.out) | ((with_reducible have D1 := below_onR hb1 DA.out); have L1 := Kd.R_below (Kd.R_drewN (lit_R w0 kind (Nat.le_refl _)) 1) hb1))
      | (have L1x := L1; refine Kd.R_append_rows_step (Kd.int .u8) (Rr := fun x cs => cs = [.int .u8 x]) (w0 := w0) w0.heap.size (by rfl) _ _ 22 5 (.int .u8 0) 1 (by rfl) Try.underlying22 infoU8 rfl (by decide) (by decide) (.slice (some ⟨w0.heap.size, 0, none⟩) 1 1) [kind] pn A1 pn.length c1 (fun _ => True) (fun _ => False) (by rfl) (by rfl) L1 hC1 (fun _ _ h => h) (fun _ h => h.elim) (fun _ _ => trivial) D1 D1.size (by have := HPL.out; simp; omega) ?_; intro v2 w2 hr2 D2 hG _)
      | (refine Kd.R_append_rows_step (Kd.int .u8) (Rr := fun x cs => cs = [.int .u8 x]) (w0 := w0) w0.heap.size (by rfl) _ _ 22 5 (.int .u8 0) 1 (by rfl) Try.underlying22 infoU8 rfl (by decide) (by decide) (.slice (some ⟨w1.heap.size, 0, none⟩) 1 1) [kind] pn A1 pn.length c1 (fun _ => True) (fun _ => False) (by rfl) (by rfl) (lit_R w1 kind D1.size) (Kd.C_alloc hC1 _) (fun _ _ h => h) (fun _ h => h.elim) (fun _ _ => trivial) (below_alloc D1 _) (below_alloc D1 _).size (by have := HPL.out; simp; omega) ?_; intro v2 w2 hr2 D2 hG _)))
  all_goals
    have HR2 := Lib.hid hr2
    have hsz2 := D2.size
    have HK := Lib.hid (HS.out _ D2)
    have x0 := HK.out.2.1
    have x1 := HK.out.2.2
    clear hr2 hG
    go_wp2_with (at_builtin; refine Kd.R_append_rows (Kd.int .u8) (Rr := fun x cs => cs = [.int .u8 x]) (w0 := w0) w0.heap.size rfl _ _ 22 5 (.int .u8 0) 1 rfl Try.underlying22 infoU8 rfl (by decide) (by decide) v2 ([kind] ++ pn) l A l.length c (fun _ => True) (fun _ => False) rfl rfl HR2.out (HRW.out _ D2) (fun _ _ h => h) (fun _ h => h.elim) (fun _ _ => trivial) D2 hsz2 (by have := HPL.out; have := M2.out; simp; omega) ?_; intro v3 w3 hr3 D3 hG3 _; rw [HF.out] at hr3; obtain ⟨A3, c3, rfl, hc3, hC3⟩ := Kd.R_reads hr3)
    refine (refseal_calls A3 c3 xx w3 hC3 hc3 hxo (by have := HXL.out; omega)).mono ?_
    rw [← HB.out]
    rintro e w4 ⟨v4, rfl, hR4, hb4⟩
    have hR5 := Kd.R_lower hR4 (show w.heap.size ≤ _ from Nat.le_trans HW0.out.size D3.size)
    have hB5 := HW0.out.trans ((below_onR hb4 D3).mono HW0.out.size)
    clear hR4 hr3 hC3
    go_wp2_with (fail)
    refine bodyPost_ret (results_tmp2 (fn := Try.f13) (t := 2) (u := 3) rfl _ _ _) rfl ?_
    exact ⟨_, rfl, hR5, hB5⟩
theorem refput_calls (r : Rc) (A : Option Addr) (c : Nat) (w : World) (hR : Kd.C (Kd.int .u8) w A r.body.length r.body) (hc : r.body.length ≤ c) (ho : okB r.body) :
    Calls Try.prog 13 #[.agg #[.int .i64 r.kind, .slice A r.body.length c]] w (PutEnd (rPut r) w) := by
  by_cases hm : recMay r
  · rw [rPut_pos hm]
    refine (refPut_yes r.kind A c r.body w hR hc ho hm).mono ?_
    rintro e w' ⟨v, rfl, hR', hB⟩
    obtain ⟨A', c', rfl, hc', hC'⟩ := Kd.R_reads hR'
    exact ⟨A', c', rfl, hc', hC', hB⟩
  · rw [rPut_neg hm]
    refine (refPut_no r.kind A c r.body w hm).mono ?_
    rintro e w' ⟨rfl, hB⟩
    exact ⟨none, 0, rfl, Nat.le_refl _, Kd.C_nil _ _, hB⟩
end Go.Proofs.Ytnicndnbloohhaa.H
