import Derived.Test.YtiopafdndlodoaaRecA
import Derived.Deep.RegionHeld
import Derived.Deep.DrawnRows
/-! Layer 5: Put, walked. -/
namespace Go.Proofs.Ytiopafdndlodoaa.H
open Go.RowKit Moor Go.Proofs.YtiopafdndlodoaaW.PrintWords Go.Proofs.YtiopafdndlodoaaW.PrintLast Go.Proofs.YtiopafdndlodoaaW.PrintMore
set_option linter.unusedVariables false
set_option linter.unusedSimpArgs false
attribute [local go_sem ↓] Go.wp_at_zero Go.wp_at_succ

theorem lit_one (W : World) (t : TypeId) (k : Int) : Kd.C (Kd.int .u8) (W.alloc (.cells #[.int .u8 k] t)) (some ⟨W.heap.size, 0, none⟩) ([k] : List Int).length [k] := by
  refine ⟨rfl, by simp, fun _ => ⟨_, rfl, fun j q hj => ?_⟩⟩
  cases j with
  | zero =>
    obtain rfl : k = q := by simpa using hj
    refine ⟨[.int .u8 k], rfl, rfl, fun i u hu => ?_⟩
    have hz : (Kd.int .u8).sz = 1 := rfl
    rw [hz, add_plain, blk_cell (heap_alloc_new W _)]
    cases i with
    | zero => simpa using hu
    | succ i => simp at hu
  | succ j => simp at hj
theorem rows3 {W : World} {t : TypeId} {A1 A2 A3 : Option Addr} {c1 c2 c3 : Nat} {l1 l2 l3 : List Int} (h1 : Kd.C (Kd.int .u8) W A1 l1.length l1) (q1 : l1.length ≤ c1) (h2 : Kd.C (Kd.int .u8) W A2 l2.length l2) (q2 : l2.length ≤ c2) (h3 : Kd.C (Kd.int .u8) W A3 l3.length l3) (q3 : l3.length ≤ c3) :
    Kd.C (Kd.slice 5 (Kd.int .u8)) (W.alloc (.cells #[.slice A1 l1.length c1, .slice A2 l2.length c2, .slice A3 l3.length c3] t)) (some ⟨W.heap.size, 0, none⟩) ([l1, l2, l3] : List (List Int)).length [l1, l2, l3] :=
  lit_rows W t [.slice A1 l1.length c1, .slice A2 l2.length c2, .slice A3 l3.length c3] [l1, l2, l3] rfl (by simp) (by
    intro j p hj
    match j with
    | 0 => simp at hj; subst hj; exact ⟨A1, c1, rfl, q1, h1⟩
    | 1 => simp at hj; subst hj; exact ⟨A2, c2, rfl, q2, h2⟩
    | 2 => simp at hj; subst hj; exact ⟨A3, c3, rfl, q3, h3⟩
    | j + 3 => simp at hj)

theorem below_onR {w8 W0 W1 : World} (h : Below W0.heap.size W0 W1) (g : Below w8.heap.size w8 W0) : Below w8.heap.size w8 W1 := g.trans (h.mono g.size)
theorem putN_calls (n : Int) (hn : mayN n) (w : World) : Calls Try.prog 52 #[.int .i64 n] w fun e w' => ∃ v : Value, e = .returned v ∧ Kd.R (Kd.int .u8) 5 w' w.heap.size (fun _ => True) v (put n) ∧ Below w.heap.size w w' :=
  B.vari_Put.calls 10 n (put n) w (by rw [vPut_tells n 10 (Nat.le_refl _)]; unfold vPut; rw [if_pos hn])

set_option maxRecDepth 100000 in
set_option maxHeartbeats 4000000 in
theorem recPut_calls (kind : Int) (A : Option Addr) (c : Nat) (l : List Int) (w : World) (hR : Kd.C (Kd.int .u8) w A l.length l) (hc : l.length ≤ c) (ho : okB l) (hm : recMay ⟨kind, l⟩) :
    Calls Try.prog 38 #[.agg #[.int .i64 kind, .slice A l.length c]] w fun e w' => ∃ v : Value, e = .returned (.tuple #[v, .bool true]) ∧ Kd.R (Kd.int .u8) 5 w' w.heap.size (fun _ => True) v (recBytes ⟨kind, l⟩) ∧ Below w.heap.size w w' := by
  have hmn : mayN (l.length : Int) := mayN_len hm
  obtain ⟨m0, m1, m2⟩ := hm
  dsimp only at m0 m1 m2
  have n0 : ¬ kind < 0 := by omega
  have n1 : ¬ 255 < kind := by omega
  have n2 : ¬ (1000 : Int) < (l.length : Int) := by omega
  have hwu : IntKind.u8.wrap kind = kind := by show kind % 256 = kind; omega
  have hpl := put_le (l.length : Int)
  have hpo : okB (put (l.length : Int)) := put_ok hmn
  have hflat : [[kind], put (l.length : Int), l].flatten = kind :: (put (l.length : Int) ++ l) := by simp
  have hrb : recBytes ⟨kind, l⟩ = cSeal (kind :: (put (l.length : Int) ++ l)) := rfl
  have hxo : okB (kind :: (put (l.length : Int) ++ l)) := by
    intro x hx
    rcases List.mem_cons.1 hx with e | hx
    · rw [e]; exact ⟨m0, m1⟩
    · rcases List.mem_append.1 hx with h | h
      · exact hpo x h
      · exact ho x h
  have hxl : (kind :: (put (l.length : Int) ++ l)).length ≤ 2000 := by simp; omega
  generalize hpn : put (l.length : Int) = pn at *
  generalize hxx : kind :: (pn ++ l) = xx at *
  have HPN := Lib.hid hpn
  have HF := Lib.hid hflat
  have HB := Lib.hid hrb
  have HMN := Lib.hid hmn
  have HR := Lib.hid hR
  have M2 := Lib.hid m2
  have HXL := Lib.hid hxl
  have HFL := Lib.hid (show [[kind], pn, l].flatten.length ≤ 140737488355328 by rw [hflat]; omega)
  clear hR m2 hpn hflat hrb hxl hpl hpo hxx
  go_enter Try.func38, Try.ntmps38
  go_wp2_with (fail)
  have hw0 : Below w.heap.size w (w.alloc (.cells #[.int .i64 kind, .slice A l.length c] 64)) := below_alloc (Below.refl _ _) _
  have hs0 : (w.alloc (.cells #[.int .i64 kind, .slice A l.length c] 64)).heap.size = w.heap.size + 1 := by simp
  have hc0 : (w.alloc (.cells #[.int .i64 kind, .slice A l.length c] 64)).cell? ⟨w.heap.size, 0, none⟩ = some (.int .i64 kind) := (blk_cell (heap_alloc_new w _) 0).trans rfl
  have hc1 : (w.alloc (.cells #[.int .i64 kind, .slice A l.length c] 64)).cell? ⟨w.heap.size, 1, none⟩ = some (.slice A l.length c) := (blk_cell (heap_alloc_new w _) 1).trans rfl
  generalize w.alloc (.cells #[.int .i64 kind, .slice A l.length c] 64) = w0 at *
  have HS := Lib.hid (show ∀ W, Below w0.heap.size w0 W → Below w0.heap.size w0 W ∧ W.cell? ⟨w.heap.size, 0, none⟩ = some (.int .i64 kind) ∧ W.cell? ⟨w.heap.size, 1, none⟩ = some (.slice A l.length c) from fun W h => ⟨h, (h.cell (p := ⟨w.heap.size, 0, none⟩) (by rw [hs0]; exact Nat.lt_succ_self _)).trans hc0, (h.cell (p := ⟨w.heap.size, 1, none⟩) (by rw [hs0]; exact Nat.lt_succ_self _)).trans hc1⟩)
  have HW0 := Lib.hid hw0
  have HRW := Lib.hid (show ∀ W, Below w0.heap.size w0 W → Kd.C (Kd.int .u8) W A l.length l from fun W h => Kd.C_below HR.out (hw0.trans (h.mono hw0.size)))
  have DR := Lib.hid (show Below w0.heap.size w0 w0.drew from (Below.refl _ _).drew)
  have DA := Lib.hid (show Below w0.heap.size w0 (w0.alloc (.cells #[.int .u8 kind] 5)).drew from (below_alloc (Below.refl _ _) _).drew)
  clear hw0 hs0 hc0 hc1
  go_region_held (fun W => Below w0.heap.size w0 W ∧ W.cell? ⟨w.heap.size, 0, none⟩ = some (.int .i64 kind) ∧ W.cell? ⟨w.heap.size, 1, none⟩ = some (.slice A l.length c))
    (first | (with_reducible exact HS.out _ DR.out) | (with_reducible exact HS.out _ DA.out) | (with_reducible exact HS.out _ D3) | (with_reducible exact HS.out _ D2) | (with_reducible exact HS.out _ D1) | (with_reducible exact HS.out _ (below_alloc D1 _)) | (with_reducible exact HS.out _ (below_alloc (below_alloc D1 _) _)))
    (first
      | (go_at_call 52; have qq := putN_calls (l.length : Int) HMN.out; rw [HPN.out] at qq; refine (qq _).mono ?_; clear qq; rintro e w1 ⟨v1, rfl, hR1, hb1⟩; obtain ⟨A1, c1, rfl, hc1, hC1⟩ := Kd.R_reads hR1; first | (with_reducible have D1 := below_onR hb1 DR.out) | ((with_reducible have D1 := below_onR hb1 DA.out); have L1 := Kd.C_below (Kd.C_drew (lit_one w0 5 kind)) hb1))
      | (go_at_call 51; first
          | (have L1x := L1; refine (concatB_calls (some ⟨w1.heap.size, 0, none⟩) 3 [[kind], pn, l] _ (rows3 L1 (Nat.le_refl _) hC1 hc1 (HRW.out _ D1) hc) (Nat.le_refl _) HFL.out).mono ?_; rw [HF.out]; rintro e w2 ⟨v2, rfl, hR2, hb2⟩; obtain ⟨A2, c2, rfl, hc2, hC2⟩ := Kd.R_reads hR2; have D2 := below_onR hb2 (below_alloc D1 _))
          | (have LR := rows3 (t := 29) (lit_one w1 5 kind) (Nat.le_refl _) (Kd.C_alloc hC1 _) hc1 (HRW.out _ (below_alloc D1 _)) hc; rw [World.size_alloc] at LR; refine (concatB_calls (some ⟨w1.heap.size + 1, 0, none⟩) 3 [[kind], pn, l] _ LR (Nat.le_refl _) HFL.out).mono ?_; rw [HF.out]; rintro e w2 ⟨v2, rfl, hR2, hb2⟩; obtain ⟨A2, c2, rfl, hc2, hC2⟩ := Kd.R_reads hR2; have D2 := below_onR hb2 (below_alloc (below_alloc D1 _) _)))
      | (go_at_call 50; refine (seal_calls A2 c2 xx w2 hC2 hc2 hxo (by have := HXL.out; omega)).mono ?_; rw [← HB.out]; rintro e w3 ⟨v3, rfl, hR3, hb3⟩; have D3 := below_onR hb3 D2))
  all_goals

    have hR4 := Kd.R_lower hR3 (show w.heap.size ≤ _ from Nat.le_trans HW0.out.size D2.size)
    have hB3 := HW0.out.trans (D3.mono HW0.out.size)
    clear hR3
    go_wp2_with (fail)
    refine bodyPost_ret (results_tmp2 (fn := Try.f38) (t := 2) (u := 3) rfl _ _ _) rfl ?_
    exact ⟨_, rfl, hR4, hB3⟩

end Go.Proofs.Ytiopafdndlodoaa.H
