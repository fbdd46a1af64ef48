import Derived.Test.YtiallcoopdlneaaVariR
import Derived.Test.YtiallcoopdlneaaZigA
import Derived.Lib.Hide
import Derived.Outline
import Derived.Deep.RegionWith
import Derived.Maps.AppendAt
/-! zig.Steps and zig.Sums, walked: closures that keep the last number. -/
namespace Go.Proofs.Ytiallcoopdlneaa.H
open Go.RowKit Moor Go.Proofs.YtiallcoopdlneaaW.PrintWords Go.Proofs.YtiallcoopdlneaaW.PrintLast Go.Proofs.YtiallcoopdlneaaW.PrintMore
set_option linter.unusedVariables false
set_option linter.unusedSimpArgs false

/-- vari.All's contract. -/
theorem all_calls (A0 : Option Addr) (c0 : Nat) (l : List Int) (w : World) (hr : Kd.C (Kd.int .i64) w A0 l.length l) (hc : l.length ≤ c0) :
    Calls Try.prog 16 #[.slice A0 l.length c0] w fun e w' => ∃ v0_ : Value, e = .returned (.tuple #[v0_, .bool (vAll l).2]) ∧ Kd.R (Kd.int .u8) 5 w' w.heap.size (fun _ => True) v0_ (vAll l).1 ∧ Below w.heap.size w w' :=
  B.vari_All.calls 420 A0 c0 l _ _ w hr hc (vAll_tells l 420 (by omega))
/-- vari.Read's contract. -/
theorem read_calls (A0 : Option Addr) (c0 : Nat) (l : List Int) (w : World) (hr : Kd.C (Kd.int .u8) w A0 l.length l) (hc : l.length ≤ c0) (ho : okB l) (hl : l.length ≤ 140737488355328) :
    Calls Try.prog 17 #[.slice A0 l.length c0] w fun e w' => ∃ v : Value, e = .returned (.tuple #[v, .bool (vRead l).2]) ∧ Kd.R (Kd.int .i64) 3 w' w.heap.size (fun _ => True) v (vRead l).1 ∧ Below w.heap.size w w' := by
  refine (callsIn_wide.1 (read_in 6 (Nat.le_refl _) A0 c0 l ho hc hl w hr)).mono ?_
  rintro e w' ⟨v, rfl, hv, hb⟩
  exact ⟨v, rfl, Kd.R_of_own hv (fun _ _ => trivial), hb⟩
theorem zig_calls (n : Int) (w : World) (h : -274877906944 ≤ n ∧ n ≤ 274877906944) : Calls Try.prog 9 #[.int .i64 n] w fun e w' => e = .returned (.int .i64 (zig n)) ∧ ∃ q, w' = w.drewN q :=
  (B.zig_Zig.calls 1 n (zig n) w (by rw [zig_tells n 1 (by omega)]; unfold vZig; rw [if_neg (by omega)])).mono fun e w' h => ⟨h.1, h.2.out⟩
theorem zag_calls (n : Int) (w : World) : Calls Try.prog 10 #[.int .i64 n] w fun e w' => e = .returned (.int .i64 (vZag n)) ∧ ∃ q, w' = w.drewN q :=
  (B.zig_Zag.calls n (vZag n) w (zag_tells n)).mono fun e w' h => ⟨h.1, h.2.out⟩
theorem zin_calls (n : Int) (b : Bool) (hb : decide (zin n) = b) (w : World) : Calls Try.prog 15 #[.int .i64 n] w fun e w' => e = .returned (.bool b) ∧ ∃ q, w' = w.drewN q :=
  (B.zig_in.calls n b w (by rw [zin_tells, hb])).mono fun e w' h => ⟨h.1, h.2.out⟩

theorem grown_drewN (w : World) (q : Nat) (row : Option Nat) : w.grownBy (w.drewN q) row := grown_of_below (pw_below_drewN (Below.refl _ _) q) row

set_option maxHeartbeats 1000000 in
/-- Steps' closure. -/
theorem step_calls (x p : Int) (Bl : Nat) (w : World) (hb : Boxed w Bl 3 (.int .i64 p)) (hx : zin x) (hp : zin p) :
    Calls Try.prog 14 #[.int .i64 x, .pointer (some ⟨Bl, 0, none⟩)] w fun e w' => e = .returned (.int .i64 (zig (x - p))) ∧ Boxed w' Bl 3 (.int .i64 x) ∧ w.grownBy w' (some Bl) := by
  have hbx := hb
  have h1 := hx.1
  have h2 := hx.2
  have h3 := hp.1
  have h4 := hp.2
  have hc := hb.cell
  have hf := hb.frozen
  clear hb hx hp
  go_enter Try.func14, Try.ntmps14
  go_wp2_with (fail)
  refine (zig_calls (x - p) _ ⟨by omega, by omega⟩).mono ?_
  rintro e w1 ⟨rfl, q, rfl⟩
  go_wp2_with (fail)
  go_ret
  exact ⟨rfl, hbx.set _, World.grownBy.trans (grown_drewN w q _) (grownBy_setCell' _ _ _)⟩

theorem cell_of {w : World} {A : Option Addr} {l : List Int} (h : Kd.C (Kd.int .i64) w A l.length l) (k : Nat) (hk : k < l.length) : ∃ ad, A = some ad ∧ w.cell? (ad.add k) = some (.int .i64 l[k]) := by
  obtain ⟨ad, e, hc⟩ := Kd.at_int h (k : Int) (by omega) (by omega)
  rw [rd_nat l k hk] at hc
  exact ⟨ad, e, by simpa using hc⟩

def StepsEnd (l : List Int) (w : World) (e : Ending) (w' : World) : Prop := ∃ v : Value, e = .returned (.tuple #[v, .bool (vSteps l).2]) ∧ Kd.R (Kd.int .u8) 5 w' w.heap.size (fun _ => True) v (vSteps l).1 ∧ Below w.heap.size w w'

set_option maxRecDepth 100000 in
set_option maxHeartbeats 4000000 in
theorem steps_calls (A : Option Addr) (c : Nat) (l : List Int) (w : World) (hR : Kd.C (Kd.int .i64) w A l.length l) (hc : l.length ≤ c) (hl : l.length * 8 ≤ 140737488355328) :
    Calls Try.prog 11 #[.slice A l.length c] w (StepsEnd l w) := by
  have hmk := print_make (P := Try.prog) 25 3 .i64 8 Try.underlying25 info3 (by decide) l.length (by omega)
  have hll : l.length ≤ 9223372036854775807 := by omega
  go_enter Try.func11, Try.ntmps11
  go_wp2_with (fail)
  have hb0 : Boxed ((w.alloc (.cells #[.int .i64 0] 3)).alloc (.cells (madeCells #[.int .i64 0] l.length) 3)) w.heap.size 3 (.int .i64 0) := (Boxed.new w 3 (.int .i64 0)).alloc _
  have ho0 := own_made (w.alloc (.cells #[.int .i64 0] 3)) w.heap.size 3 .i64 l.length (by simp) hll
  rw [World.size_alloc] at ho0
  have hB0 : Below w.heap.size w ((w.alloc (.cells #[.int .i64 0] 3)).alloc (.cells (madeCells #[.int .i64 0] l.length) 3)) := ((Below.refl _ w).alloc (Nat.le_refl _) _).alloc (by simp) _
  go_loopw [14] (fun i wr => ∃ k : Nat, k ≤ l.length ∧ i = .int .i64 (k : Int) ∧ (∀ j, j < k → zin (l[j]?.getD 0)) ∧ Boxed wr w.heap.size 3 (.int .i64 (lastOf l k)) ∧ wr.ownsRow w.heap.size 3 1 (.slice (some ⟨w.heap.size + 1, 0, none⟩) l.length l.length) l.length (nums .i64 (doneOf l k)) ∧ Below w.heap.size w wr)
    (fun i _ => l.length - (intOf i).toNat)
  case atStart => exact ⟨0, Nat.zero_le _, rfl, fun j hj => by omega, hb0, by rw [doneOf_0]; exact ho0, hB0⟩
  case round =>
    obtain ⟨k, hk, rfl, hz, hbx, hown, hB⟩ := hrel
    by_cases hlt : k < l.length
    · have hlti : (k : Int) < (l.length : Int) := by omega
      obtain ⟨ad, rfl, hcell⟩ := cell_of (Kd.C_below hR hB) k hlt
      have hlast := lastOf_zin l k hk hz
      have hst := doneOf_succ l k hlt
      generalize hx : l[k] = x at *
      have HX := Lib.hid hx
      have HST := Lib.hid hst
      have HZ := Lib.hid hz
      clear hx hst hz hb0 ho0 hmk
      by_cases hin : zin x
      · go_wp2_with (fail)
        refine (zin_calls x true (decide_eq_true hin) _).mono ?_
        rintro e w1 ⟨rfl, q, rfl⟩
        go_wp2_with (fail)
        refine (step_calls x (lastOf l k) w.heap.size _ (hbx.kept (grown_drewN wr q none) (by simp)) hin hlast).mono ?_
        rintro e w2 ⟨rfl, hbx2, hg2⟩
        have hg : wr.grownBy w2 (some w.heap.size) := World.grownBy.trans (grown_drewN wr q _) hg2
        have hown2 := hown.kept hg (.inr (by simp [Value.ownBlock]))
        have hB2 : Below w.heap.size w w2 := hB.grown hg hB.size (fun j e => by cases e; exact Nat.le_refl _)
        have hat := own_at hown2 (k : Int) (by omega) (by omega)
        have hat1 : w2.cell? ⟨w.heap.size + 1, k, none⟩ = some (.int .i64 (rd (doneOf l k) (k : Int))) := by simpa using hat.1
        have hat2 : w2.frozen? ⟨w.heap.size + 1, k, none⟩ = false := by simpa using hat.2
        have hst3 := own_store hown2 (k : Int) (zig (x - lastOf l k))
        simp only [Int.toNat_natCast] at hst3
        rw [HST.out] at hst3
        have hbx3 : Boxed (w2.setCell ⟨w.heap.size + 1, k, none⟩ (.int .i64 (zig (x - lastOf l k)))) w.heap.size 3 (.int .i64 x) := (Below.heap_setCell w2 _ _ _ (by simp)).trans hbx2
        have hB3 : Below w.heap.size w (w2.setCell ⟨w.heap.size + 1, k, none⟩ (.int .i64 (zig (x - lastOf l k)))) := hB2.setCell (by simp) _
        clear hown hown2 hat hcell hbx hbx2 hg hg2
        go_wp2_with (fail)
        go_roundw
        case rel => exact ⟨k + 1, by omega, by go_num, fun j hj => by
          rcases Nat.lt_or_ge j k with h | h
          · exact HZ.out j h
          · have : j = k := by omega
            subst this
            simp [hlt, HX.out, hin], by rw [lastOf_succ l k hlt, HX.out]; exact hbx3, hst3.1, hB3⟩
        case measure => simp [intOf]; omega
      · go_wp2_with (fail)
        refine (zin_calls x false (decide_eq_false hin) _).mono ?_
        rintro e w1 ⟨rfl, q, rfl⟩
        have hno : ¬ ∀ y ∈ l, zin y := fun h => hin (by rw [← HX.out]; exact h _ (List.getElem_mem hlt))
        have hv : vSteps l = ([], false) := vSteps_neg (fun h => hno h.2)
        have HV := Lib.hid hv
        clear hv hno
        go_wp2_with (fail)
        refine bodyPost_ret (results_tmp2 (fn := Try.f11) (t := 2) (u := 3) rfl _ _ _) rfl ?_
        exact ⟨.slice none 0 0, by rw [HV.out]; rfl, by rw [HV.out]; exact Kd.R_nil _ _ _ _ _, pw_below_drewN hB q⟩
    · have hnl : ¬ ((k : Int) < (l.length : Int)) := by omega
      obtain rfl : k = l.length := by omega
      rw [doneOf_all] at hown
      have hall : ∀ x ∈ l, zin x := fun x hx => by
        obtain ⟨j, hj, rfl⟩ := List.mem_iff_getElem.1 hx
        have := hz j hj
        simpa [hj] using this
      have hv : vSteps l = vAll (diffs 0 l) := by unfold vSteps; rw [if_pos hall]
      have hdl := diffs_length 0 l
      have hRd : Kd.C (Kd.int .i64) wr (some ⟨w.heap.size + 1, 0, none⟩) (diffs 0 l).length (diffs 0 l) := by
        have h := Kd.R_of_own (ok := fun _ => True) (h1 := fun _ => rfl) (by rw [hdl]; exact hown) (fun _ _ => trivial)
        exact (Kd.R_reads' h).2.2
      have G := all_calls (some ⟨w.heap.size + 1, 0, none⟩) l.length (diffs 0 l) wr hRd (by omega)
      rw [hdl] at G
      have HV := Lib.hid hv
      clear hv hdl hRd hown hz hall
      go_wp2_with (fail)
      refine G.mono ?_
      rintro e w1 ⟨v, rfl, hR1, hb1⟩
      go_wp2_with (fail)
      refine bodyPost_ret (results_tmp2 (fn := Try.f11) (t := 2) (u := 3) rfl _ _ _) rfl ?_
      exact ⟨v, by rw [HV.out]; rfl, by rw [HV.out]; exact Kd.R_lower hR1 hB.size, hB.trans (hb1.mono hB.size)⟩

set_option maxHeartbeats 4000000 in
/-- Sums' closure. -/
theorem sum_calls (k p : Int) (b : Bool) (Bl : Nat) (w : World) (hb : Boxed w Bl 3 (.int .i64 p)) (hp : zin p) (hd : decide (k ≤ 549755813888 ∧ zin (p + vZag k)) = b) :
    Calls Try.prog 18 #[.int .i64 k, .pointer (some ⟨Bl, 0, none⟩)] w fun e w' => e = .returned (.bool b) ∧ Boxed w' Bl 3 (.int .i64 (p + vZag k)) ∧ w.grownBy w' (some Bl) := by
  have hbx := hb
  have h1 := vZag_bd k
  have h3 := hp.1
  have h4 := hp.2
  have hc := hb.cell
  have hf := hb.frozen
  have hG : ∀ q q2 : Nat, Boxed ((w.drewN q).setCell ⟨Bl, 0, none⟩ (.int .i64 (p + vZag k))) Bl 3 (.int .i64 (p + vZag k)) ∧ w.grownBy (((w.drewN q).setCell ⟨Bl, 0, none⟩ (.int .i64 (p + vZag k))).drewN q2) (some Bl) := fun q q2 =>
    ⟨(hbx.kept (grown_drewN w q none) (by simp)).set _, World.grownBy.trans (World.grownBy.trans (grown_drewN w q _) (grownBy_setCell' _ _ _)) (grown_drewN _ _ _)⟩
  have HG := Lib.hid hG
  clear hb hbx hG hp
  by_cases hk : k ≤ 549755813888
  · go_enter Try.func18, Try.ntmps18
    go_wp2_with (fail)
    go_region_with (go_at_call 10; refine (zag_calls k _).mono ?_; rintro e w1 ⟨rfl, q, rfl⟩)
    all_goals
      go_wp2_with (fail)
      refine (zin_calls (p + vZag k) b (by rw [← hd]; exact decide_eq_decide.2 ⟨fun h => ⟨hk, h⟩, fun h => h.2⟩) _).mono ?_
      rintro e w2 ⟨rfl, q2, rfl⟩
      go_wp2_with (fail)
      go_ret
      exact ⟨rfl, (HG.out _ q2).1, (HG.out _ q2).2⟩
  · obtain rfl : false = b := by rw [← hd]; exact (decide_eq_false (fun h => hk h.1)).symm
    go_enter Try.func18, Try.ntmps18
    go_wp2_with (fail)
    go_region_with (go_at_call 10; refine (zag_calls k _).mono ?_; rintro e w1 ⟨rfl, q, rfl⟩)
    all_goals
      go_wp2_with (fail)
      go_ret
      exact ⟨rfl, (HG.out _ 0).1, (HG.out _ 0).2⟩

theorem own_far {W : World} {B : Nat} {e : TypeId} {size k : Nat} {v : Value} {xs : List Value} (h : W.ownsRow (B + 1) e size v k xs) : v.ownBlock = none ∨ v.ownBlock ≠ some B := by
  cases hv : v.ownBlock with
  | none => exact .inl rfl
  | some g =>
    have := own_base h g hv
    exact .inr (fun e => by cases e; omega)

def SumsEnd (b : List Int) (w : World) (e : Ending) (w' : World) : Prop := ∃ v : Value, e = .returned (.tuple #[v, .bool (vSums b).2]) ∧ Kd.R (Kd.int .i64) 3 w' w.heap.size (fun _ => True) v (vSums b).1 ∧ Below w.heap.size w w'

set_option maxRecDepth 100000 in
set_option maxHeartbeats 8000000 in
theorem sums_calls (A : Option Addr) (c : Nat) (b : List Int) (w : World) (hR : Kd.C (Kd.int .u8) w A b.length b) (hc : b.length ≤ c) (ho : okB b) (hl : b.length ≤ 140737488355328) :
    Calls Try.prog 12 #[.slice A b.length c] w (SumsEnd b w) := by
  obtain ⟨i0, hi, hz0, hz1, hz2⟩ := info_parts info3
  have hzl := vRead_le b
  by_cases hok : (vRead b).2 = true
  · go_enter Try.func12, Try.ntmps12
    go_wp2_with (fail)
    refine (read_calls A c b w hR hc ho hl).mono ?_
    rintro e w1 ⟨v1, rfl, hR1, hb1⟩
    rw [hok]
    obtain ⟨A1, c1, rfl, hc1, hC1⟩ := Kd.R_reads hR1
    have hsz : w.heap.size ≤ w1.heap.size := hb1.size
    have hend : vSums b = optL (sums 0 (vRead b).1) := by unfold vSums; rw [if_pos hok]
    generalize (vRead b).1 = z at *
    have HE := Lib.hid hend
    clear hend hok hR1
    go_wp2_with (fail)
    have hb0 : Boxed (w1.alloc (.cells #[.int .i64 0] 3)) w1.heap.size 3 (.int .i64 0) := Boxed.new w1 3 (.int .i64 0)
    have hB0 : Below w1.heap.size w1 (w1.alloc (.cells #[.int .i64 0] 3)) := (Below.refl _ w1).alloc (Nat.le_refl _) _
    go_loopw [8, 20] (fun v i wr => ∃ (k : Nat) (p : Int) (done : List Int), k ≤ z.length ∧ i = .int .i64 (k : Int) ∧ zin p ∧ done.length = k ∧ Hid (sums 0 z = (sums p (z.drop k)).map (done ++ ·)) ∧ Boxed wr w1.heap.size 3 (.int .i64 p) ∧ wr.ownsRow (w1.heap.size + 1) 3 1 v k (nums .i64 done) ∧ Below w1.heap.size w1 wr)
      (fun _ i _ => z.length - (intOf i).toNat)
    case atStart => exact ⟨0, 0, [], Nat.zero_le _, rfl, zin0, rfl, Lib.hid (by cases h : sums 0 z <;> simp [h]), hb0, own_nil _ _ _ _, hB0⟩
    case round =>
      obtain ⟨k, p, done, hk, rfl, hp, hdl, hs, hbx, hown, hB⟩ := hrel
      by_cases hlt : k < z.length
      · have hlti : (k : Int) < (z.length : Int) := by omega
        obtain ⟨ad, rfl, hcell⟩ := cell_of (Kd.C_below hC1 hB) k hlt
        have hdrop : z.drop k = z[k] :: z.drop (k + 1) := List.drop_eq_getElem_cons hlt
        generalize hx : z[k] = x at *
        have HD := Lib.hid hdrop
        have HDL := Lib.hid hdl
        have HP := hp
        clear hdrop hx hdl hb0
        by_cases hin : x ≤ 549755813888 ∧ zin (p + vZag x)
        · go_wp2_with (fail)
          refine (sum_calls x p true w1.heap.size wr hbx hp (decide_eq_true hin)).mono ?_
          rintro e w2 ⟨rfl, hbx2, hg2⟩
          have hown2 := hown.kept hg2 (own_far hown)
          have hB2 : Below w1.heap.size w1 w2 := hB.grown hg2 hB.size (fun j e => by cases e; exact Nat.le_refl _)
          have hsz2 := hbx2.lt
          have hne : some w1.heap.size ≠ u8.ownBlock := by
            rcases own_far hown with h | h
            · rw [h]; exact fun e => by cases e
            · exact fun e => h e.symm
          have hsx : Hid (sums 0 z = (sums (p + vZag x) (z.drop (k + 1))).map ((done ++ [p + vZag x]) ++ ·)) := Lib.hid (by
            rw [hs.out, HD.out]
            simp only [sums]
            rw [if_pos hin]
            cases sums (p + vZag x) (z.drop (k + 1)) <;> simp)
          have hz2' := hin.2
          have hcl := hbx2.cell
          generalize p + vZag x = p2 at *
          clear hin hs
          go_wp2_with (at_builtin; refine wpList_append_own _ rfl _ _ 25 rfl (w1.heap.size + 1) 3 i0 (.int .i64 0) 1 8 Try.underlying25 hi hz0 hz1 hz2 rfl (by decide) _ _ _ rfl (hown2.alloc _) ⟨w2.heap.size, 0, none⟩ 1 1 [.int .i64 p2] rfl rfl (cell_one_new _ _ _) (by simp [Value.oneCell']) (by unfold maxLen; omega) (by omega) (by simp; omega) ?_; intro v' w3 hown3 hgrow _)
          have hbx3 : Boxed w3 w1.heap.size 3 (.int .i64 p2) := (hbx2.alloc _).kept hgrow hne
          have hB3 : Below w1.heap.size w1 w3 := (hB2.alloc hB2.size _).grown hgrow (by simp; omega) (fun j e => by have := own_base hown j e; omega)
          go_roundw
          case rel => exact ⟨k + 1, p2, done ++ [p2], by omega, by go_num, hz2', by simp [HDL.out], hsx, hbx3, by simpa [nums] using hown3, hB3⟩
          case measure => simp [intOf]; omega
        · go_wp2_with (fail)
          refine (sum_calls x p false w1.heap.size wr hbx hp (decide_eq_false hin)).mono ?_
          rintro e w2 ⟨rfl, hbx2, hg2⟩
          have hB2 : Below w1.heap.size w1 w2 := hB.grown hg2 hB.size (fun j e => by cases e; exact Nat.le_refl _)
          have hv : vSums b = ([], false) := by
            rw [HE.out, hs.out, HD.out]
            simp only [sums]
            rw [if_neg hin]
            rfl
          have HV := Lib.hid hv
          clear hv hin hs
          go_wp2_with (fail)
          refine bodyPost_ret (results_tmp2 (fn := Try.f12) (t := 2) (u := 3) rfl _ _ _) rfl ?_
          exact ⟨.slice none 0 0, by rw [HV.out]; rfl, by rw [HV.out]; exact Kd.R_nil _ _ _ _ _, hb1.trans (hB2.mono hsz)⟩
      · have hnl : ¬ ((k : Int) < (z.length : Int)) := by omega
        have hkz : k = z.length := by omega
        have hv : vSums b = (done, true) := by
          rw [HE.out, hs.out, hkz, List.drop_length]
          simp [sums, optL]
        have HV := Lib.hid hv
        have hRf : Kd.R (Kd.int .i64) 3 wr w.heap.size (fun _ => True) u8 done := Kd.R_lower (Kd.R_of_own (ok := fun _ => True) (h1 := fun _ => rfl) (by rw [hdl]; exact hown) (fun _ _ => trivial)) (by omega)
        clear hv hkz hs hown hb0
        go_wp2_with (fail)
        refine bodyPost_ret (results_tmp2 (fn := Try.f12) (t := 2) (u := 3) rfl _ _ _) rfl ?_
        exact ⟨u8, by rw [HV.out]; rfl, by rw [HV.out]; exact hRf, hb1.trans (hB.mono hsz)⟩
  · have hv : vSums b = ([], false) := by unfold vSums; rw [if_neg hok]
    have hok' : (vRead b).2 = false := by simpa using hok
    have HV := Lib.hid hv
    clear hv hok
    go_enter Try.func12, Try.ntmps12
    go_wp2_with (fail)
    refine (read_calls A c b w hR hc ho hl).mono ?_
    rintro e w1 ⟨v1, rfl, hR1, hb1⟩
    rw [hok']
    go_wp2_with (fail)
    refine bodyPost_ret (results_tmp2 (fn := Try.f12) (t := 2) (u := 3) rfl _ _ _) rfl ?_
    exact ⟨.slice none 0 0, by rw [HV.out]; rfl, by rw [HV.out]; exact Kd.R_nil _ _ _ _ _, hb1⟩

end Go.Proofs.Ytiallcoopdlneaa.H
