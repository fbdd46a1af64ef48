import Derived.Test.YtahiigcofgnncaaDiskK
import Derived.Deep.RegionWith
import Derived.Deep.RegionLaw
/-! Layer 6: what is done to a file: Write's closure, walked. -/
namespace Go.Proofs.Ytahiigcofgnncaa.H
open Go.RowKit Moor Go.Proofs.YtahiigcofgnncaaW.PrintWords Go.Proofs.YtahiigcofgnncaaW.PrintLast Go.Proofs.YtahiigcofgnncaaW.PrintMore
set_option linter.unusedVariables false
set_option linter.unusedSimpArgs false

def writeF (cap : Int) (l : List Fl) (b : List Int) (i : Nat) : List Fl × Int := if (usedF l : Int) + b.length > cap then (l, 9) else (l.set i ⟨(l.getD i ⟨0, [], 0⟩).no, (l.getD i ⟨0, [], 0⟩).data ++ b, (l.getD i ⟨0, [], 0⟩).sure⟩, 0)
set_option maxRecDepth 100000 in
set_option maxHeartbeats 16000000 in
theorem write1_do (cap : Int) (l : List Fl) (bA : Option Addr) (bc : Nat) (b : List Int) (b5 : Nat) (wq : World) (i : Nat) (hi : i < l.length) (hm : mayD ⟨cap, l⟩) (hbx : BoxC wq b5 #[.slice bA b.length bc] 30) (hbC : Kd.C kB wq bA b.length b) (hbc : b.length ≤ bc) (hbl : b.length ≤ 1000000) (hs : smallF l) :
    DoOk 39 #[.pointer (some ⟨b5, 0, none⟩)] cap l i (writeF cap l b i) wq := by
  intro W B base A1 c1 xs hqW hqb hbB bO hO hx
  have hus : usedF l ≤ 65536 := by have := hm.2.2.2.2; have := hm.2.2.1; dsimp only at *; omega
  have hcap : 0 ≤ cap ∧ cap ≤ 65536 := ⟨hm.2.1, hm.2.2.1⟩
  have hli : (i : Int) < (l.length : Int) := by omega
  obtain ⟨g, rfl, hg1, hg2⟩ := hO.form (by omega)
  obtain ⟨x, hxi, r0, r1, r2, hgd, hfz⟩ := hO.get i hi
  have hrd := hO.reads
  rw [hx] at hrd
  have HRD := Lib.hid hrd.2
  have hlc := hrd.1
  have HC := Lib.hid (Kd.C_below hbC hqW)
  have bb := hbx.below hqW
  have d0 := bO.c 0 rfl
  have d1 := bO.c 1 rfl
  have b0 := bb.c 0 rfl
  have HM := Lib.hid hm
  have HO := Lib.hid hO
  have BO := Lib.hid bO
  have BB := Lib.hid bb
  have HX := Lib.hid hx
  have HXI := Lib.hid hxi
  have HSS := Lib.hid (show ∀ W', Below W.heap.size W W' → W'.cell? ⟨b5, 0, none⟩ = some (.slice bA b.length bc) ∧ W'.cell? ⟨B, 0, none⟩ = some (.int .i64 cap) ∧ W'.cell? ⟨B, 1, none⟩ = some (.slice (some ⟨g, 0, none⟩) l.length c1) from fun W' h => ⟨(bb.below h).c 0 rfl, (bO.below h).c 0 rfl, (bO.below h).c 1 rfl⟩)
  have D0 := Lib.hid (show Below W.heap.size W W.drew from (Below.refl _ W).drew)
  obtain ⟨u, hu⟩ : ∃ u, usedF l = u := ⟨_, rfl⟩
  have HU := Lib.hid hu
  have hu2 : u ≤ 65536 := by omega
  have hsub : IntKind.i64.wrap (cap - (u : Int)) = cap - (u : Int) := i64_of (by omega) (by omega)
  clear hm hO bO bb hx hxi hrd hu hus hbC hbx
  by_cases hfull : (u : Int) + b.length > cap
  · have hw : writeF cap l b i = (l, 9) := by unfold writeF; rw [HU.out, if_pos hfull]
    have hgt : cap - (u : Int) < (b.length : Int) := by omega
    rw [hw]
    clear hw hfull
    go_enter Try.func39, Try.ntmps39
    go_wp2_with (fail)
    go_region_held3 (fun W' => W'.cell? ⟨b5, 0, none⟩ = some (.slice bA b.length bc) ∧ W'.cell? ⟨B, 0, none⟩ = some (.int .i64 cap) ∧ W'.cell? ⟨B, 1, none⟩ = some (.slice (some ⟨g, 0, none⟩) l.length c1))
      (first | (with_reducible exact HSS.out _ D0.out) | (with_reducible exact HSS.out _ D1.out))
      ((go_at_call 31; refine (used_calls _ c1 l _ (Kd.C_below HRD.out D0.out) hlc (by have := HU.out; omega)).mono ?_; rintro e v1 ⟨rfl, hq1⟩; rw [HU.out]; have D1 := Lib.hid (below_onR hq1 D0.out)))
    all_goals
      clear hsub
      go_wp2_with (fail)
      go_ret
      exact ⟨rfl, D1.out.mono (by omega), (fun h => by cases h)⟩
  · have hw : writeF cap l b i = (l.set i ⟨(l.getD i ⟨0, [], 0⟩).no, (l.getD i ⟨0, [], 0⟩).data ++ b, (l.getD i ⟨0, [], 0⟩).sure⟩, 0) := by unfold writeF; rw [HU.out, if_neg hfull]
    have hgt : ¬ cap - (u : Int) < (b.length : Int) := by omega
    rw [hw]
    obtain ⟨m, hmm⟩ : ∃ m, l.set i ⟨(l.getD i ⟨0, [], 0⟩).no, (l.getD i ⟨0, [], 0⟩).data ++ b, (l.getD i ⟨0, [], 0⟩).sure⟩ = m := ⟨_, rfl⟩
    rw [hmm]
    have HMM := Lib.hid hmm
    clear hmm
    clear hw hfull
    go_enter Try.func39, Try.ntmps39
    go_wp2_with (fail)
    go_region_held3 (fun W' => W'.cell? ⟨b5, 0, none⟩ = some (.slice bA b.length bc) ∧ W'.cell? ⟨B, 0, none⟩ = some (.int .i64 cap) ∧ W'.cell? ⟨B, 1, none⟩ = some (.slice (some ⟨g, 0, none⟩) l.length c1))
      (first | (with_reducible exact HSS.out _ D0.out) | (with_reducible exact HSS.out _ D1.out))
      ((go_at_call 31; refine (used_calls _ c1 l _ (Kd.C_below HRD.out D0.out) hlc (by have := HU.out; omega)).mono ?_; rintro e v1 ⟨rfl, hq1⟩; rw [HU.out]; have D1 := Lib.hid (below_onR hq1 D0.out)))
    all_goals
      clear hsub d0 d1 b0 r0 r1 r2 hfz hgd
      have hO1 := HO.out.moved (W1 := v1) (fun q _ hq => D1.out.block q hq)
      obtain ⟨x1, hx1, r0, r1, r2, hgd, hfz⟩ := hO1.get i hi
      obtain rfl : x1 = x := by
        have := HXI.out
        rw [hx1] at this
        injection this
      obtain ⟨no, xA, xc, data, sure⟩ := x1
      have hgv : Kd.R kB 5 v1 base (fun _ => True) (.slice xA data.length xc) data := hgd
      have r1' : v1.cell? ⟨g, i * 3 + 1, none⟩ = some (.slice xA data.length xc) := r1
      have hdl : data.length ≤ 1000000 := by
        have h1 := own_get_at HX.out HXI.out
        exact hs _ (List.mem_of_getElem? h1)
      have bO1 := BO.out.below D1.out
      have bb1 := BB.out.below D1.out
      have d1 := bO1.c 1 rfl
      have b0 := bb1.c 0 rfl
      have hf1 := hfz (i * 3 + 1)
      have hsz1 := D1.out.size
      have hneB : ∀ k cs t, BoxC v1 k cs t → t ≠ 5 → (Value.slice xA data.length xc).ownBlock ≠ some k := fun k cs t hk ht e => by
        obtain ⟨cells, hc9⟩ := Kd.R_typed hgv k e
        have h9 : v1.heap[k]? = _ := hk
        rw [hc9] at h9
        injection h9 with h9
        injection h9 with _ h9
        exact ht h9.symm
      obtain ⟨gcells, hgb⟩ := own_typed hO1.2.1 g rfl
      have hneg : (Value.slice xA data.length xc).ownBlock ≠ some g := hneB g _ _ hgb (by decide)
      have hneO : (Value.slice xA data.length xc).ownBlock ≠ some B := hneB B _ _ bO1 (by decide)
      have hBg : B ≠ g := fun e => by
        have h9 : v1.heap[B]? = _ := bO1
        rw [e, hgb] at h9
        injection h9 with h9
        injection h9 with _ h9
        cases h9
      have HKK := Lib.hid (show ∀ u, v1.drew.grownBy u (Value.slice xA data.length xc).ownBlock → u.cell? ⟨B, 1, none⟩ = some (.slice (some ⟨g, 0, none⟩) l.length c1) ∧ u.cell? ⟨g, i * 3 + 1, none⟩ = some (.slice xA data.length xc) ∧ u.frozen? ⟨g, i * 3 + 1, none⟩ = false from fun u hu => by
        have hB9 : u.heap[B]? = v1.heap[B]? := hu.block B (blk_lt bO1) (by intro e; first | exact hneO e | exact hneO e.symm)
        have hg9 : u.heap[g]? = v1.heap[g]? := hu.block g (blk_lt hgb) (by intro e; first | exact hneg e | exact hneg e.symm)
        exact ⟨(World.cell?_of_block (w := v1) hB9).trans d1, (World.cell?_of_block (w := v1) hg9).trans r1', (show BoxC u g gcells _ from hg9.trans hgb).f _⟩)
      have HGV := Lib.hid hgv
      have HC1 := Lib.hid (Kd.C_below HC.out D1.out)
      have HO1 := Lib.hid hO1
      have BO1 := Lib.hid bO1
      have HGB := Lib.hid hgb
      clear hgv hO1 bO1 bb1 hgd r0 r2 hfz hgb r1
      go_wp2_with (fail)
      go_region_law ((refine Kd.R_append_rows_step (Kd.int .u8) (Rr := fun x cs => cs = [.int .u8 x]) (w0 := v1) base (by rfl) _ _ 30 5 (.int .u8 0) 1 (by rfl) Try.underlying30 infoU8 rfl (by decide) (by decide) (.slice xA data.length xc) data b bA b.length bc (fun _ => True) (fun _ => False) (by rfl) (by rfl) (Kd.R_drew HGV.out) (Kd.C_drew HC1.out) (fun _ _ h => h) (fun _ h => h.elim) (fun _ _ => trivial) (below_drew (Below.refl _ _)) (by simp; omega) (by omega) ?_; intro y1 u1 hR1 hB1 hG1 hat; obtain ⟨A2, c2, rfl, hc2, hC2⟩ := Kd.R_reads hR1; obtain ⟨z1, z2, z3⟩ := HKK.out u1 hG1))
      all_goals
        have hl1 := own_get_at HX.out HXI.out
        have hgD : l.getD i ⟨0, [], 0⟩ = ⟨no, data, sure⟩ := by rw [List.getD_eq_getElem?_getD, hl1]; rfl
        have hmx : m = (xs.set i ⟨no, A2, c2, data ++ b, sure⟩).map flX := by
          rw [← HMM.out, hgD, List.map_set, HX.out]
        have hml : m.length = l.length := by rw [hmx, List.length_map, List.length_set]; exact own_len HX.out
        have hgb1 : u1.heap[g]? = some (.cells gcells 32 (0, 0)) := (hG1.block g (blk_lt HGB.out) (by intro e; first | exact hneg e | exact hneg e.symm)).trans HGB.out
        have hrow1 : u1.ownsRow base 32 3 (.slice (some ⟨g, 0, none⟩) l.length c1) l.length (flat xs) := own_move HO1.out.2.1 (fun j hj => hG1.block j (own_lt HO1.out.2.1 j hj) (by
          have hjg : g = j := by simpa [Value.ownBlock] using hj
          subst hjg
          intro e
          first
            | exact hneg e
            | exact hneg e.symm))
        have hrow := row_put1 hrow1 HXI.out A2 c2 (data ++ b)
        have ht : ∀ q, q ∈ (5 : TypeId) :: kB.E → q ≠ 32 := by intro q hq; simp [Kd.int, Kd.scalar] at hq; subst hq; decide
        have hput := HO1.out.put (W' := u1.setCell ⟨g, i * 3 + 1, none⟩ (.slice A2 (data ++ b).length c2)) HXI.out hrow (fun q h1 h2 h3 h4 => (Below.heap_setCell _ _ _ q h3).trans (hG1.block q h2 (by intro e; first | exact h4 e | exact h4 e.symm))) (Kd.R_set hR1 hgb1 ht _ _) (fun q hq => by
          rcases hat with h9 | ⟨b9, h9, h10⟩
          · left
            show (Value.slice xA data.length xc).ownBlock = some q
            rw [← h9]
            exact hq
          · right
            have h11 : (Value.slice A2 (data ++ b).length c2).ownBlock = some q := hq
            rw [h9] at h11
            injection h11 with h11
            have h12 : v1.heap.size ≤ b9 := h10
            omega)
        have hBo : BoxC (u1.setCell ⟨g, i * 3 + 1, none⟩ (.slice A2 (data ++ b).length c2)) B (cellsD cap (some ⟨g, 0, none⟩) l.length c1) 24 := BoxC.other ((hG1.block B (blk_lt BO1.out) (by intro e; first | exact hneO e | exact hneO e.symm)).trans BO1.out) _ _ hBg
        have hBl : Below base W (u1.setCell ⟨g, i * 3 + 1, none⟩ (.slice A2 (data ++ b).length c2)) := ((D1.out.mono (show base ≤ W.heap.size by omega)).trans hB1).setCell (p := ⟨g, i * 3 + 1, none⟩) hg1 _
        have hpp := And.intro hput.reads hput.from_
        rw [show (data ++ b).length = data.length + b.length from List.length_append] at hpp hBo hBl
        have HPUT := Lib.hid hpp
        have HBO := Lib.hid hBo
        have HML := Lib.hid hml
        have HMX := Lib.hid hmx
        clear hpp hput hBo hml hmx hrow hrow1 hgb1 hR1 hB1 hG1 hat hC2 hgD hl1 hgt
        go_wp2_with (fail)
        go_ret
        refine ⟨rfl, hBl, ?_⟩
        try intro _
        exact ⟨some ⟨g, 0, none⟩, c1, by rw [HML.out]; exact HBO.out, by rw [HML.out]; exact HPUT.out.1.1, by rw [HMX.out]; exact HPUT.out.2⟩
end Go.Proofs.Ytahiigcofgnncaa.H
