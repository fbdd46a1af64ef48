import Derived.Test.YtahiigcofgnncaaDiskD
import Derived.Deep.RegionWith
/-! Layer 6: own, walked. -/
namespace Go.Proofs.Ytahiigcofgnncaa.H
open Go.RowKit Moor Go.Proofs.YtahiigcofgnncaaW.PrintWords Go.Proofs.YtahiigcofgnncaaW.PrintLast Go.Proofs.YtahiigcofgnncaaW.PrintMore
set_option linter.unusedVariables false
set_option linter.unusedSimpArgs false

set_option maxRecDepth 100000 in
theorem infoD : (Try.prog.info? 24).map (·.size) = some 2 := by kernel_rfl
theorem load_disk {W : World} {b : Nat} {cap : Int} {v : Value} (h : BoxC W b #[.int .i64 cap, v] 24) : (loadVar 24 ⟨b, 0, none⟩).run Try.prog W = .ok (.agg #[.int .i64 cap, v]) W :=
  run_loadVar_mid (P := Try.prog) W b 0 24 [.int .i64 cap, v] _ (fun j u hj => by
    rw [Nat.zero_add]
    exact h.c j (by simpa using hj)) Try.underlying24 rfl infoD
theorem results_D {fn : Func} {p : Tmp} (h : fn.results = #[.cell p 24]) (tmps : Array Value) (w : World) (g : Nat) (cap : Int) (v : Value) (hp : tmps.getD p undef = .pointer (some ⟨g, 0, none⟩)) (hb : BoxC w g #[.int .i64 cap, v] 24) :
    (results fn tmps).run Try.prog w = .ok (.agg #[.int .i64 cap, v]) w := by
  have hp' : tmps[p]?.getD undef = .pointer (some ⟨g, 0, none⟩) := by simpa using hp
  simp [results, h, hp', asAddr, load_disk hb]
theorem results_DE {fn : Func} {p t : Tmp} (h : fn.results = #[.cell p 24, .tmp t]) (tmps : Array Value) (w : World) (g : Nat) (cap : Int) (v : Value) (hp : tmps.getD p undef = .pointer (some ⟨g, 0, none⟩)) (hb : BoxC w g #[.int .i64 cap, v] 24) :
    (results fn tmps).run Try.prog w = .ok (.tuple #[.agg #[.int .i64 cap, v], tmps.getD t undef]) w := by
  have hp' : tmps[p]?.getD undef = .pointer (some ⟨g, 0, none⟩) := by simpa using hp
  simp [results, h, hp', asAddr, load_disk hb]
/-- A disk of one's own. -/
def OwnEnd (cap : Int) (l : List Fl) (w : World) (e : Ending) (w' : World) : Prop := ∃ (A' : Option Addr) (c' : Nat) (xs : List FX), e = .returned (.agg (cellsD cap A' l.length c')) ∧ HalfF w w' w.heap.size (.slice A' l.length c') l xs l.length ∧ Below w.heap.size w w'
theorem HalfF.moved {w W W1 : World} {base : Nat} {v : Value} {l : List Fl} {xs : List FX} {k : Nat} (h : HalfF w W base v l xs k) (hm : ∀ q, base ≤ q → q < W.heap.size → W1.heap[q]? = W.heap[q]?) : HalfF w W1 base v l xs k := by
  obtain ⟨h1, h2, h3, h4⟩ := h
  refine ⟨h1, own_move h2 (fun j hj => hm j (own_base h2 j hj) (own_lt h2 j hj)), fun i x hx => ?_, h4⟩
  have := h3 i x hx
  split
  · rename_i hi
    rw [if_pos hi] at this
    exact Kd.R_mono (Kd.R_move (Kd.R_bound this) (fun q hq => hm q hq.2.1 hq.2.2.1)) (fun _ _ => trivial)
  · rename_i hi
    rw [if_neg hi] at this
    exact this
theorem HalfF.lower {w W : World} {base base' : Nat} {v : Value} {l : List Fl} {xs : List FX} {k : Nat} (h : HalfF w W base v l xs k) (hb : base' ≤ base) : HalfF w W base' v l xs k := by
  obtain ⟨h1, h2, h3, h4⟩ := h
  refine ⟨h1, own_weaken h2 hb, fun i x hx => ?_, h4⟩
  have := h3 i x hx
  split
  · rename_i hi
    rw [if_pos hi] at this
    exact Kd.R_lower this hb
  · rename_i hi
    rw [if_neg hi] at this
    exact this
theorem HalfF.atW {w w2 W : World} {base : Nat} {v : Value} {l : List Fl} {xs : List FX} {k : Nat} (h : HalfF w W base v l xs k) (hr : ∀ x ∈ xs, ReadX w x → ReadX w2 x) : HalfF w2 W base v l xs k := by
  obtain ⟨h1, h2, h3, h4⟩ := h
  refine ⟨h1, h2, fun i x hx => ?_, h4⟩
  have := h3 i x hx
  split
  · rename_i hi
    rw [if_pos hi] at this
    exact this
  · rename_i hi
    rw [if_neg hi] at this
    exact hr x (List.mem_of_getElem? hx) this
theorem HalfF.all {w w2 W : World} {base : Nat} {v : Value} {l : List Fl} {xs : List FX} (h : HalfF w W base v l xs l.length) : HalfF w2 W base v l xs l.length := by
  have hlen := h.len
  obtain ⟨h1, h2, h3, h4⟩ := h
  refine ⟨h1, h2, fun i x hx => ?_, h4⟩
  have hi := (List.getElem?_eq_some_iff.1 hx).1
  have := h3 i x hx
  rw [if_pos (by omega)] at this ⊢
  exact this
theorem ReadX.below {w W : World} {x : FX} (h : ReadX w x) (hb : Below w.heap.size w W) : ReadX W x := ⟨Kd.C_below h.1 hb, h.2⟩

set_option maxRecDepth 100000 in
set_option maxHeartbeats 8000000 in
theorem own_calls (cap : Int) (A : Option Addr) (c : Nat) (l : List Fl) (w : World) (hR : Kd.C kF w A l.length l) (hc : l.length ≤ c) (hl : l.length ≤ 1000000) (hs : smallF l) :
    Calls Try.prog 32 #[.agg (cellsD cap A l.length c)] w (OwnEnd cap l w) := by
  obtain ⟨w0, hw0⟩ : ∃ w0, (w.alloc (.cells (cellsD cap A l.length c) 24)).alloc (.cells (cellsD 0 none 0 0) 24) = w0 := ⟨_, rfl⟩
  have hb0 : Below w.heap.size w w0 := by rw [← hw0]; exact below_alloc (below_alloc (Below.refl _ _) _) _
  have hz0 : w0.heap.size = w.heap.size + 2 := by rw [← hw0]; simp
  have bD : BoxC w0 w.heap.size (cellsD cap A l.length c) 24 := by rw [← hw0]; exact (BoxC.new w _ _).alloc _
  have bE : BoxC w0 (w.heap.size + 1) (cellsD 0 none 0 0) 24 := by
    rw [← hw0]
    have := BoxC.new (w.alloc (.cells (cellsD cap A l.length c) 24)) (cellsD 0 none 0 0) 24
    rw [World.size_alloc] at this
    exact this
  have d0 := bD.c 0 rfl
  have d1 := bD.c 1 rfl
  have HW0 := Lib.hid hw0
  have HR := Lib.hid hR
  have HS := Lib.hid hs
  have BD := Lib.hid bD
  have BE := Lib.hid bE
  have HZ0 := Lib.hid hz0
  clear hR hs bD bE hz0
  go_enter Try.func32, Try.ntmps32
  go_wp2_with (fail)
  refine (cloneF_calls w A c l w0 HR.out hb0 hc hl).mono ?_
  rintro e w1 ⟨A1, c1, xs, rfl, hH, hb1⟩
  have hsz1 := hb1.size
  have hB1 := hb0.trans (hb1.mono hb0.size)
  have bD1 := BD.out.below hb1
  have bE1 := BE.out.below hb1
  have e0 := bD1.c 0 rfl
  have e1 := bD1.c 1 rfl
  have ef := bD1.f 1
  have hH2 : HalfF w (w1.setCell ⟨w.heap.size, 1, none⟩ (.slice A1 l.length c1)) w0.heap.size (.slice A1 l.length c1) l xs 0 := hH.moved (fun q hq _ => Below.heap_setCell _ _ _ q (by have := HZ0.out; show q ≠ w.heap.size; omega))
  have bD2 : BoxC (w1.setCell ⟨w.heap.size, 1, none⟩ (.slice A1 l.length c1)) w.heap.size (cellsD cap A1 l.length c1) 24 := bD1.set 1 _
  have bE2 : BoxC (w1.setCell ⟨w.heap.size, 1, none⟩ (.slice A1 l.length c1)) (w.heap.size + 1) (cellsD 0 none 0 0) 24 := bE1.other _ _ (by show w.heap.size + 1 ≠ w.heap.size; omega)
  have hB2 : Below w.heap.size w (w1.setCell ⟨w.heap.size, 1, none⟩ (.slice A1 l.length c1)) := hB1.setCell (p := ⟨w.heap.size, 1, none⟩) (Nat.le_refl _) _
  have hz2 : w0.heap.size ≤ (w1.setCell ⟨w.heap.size, 1, none⟩ (.slice A1 l.length c1)).heap.size := by simpa using hsz1
  have BD2 := Lib.hid bD2
  have BE2 := Lib.hid bE2
  have HH2 := Lib.hid hH2
  clear hH bD1 bE1 bD2 bE2 hH2 hb1 hB1 d0 d1 hsz1
  go_wp2_with (fail)
  go_loopw [11] (fun i wr => ∃ (k : Nat) (ys : List FX), k ≤ l.length ∧ i = .int .i64 (k : Int) ∧ HalfF w wr w0.heap.size (.slice A1 l.length c1) l ys k ∧ BoxC wr w.heap.size (cellsD cap A1 l.length c1) 24 ∧ BoxC wr (w.heap.size + 1) (cellsD 0 none 0 0) 24 ∧ Below w.heap.size w wr ∧ w0.heap.size ≤ wr.heap.size) (fun i _ => l.length - (intOf i).toNat)
  case atStart => exact ⟨0, xs, Nat.zero_le _, rfl, HH2.out, BD2.out, BE2.out, hB2, hz2⟩
  case round =>
    clear hB2 hz2 e0 e1 ef HH2 BD2 BE2
    obtain ⟨k, ys, hk, rfl, hH, bD, bE, hB, hz⟩ := hrel
    by_cases hlt : k < l.length
    · have hlti : (k : Int) < (l.length : Int) := by omega
      obtain ⟨g, cap', he, hg0⟩ : ∃ g cap', (Value.slice A1 l.length c1) = .slice (some ⟨g, 0, none⟩) l.length cap' ∧ w0.heap.size ≤ g := by
        obtain ⟨g, cap', he, h1, h2⟩ := hH.2.1.form (by omega)
        exact ⟨g, cap', he, h1⟩
      injection he with he1 he2 he3
      subst he1 he3
      obtain ⟨x, hx, hxf, r0, r1, r2⟩ := hH.get k hlt
      have hrd := hH.2.2.1 k x hx
      rw [if_neg (Nat.lt_irrefl k)] at hrd
      have hfz := hH.2.1.frozenAt (k * 3 + 1)
      have d0 := bD.c 0 rfl
      have d1 := bD.c 1 rfl
      have hxl : x.data.length ≤ 1000000 := by
        have := HS.out l[k] (List.getElem_mem hlt)
        rw [← hxf] at this
        exact this
      have HX := Lib.hid (show Kd.C kB wr x.A x.data.length x.data from Kd.C_below hrd.1 hB)
      have hxc := hrd.2
      have HHF := Lib.hid hH
      have BDr := Lib.hid bD
      have BEr := Lib.hid bE
      have HSS := Lib.hid (show ∀ W, Below wr.heap.size wr W → W.cell? ⟨w.heap.size, 1, none⟩ = some (.slice (some ⟨g, 0, none⟩) l.length c1) from fun W h => (BDr.out.below h).c 1 rfl)
      have HKK := Lib.hid (show ∀ W v, Below wr.heap.size wr W → (W.setCell ⟨g, k * 3 + 1, none⟩ v).cell? ⟨w.heap.size, 1, none⟩ = some (.slice (some ⟨g, 0, none⟩) l.length c1) from fun W v h => (World.cell?_setCell_other _ _ _ _ (by intro e; injection e with e1 e2; have := HZ0.out; omega)).trans ((BDr.out.below h).c 1 rfl))
      have HFF := Lib.hid (show ∀ W, Below wr.heap.size wr W → W.cell? ⟨g, k * 3 + 1, none⟩ = some (vX x) ∧ W.frozen? ⟨g, k * 3 + 1, none⟩ = false from fun W h => ⟨cell_belowD r1 h, (HHF.out.moved (fun q _ hq => h.block q hq)).2.1.frozenAt _⟩)
      have D0 := Lib.hid (show Below wr.heap.size wr wr.drew from (Below.refl _ wr).drew)
      clear hH bD bE hrd
      go_wp2_with (fail)
      have r1d : wr.drew.cell? ⟨g, k * 3 + 1, none⟩ = some (vX x) := r1
      go_region_with
        ((go_at_call 53; refine (cloneB_calls x.A x.c x.data _ (Kd.C_below HX.out D0.out) hxc (by omega)).mono ?_; rintro e v1 ⟨val, rfl, hR1, hq1⟩; obtain ⟨A2, c2, rfl, hcA, hCA⟩ := Kd.R_reads hR1; have D1 := Lib.hid (below_onR hq1 D0.out); have HR1 := Lib.hid hR1; have HQ1 := Lib.hid hq1; obtain ⟨z1, z2⟩ := HFF.out v1 D1.out; have z3 := HSS.out v1 D1.out; clear hR1 hq1 hCA))
      all_goals
        have hHn := half_step HHF.out hx D1.out hz HR1.out
        have bDn := (BDr.out.below D1.out).other ⟨g, k * 3 + 1, none⟩ (.slice A2 x.data.length c2) (by have := HZ0.out; show w.heap.size ≠ g; omega)
        have bEn := (BEr.out.below D1.out).other ⟨g, k * 3 + 1, none⟩ (.slice A2 x.data.length c2) (by have := HZ0.out; show w.heap.size + 1 ≠ g; omega)
        have hBn : Below w.heap.size w (v1.setCell ⟨g, k * 3 + 1, none⟩ (.slice A2 x.data.length c2)) := (hB.trans (D1.out.mono hB.size)).setCell (p := ⟨g, k * 3 + 1, none⟩) (by have := HZ0.out; show w.heap.size ≤ g; omega) _
        have hzn : w0.heap.size ≤ (v1.setCell ⟨g, k * 3 + 1, none⟩ (.slice A2 x.data.length c2)).heap.size := by
          have := D1.out.size
          simp
          omega
        have HHN := Lib.hid hHn
        have BDN := Lib.hid bDn
        have BEN := Lib.hid bEn
        clear hHn bDn bEn
        go_wp2_with (fail)
        go_roundw
        case rel => exact ⟨k + 1, _, by omega, by go_num, HHN.out, BDN.out, BEN.out, hBn, hzn⟩
        case measure => simp [intOf]; omega
    · have hnl : ¬ (k : Int) < (l.length : Int) := by omega
      obtain rfl : k = l.length := by omega
      have d0 := bD.c 0 rfl
      have d1 := bD.c 1 rfl
      have f0 := bE.c 0 rfl
      have f1 := bE.c 1 rfl
      have ff0 := bE.f 0
      have ff1 := bE.f 1
      have hE := (bE.set 0 (.int .i64 cap)).set 1 (.slice A1 l.length c1)
      have hHn := (hH.moved (W1 := (wr.setCell ⟨w.heap.size + 1, 0, none⟩ (.int .i64 cap)).setCell ⟨w.heap.size + 1, 1, none⟩ (.slice A1 l.length c1)) (fun q hq _ => (Below.heap_setCell _ _ _ q (by have := HZ0.out; show q ≠ w.heap.size + 1; omega)).trans (Below.heap_setCell _ _ _ q (by have := HZ0.out; show q ≠ w.heap.size + 1; omega)))).lower (base' := w.heap.size) (by have := HZ0.out; omega)
      have hBn : Below w.heap.size w ((wr.setCell ⟨w.heap.size + 1, 0, none⟩ (.int .i64 cap)).setCell ⟨w.heap.size + 1, 1, none⟩ (.slice A1 l.length c1)) := (hB.setCell (p := ⟨w.heap.size + 1, 0, none⟩) (by show w.heap.size ≤ w.heap.size + 1; omega) _).setCell (p := ⟨w.heap.size + 1, 1, none⟩) (by show w.heap.size ≤ w.heap.size + 1; omega) _
      have HE := Lib.hid hE
      have HHN := Lib.hid hHn
      clear hE hHn hH bD bE
      go_wp2_with (fail)
      refine bodyPost_ret (results_D rfl _ _ (w.heap.size + 1) cap (.slice A1 l.length c1) rfl HE.out) rfl ?_
      exact ⟨A1, c1, ys, rfl, HHN.out, hBn⟩
end Go.Proofs.Ytahiigcofgnncaa.H
