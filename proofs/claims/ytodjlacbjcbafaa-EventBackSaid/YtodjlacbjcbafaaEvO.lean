import Derived.Test.YtodjlacbjcbafaaEvH
import Derived.Test.YtodjlacbjcbafaaStr
import Derived.Deep.Slices
import Derived.Deep.Fields
import Derived.ChangeSame
import Derived.ChangeSlices
import Derived.Deep.RegionHeld3
import Derived.Deep.QuietTactic
import Derived.BigQuiet
import Derived.OpenShut
/-! Layer 14: contracts in the plain words; events that came in, opened. -/
namespace Go.Proofs.Ytodjlacbjcbafaa.H
open Go.RowKit Moor Go.Proofs.YtodjlacbjcbafaaW.PrintWords Go.Proofs.YtodjlacbjcbafaaW.PrintLast Go.Proofs.YtodjlacbjcbafaaW.PrintMore Go.ChangeShapes Go.WideShapes
set_option linter.unusedVariables false
set_option linter.unusedSimpArgs false

/-- A slice of bytes and a word whether it is one. -/
def PutEnd (r : List Int × Bool) (w : World) (e : Ending) (w' : World) : Prop := ∃ (A' : Option Addr) (c' : Nat), e = .returned (.tuple #[.slice A' r.1.length c', .bool r.2]) ∧ r.1.length ≤ c' ∧ Kd.C (Kd.int .u8) w' A' r.1.length r.1 ∧ Below w.heap.size w w'
/-- A slice of events and a word whether it is one. -/
def GetEnd (r : List Ev × Bool) (w : World) (e : Ending) (w' : World) : Prop := ∃ (A' : Option Addr) (c' : Nat), e = .returned (.tuple #[.slice A' r.1.length c', .bool r.2]) ∧ r.1.length ≤ c' ∧ Kd.C kE w' A' (r.1.map toE).length (r.1.map toE) ∧ Below w.heap.size w w'
theorem eput_calls (f : Int) (l : List Ev) (A : Option Addr) (c : Nat) (w : World) (hR : Kd.C kE w A (l.map toE).length (l.map toE)) (hc : l.length ≤ c) (hl : l.length ≤ 2199023255552) :
    Calls Try.prog 11 #[.int .i64 f, .slice A l.length c] w (PutEnd (putE f l) w) := by
  have q := B.event_Put.calls (l.length + 421) f A c (l.map toE) _ _ w hR (by simpa using hc) (ePut_tells f l hl _ (Nat.le_refl _))
  rw [List.length_map] at q
  refine q.mono ?_
  rintro e w' ⟨v, rfl, hR', hB⟩
  obtain ⟨A', c', rfl, hc', hC'⟩ := Kd.R_reads hR'
  exact ⟨A', c', rfl, hc', hC', hB⟩
theorem esame_calls (l k : List Ev) (b : Bool) (hb : decide (l = k) = b) (A : Option Addr) (c : Nat) (A' : Option Addr) (c' : Nat) (w : World) (hR : Kd.C kE w A (l.map toE).length (l.map toE)) (hc : l.length ≤ c) (hR' : Kd.C kE w A' (k.map toE).length (k.map toE)) (hc' : k.length ≤ c') (hl : l.length ≤ 2199023255552) :
    Calls Try.prog 18 #[.slice A l.length c, .slice A' k.length c'] w fun e w' => e = .returned (.bool b) ∧ Below w.heap.size w w' := by
  have q := B.event_Same.calls (l.length + 1) A c (l.map toE) A' c' (k.map toE) b w hR (by simpa using hc) hR' (by simpa using hc') (by rw [eSame_tells l k hl _ (Nat.le_refl _), hb])
  rw [List.length_map, List.length_map] at q
  exact q.mono fun e w' h => ⟨h.1, by obtain ⟨n, rfl⟩ := h.2.out; exact pw_below_drewN (Below.refl _ _) n⟩
theorem egot_calls (t : Int) (A : Option Addr) (c : Nat) (b : List Int) (w : World) (hR : Kd.C (Kd.int .u8) w A b.length b) (hc : b.length ≤ c) (ho : okB b) (hl : b.length ≤ 140737488355328) :
    Calls Try.prog 13 #[.int .i64 t, .slice A b.length c] w (GetEnd (readE t b) w) := by
  refine (eread_calls t A c b w hR hc ho hl).mono ?_
  rintro e w' ⟨v, rfl, hR', hB⟩
  obtain ⟨A', c', rfl, hc', hC'⟩ := Kd.R_reads hR'
  rw [List.length_map] at hc'
  exact ⟨A', c', by rw [List.length_map], hc', hC', hB⟩
theorem rsame_calls (l k : List Ev) (b : Bool) (hb : decide (l = k) = b) (A : Option Addr) (c : Nat) (A' : Option Addr) (c' : Nat) (w : World) (hR : Kd.C kE w A (l.map toE).length (l.map toE)) (hc : l.length ≤ c) (hR' : Kd.C kE w A' (k.map toE).length (k.map toE)) (hc' : k.length ≤ c') (hl : l.length ≤ 2199023255552) :
    Calls Try.prog 15 #[.slice A l.length c, .slice A' k.length c'] w fun e w' => e = .returned (.bool b) ∧ Below w.heap.size w w' := by
  have q := B.mooringsref13_Events.calls (l.length + 1) A c (l.map toE) A' c' (k.map toE) b w hR (by simpa using hc) hR' (by simpa using hc') (by rw [erSame_tells l k hl _ (Nat.le_refl _), hb])
  rw [List.length_map, List.length_map] at q
  exact q.mono fun e w' h => ⟨h.1, by obtain ⟨n, rfl⟩ := h.2.out; exact pw_below_drewN (Below.refl _ _) n⟩
theorem rput_calls (f : Int) (l : List Ev) (A : Option Addr) (c : Nat) (w : World) (hR : Kd.C kE w A (l.map toE).length (l.map toE)) (hc : l.length ≤ c) (hl : l.length ≤ 2199023255552) :
    Calls Try.prog 12 #[.int .i64 f, .slice A l.length c] w (PutEnd (putE f l) w) := by
  have q := B.mooringsref14_Put.calls (l.length + 422) f A c (l.map toE) _ _ w hR (by simpa using hc) (erPut_tells f l hl _ (Nat.le_refl _))
  rw [List.length_map] at q
  refine q.mono ?_
  rintro e w' ⟨v, rfl, hR', hB⟩
  obtain ⟨A', c', rfl, hc', hC'⟩ := Kd.R_reads hR'
  exact ⟨A', c', rfl, hc', hC', hB⟩
theorem rmay_calls (e : Ev) (w : World) : Calls Try.prog 16 #[.agg #[.int .i64 e.kind, .int .i64 e.at_, .int .i64 e.a, .int .i64 e.b, .int .i64 e.c, .int .i64 e.q, .int .i64 e.i, .int .i64 e.h, .bool e.pair]] w fun x w' => x = .returned (.bool (decide (evMay e))) ∧ Below w.heap.size w w' :=
  B.mooringsref14_May.calls 4 _ _ _ _ _ _ _ _ _ _ w (rmay_tells e 4 (Nat.le_refl _))
instance : Inhabited Ev := ⟨e0⟩
theorem cellsOf_intE : Try.prog.cellsOf 3 = 1 := by kernel_rfl
theorem cellsOf_boolE : Try.prog.cellsOf 4 = 1 := by kernel_rfl
theorem cellsOf_pol : Try.prog.cellsOf 32 = 4 := by kernel_rfl
theorem cellsOf_ev : Try.prog.cellsOf 34 = 9 := by kernel_rfl
section
variable {H : Type} {enc : TypeId × Value → H} {W : World} {base : Nat} {spare : Nat → Bool} {held : Bool}
theorem open_pol {fuel : Nat} {cs : List Value} {x : DataW H × List MemPlace} (h : DataW.trod enc Try.prog W base spare held fuel 32 cs = some x) : ∃ (q i h : Int) (p : Bool), cs = [.int .i64 q, .int .i64 i, .int .i64 h, .bool p] := by
  obtain ⟨xs, n, _, _, hlen, hxl, hf⟩ := DataW.trod_struct Try.underlying32 h
  rw [cellsOf_pol] at hlen
  match cs, hlen with
  | [v0, v1, v2, v3], _ =>
    have hg : ∀ (i : Nat) (hi : i < xs.length), xs[i]? = some xs[i] := fun i hi => List.getElem?_eq_getElem hi
    have hxl' : xs.length = 4 := hxl
    have h0 : DataW.trod enc Try.prog W base spare held n 3 (List.take (Try.prog.cellsOf 3) ([v0, v1, v2, v3].drop 0)) = xs[0]? := hf 0 _ rfl
    have h1 : DataW.trod enc Try.prog W base spare held n 3 (List.take (Try.prog.cellsOf 3) ([v0, v1, v2, v3].drop 1)) = xs[1]? := hf 1 _ rfl
    have h2 : DataW.trod enc Try.prog W base spare held n 3 (List.take (Try.prog.cellsOf 3) ([v0, v1, v2, v3].drop 2)) = xs[2]? := hf 2 _ rfl
    have h3 : DataW.trod enc Try.prog W base spare held n 4 (List.take (Try.prog.cellsOf 4) ([v0, v1, v2, v3].drop 3)) = xs[3]? := hf 3 _ rfl
    rw [hg 0 (by omega)] at h0
    rw [hg 1 (by omega)] at h1
    rw [hg 2 (by omega)] at h2
    rw [hg 3 (by omega)] at h3
    rw [cellsOf_intE] at h0 h1 h2
    rw [cellsOf_boolE] at h3
    obtain ⟨n0, e0, _, _⟩ := DataW.trod_int Try.underlying3 h0
    obtain ⟨n1, e1, _, _⟩ := DataW.trod_int Try.underlying3 h1
    obtain ⟨n2, e2, _, _⟩ := DataW.trod_int Try.underlying3 h2
    obtain ⟨n3, e3, _⟩ := DataW.trod_bool Try.underlying4 h3
    simp at e0 e1 e2 e3
    exact ⟨n0, n1, n2, n3, by rw [e0, e1, e2, e3]⟩
theorem open_ev {fuel : Nat} {cs : List Value} {x : DataW H × List MemPlace} (h : DataW.trod enc Try.prog W base spare held fuel 34 cs = some x) : ∃ e : Ev, cs = (cellsE e).toList := by
  obtain ⟨xs, n, _, _, hlen, hxl, hf⟩ := DataW.trod_struct Try.underlying34 h
  rw [cellsOf_ev] at hlen
  match cs, hlen with
  | [v0, v1, v2, v3, v4, v5, v6, v7, v8], _ =>
    have hg : ∀ (i : Nat) (hi : i < xs.length), xs[i]? = some xs[i] := fun i hi => List.getElem?_eq_getElem hi
    have hxl' : xs.length = 6 := hxl
    have h0 : DataW.trod enc Try.prog W base spare held n 3 (List.take (Try.prog.cellsOf 3) ([v0, v1, v2, v3, v4, v5, v6, v7, v8].drop 0)) = xs[0]? := hf 0 _ rfl
    have h1 : DataW.trod enc Try.prog W base spare held n 3 (List.take (Try.prog.cellsOf 3) ([v0, v1, v2, v3, v4, v5, v6, v7, v8].drop 1)) = xs[1]? := hf 1 _ rfl
    have h2 : DataW.trod enc Try.prog W base spare held n 3 (List.take (Try.prog.cellsOf 3) ([v0, v1, v2, v3, v4, v5, v6, v7, v8].drop 2)) = xs[2]? := hf 2 _ rfl
    have h3 : DataW.trod enc Try.prog W base spare held n 3 (List.take (Try.prog.cellsOf 3) ([v0, v1, v2, v3, v4, v5, v6, v7, v8].drop 3)) = xs[3]? := hf 3 _ rfl
    have h4 : DataW.trod enc Try.prog W base spare held n 3 (List.take (Try.prog.cellsOf 3) ([v0, v1, v2, v3, v4, v5, v6, v7, v8].drop 4)) = xs[4]? := hf 4 _ rfl
    have h5 : DataW.trod enc Try.prog W base spare held n 32 (List.take (Try.prog.cellsOf 32) ([v0, v1, v2, v3, v4, v5, v6, v7, v8].drop 5)) = xs[5]? := hf 5 _ rfl
    rw [hg 0 (by omega)] at h0
    rw [hg 1 (by omega)] at h1
    rw [hg 2 (by omega)] at h2
    rw [hg 3 (by omega)] at h3
    rw [hg 4 (by omega)] at h4
    rw [hg 5 (by omega)] at h5
    rw [cellsOf_intE] at h0 h1 h2 h3 h4
    rw [cellsOf_pol] at h5
    obtain ⟨n0, e0, _, _⟩ := DataW.trod_int Try.underlying3 h0
    obtain ⟨n1, e1, _, _⟩ := DataW.trod_int Try.underlying3 h1
    obtain ⟨n2, e2, _, _⟩ := DataW.trod_int Try.underlying3 h2
    obtain ⟨n3, e3, _, _⟩ := DataW.trod_int Try.underlying3 h3
    obtain ⟨n4, e4, _, _⟩ := DataW.trod_int Try.underlying3 h4
    obtain ⟨q, i, hh, p, e5⟩ := open_pol h5
    simp at e0 e1 e2 e3 e4 e5
    obtain ⟨rfl, rfl, rfl, rfl⟩ := e5
    exact ⟨⟨n0, n1, n2, n3, n4, q, i, hh, p⟩, by rw [e0, e1, e2, e3, e4]⟩
theorem open_evA {cs : Array Value} {d : DataW H} {p : List MemPlace} (h : DataW.Trod enc Try.prog W 0 (fun _ => true) true 34 (.agg cs) d p) : ∃ e : Ev, cs = cellsE e := by
  obtain ⟨fuel, hf⟩ := h
  obtain ⟨e, g⟩ := open_ev hf
  have : cs.toList = (cellsE e).toList := by simpa [Value.cells] using g
  exact ⟨e, by rw [← Array.toArray_toList (xs := cs), this]⟩
theorem open_bytesA {a : Option Addr} {len cap : Nat} {d : DataW H} {p : List MemPlace} (h : DataW.Trod enc Try.prog W 0 (fun _ => true) true 23 (.slice a len cap) d p) :
    ∃ l : List Int, len = l.length ∧ Kd.C (Kd.int .u8) W a l.length l ∧ l.length ≤ cap ∧ okB l := by
  obtain ⟨fuel, h⟩ := h
  rcases open_ints Try.underlying23 Try.underlying5 (by kernel_rfl) h with ⟨hcs, _⟩ | ⟨a, len, cap, zs, hcs, _, hl, hm, hz, _, hcell, hw⟩
  · simp [Value.cells] at hcs
    obtain ⟨rfl, rfl, rfl⟩ := hcs
    exact ⟨[], rfl, Kd.C_nil _ _, Nat.le_refl _, fun x hx => by cases hx⟩
  · simp [Value.cells] at hcs
    obtain ⟨rfl, rfl, rfl⟩ := hcs
    have hz' : zs.length = cap := by simpa using hz
    have hlt : (zs.take len).length = len := by rw [List.length_take]; omega
    refine ⟨zs.take len, hlt.symm, ⟨rfl, by rw [hlt]; unfold maxLen at hm; omega, fun _ => ⟨_, rfl, fun j p hj => ⟨[.int .u8 p], rfl, rfl, fun i u hu => ?_⟩⟩⟩, by omega, fun y hy => bounds_u8 (hw y (List.mem_of_mem_take hy))⟩
    have hj2 := (List.getElem?_eq_some_iff.1 hj).1
    rw [hlt] at hj2
    have hp : zs[j]? = some p := by
      rw [List.getElem?_take] at hj
      rw [if_pos hj2] at hj
      exact hj
    cases i with
    | zero =>
      have hu' : Value.int .u8 p = u := by simpa using hu
      subst hu'
      have hs : (Kd.int .u8).sz = 1 := rfl
      rw [hs, Nat.mul_one, Nat.add_zero, hcell j (by omega), List.getD_eq_getElem?_getD, hp]
      rfl
    | succ i => simp at hu
theorem open_evs {a : Option Addr} {len cap : Nat} {d : DataW H} {p : List MemPlace} (h : DataW.Trod enc Try.prog W 0 (fun _ => true) true 22 (.slice a len cap) d p) :
    ∃ l : List Ev, len = l.length ∧ Kd.C kE W a (l.map toE).length (l.map toE) ∧ l.length ≤ cap := by
  obtain ⟨fuel, hf⟩ := h
  rcases Go.Deep.open_slice Try.underlying22 hf with ⟨hcs, _⟩ | ⟨ad, l, c, m, n, D, Q, hcs, _, hl, hm, hmm, _, hi⟩
  · simp [Value.cells] at hcs
    obtain ⟨rfl, rfl, rfl⟩ := hcs
    exact ⟨[], rfl, Kd.C_nil _ _, Nat.le_refl _⟩
  · simp [Value.cells] at hcs
    obtain ⟨rfl, rfl, rfl⟩ := hcs
    have hmc : m = cap := by simpa using hmm
    subst hmc
    rw [cellsOf_ev] at hi
    have hp : ∀ i, i < len → ∃ q : Ev, ∀ j u, (cellsE q).toList[j]? = some u → W.cell? (ad.add (i * 9 + j)) = some u := fun i hil => by
      obtain ⟨cs', hc, ht⟩ := hi i (by omega)
      obtain ⟨q, rfl⟩ := open_ev ht
      obtain ⟨_, _, hcell⟩ := World.cells?_some hc
      refine ⟨q, fun j u hu => ?_⟩
      have hj : j < 9 := by have := (List.getElem?_eq_some_iff.1 hu).1; simpa using this
      have := hcell j hj
      rw [Go.Deep.add_add] at this
      rw [this]
      exact hu
    obtain ⟨f, hff⟩ := Go.Deep.choose_lt hp
    refine ⟨(List.range len).map f, by simp, ⟨rfl, by simp; unfold maxLen at hm; omega, fun _ => ⟨ad, rfl, fun j p hj => ?_⟩⟩, by simpa using hl⟩
    have hjl : j < len := by have := (List.getElem?_eq_some_iff.1 hj).1; simpa using this
    obtain rfl : toE (f j) = p := by simpa [hjl] using hj
    exact ⟨(cellsE (f j)).toList, rfl, B.k34_mk _ _, fun i u hu => hff j hjl i u hu⟩
end
end Go.Proofs.Ytodjlacbjcbafaa.H

/-! mooringslaw14.awake answers true. -/
namespace Go.Proofs.Ytodjlacbjcbafaa.H
open Go.RowKit Moor Go.Proofs.YtodjlacbjcbafaaW.PrintWords Go.Proofs.YtodjlacbjcbafaaW.PrintLast Go.Proofs.YtodjlacbjcbafaaW.PrintMore
set_option linter.unusedVariables false
set_option linter.unusedSimpArgs false

abbrev e7 : Ev := ⟨0, 7, 2, 1, 3, 0, 0, 0, false⟩
theorem e7_put : putE 5 [e7] = ([32, 75], true) := by decide +kernel
theorem e7_read : readE 5 [32, 75] = ([e7], true) := by
  have h := readE_put (f := 5) (l := [e7]) (by rw [e7_put])
  rw [e7_put] at h
  exact h
theorem e7_may : evMay e7 := by decide
theorem one_evW (w : World) (e : Ev) : Kd.C kE (w.alloc (.cells (cellsE e) 34)) (some ⟨w.heap.size, 0, none⟩) (([e] : List Ev).map toE).length ([e].map toE) := one_ev w e
set_option maxRecDepth 100000 in
set_option maxHeartbeats 8000000 in
theorem awake_true (w : World) : Calls Try.prog 10 #[] w fun e w' => e = .returned (.bool true) ∧ Below w.heap.size w w' := by
  have HL := Lib.hid (one_evW w e7)
  have hB0 := Lib.hid (below_alloc (Below.refl _ w) (.cells (cellsE e7) 34))
  go_enter Try.func10, Try.ntmps10
  go_wp2_with (fail)
  have q := eput_calls 5 [e7] (some ⟨w.heap.size, 0, none⟩) 1 _ HL.out (Nat.le_refl _) (by simp)
  rw [e7_put] at q
  refine q.mono ?_
  clear q
  rintro e w1 ⟨A1, c1, rfl, hc1, hC1, hb1⟩
  dsimp only at hc1 hC1 ⊢
  have HC1 := Lib.hid hC1
  have HB1 := Lib.hid (hB0.out.trans (hb1.mono hB0.out.size))
  have HL1 := Lib.hid (Kd.C_below HL.out hb1)
  clear hC1 hb1
  go_wp2_with (fail)
  have q := egot_calls 5 A1 c1 [32, 75] w1 HC1.out hc1 (by decide) (by simp)
  rw [e7_read] at q
  refine q.mono ?_
  clear q
  rintro e w2 ⟨A2, c2, rfl, hc2, hC2, hb2⟩
  dsimp only at hc2 hC2 ⊢
  have HC2 := Lib.hid hC2
  have HB2 := Lib.hid (HB1.out.trans (hb2.mono HB1.out.size))
  have HL2 := Lib.hid (Kd.C_below HL1.out hb2)
  have HC12 := Lib.hid (Kd.C_below HC1.out hb2)
  clear hC2 hb2
  have hcv : Sem.run Try.prog (convert 23 9 (Value.slice A1 2 c1)) w2 = Result.ok (Value.string ⟨#[32, 75]⟩) w2 := Kd.C_string (P := Try.prog) (c := c1) Try.underlying23 Try.underlying5 Try.underlying9 HC12.out
  go_wp2_with (fail)
  have q := esame_calls [e7] [e7] true (decide_eq_true rfl) A2 c2 (some ⟨w.heap.size, 0, none⟩) 1 w2 HC2.out hc2 HL2.out (Nat.le_refl _) (by simp)
  refine q.mono ?_
  clear q
  rintro e w3 ⟨rfl, hb3⟩
  have HB3 := Lib.hid (HB2.out.trans (hb3.mono HB2.out.size))
  obtain ⟨ad, had, x0, x1, x2, x3, x4, x5, x6, x7, x8⟩ := B.at_T34 (Kd.C_below HL2.out hb3) 0 (by omega) (by simp)
  cases had
  rw [show B.rd_T34 ([e7].map toE) 0 = toE e7 from rfl] at x0 x1 x2 x3 x4 x5 x6 x7 x8
  rw [show ((⟨w.heap.size, 0, none⟩ : Addr).add ((0 : Int).toNat * 9)) = ⟨w.heap.size, 0, none⟩ from rfl] at x0 x1 x2 x3 x4 x5 x6 x7 x8
  dsimp only [toE] at x0 x1 x2 x3 x4 x5 x6 x7 x8
  clear hb3 hcv
  go_wp2_with (fail)
  refine (emay_calls e7 w3).mono ?_
  rintro e w4 ⟨rfl, hb4⟩
  rw [decide_eq_true e7_may]
  go_wp2_with (fail)
  go_ret
  exact ⟨rfl, HB3.out.trans (hb4.mono HB3.out.size)⟩
end Go.Proofs.Ytodjlacbjcbafaa.H

/-! The box of an event. -/
namespace Go.Proofs.Ytodjlacbjcbafaa.H
open Go.RowKit Moor Go.Proofs.YtodjlacbjcbafaaW.PrintWords Go.Proofs.YtodjlacbjcbafaaW.PrintLast Go.Proofs.YtodjlacbjcbafaaW.PrintMore
set_option linter.unusedVariables false
set_option linter.unusedSimpArgs false

def EvB (W : World) (B0 : Nat) (e : Ev) : Prop := W.heap[B0]? = some (.cells (cellsE e) 34 (0, 0))
theorem EvB.new (W : World) (e : Ev) : EvB (W.alloc (.cells (cellsE e) 34)) W.heap.size e := heap_alloc_new W _
theorem EvB.below {W W' : World} {B0 : Nat} {e : Ev} (h : EvB W B0 e) (hb : Below W.heap.size W W') : EvB W' B0 e := (hb.block B0 (blk_ltE h)).trans h
theorem EvB.nine {W : World} {B0 : Nat} {e : Ev} (h : EvB W B0 e) : W.cell? ⟨B0, 0, none⟩ = some (.int .i64 e.kind) ∧ W.cell? ⟨B0, 1, none⟩ = some (.int .i64 e.at_) ∧ W.cell? ⟨B0, 2, none⟩ = some (.int .i64 e.a) ∧ W.cell? ⟨B0, 3, none⟩ = some (.int .i64 e.b) ∧ W.cell? ⟨B0, 4, none⟩ = some (.int .i64 e.c) ∧ W.cell? ⟨B0, 5, none⟩ = some (.int .i64 e.q) ∧ W.cell? ⟨B0, 6, none⟩ = some (.int .i64 e.i) ∧ W.cell? ⟨B0, 7, none⟩ = some (.int .i64 e.h) ∧ W.cell? ⟨B0, 8, none⟩ = some (.bool e.pair) :=
  ⟨(blk_cellE h 0).trans rfl, (blk_cellE h 1).trans rfl, (blk_cellE h 2).trans rfl, (blk_cellE h 3).trans rfl, (blk_cellE h 4).trans rfl, (blk_cellE h 5).trans rfl, (blk_cellE h 6).trans rfl, (blk_cellE h 7).trans rfl, (blk_cellE h 8).trans rfl⟩

end Go.Proofs.Ytodjlacbjcbafaa.H
