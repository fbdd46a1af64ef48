import Derived.Test.YtahiigcofgnncaaDiskX
import Derived.Test.YtahiigcofgnncaaDiskO
/-! Layer 6: mooringslaw06.Do and small, disk.New, walked. -/
namespace Go.Proofs.Ytahiigcofgnncaa.H
open Go.RowKit Moor Go.Proofs.YtahiigcofgnncaaW.PrintWords Go.Proofs.YtahiigcofgnncaaW.PrintLast Go.Proofs.YtahiigcofgnncaaW.PrintMore
set_option linter.unusedVariables false
set_option linter.unusedSimpArgs false

/-- What is done to a disk. -/
structure OpD where
  kind : Int
  no : Int
  n : Int
  data : List Int
  picks : List Int
abbrev cellsO (k no n : Int) (bA : Option Addr) (bn bc : Nat) (pA : Option Addr) (pn pc : Nat) : Array Value := #[.int .i64 k, .int .i64 no, .int .i64 n, .slice bA bn bc, .slice pA pn pc]
def doD (d : Dk) (o : OpD) : Dk × Int := if o.kind = 0 then makeD d o.no else if o.kind = 1 then writeD d o.no o.data else if o.kind = 2 then syncD d o.no else if o.kind = 3 then cutD d o.no o.n else if o.kind = 4 then dropD d o.no else (crashD d o.picks, 0)
/-- The disk that is handed back, by way of two boxes. -/
structure DoFin (w w1 : World) (B7 B4 : Nat) (cap : Int) (A : Option Addr) (c : Nat) (m : List Fl) : Prop where
  r0 : ((w1.setCell ⟨B7, 0, none⟩ (.int .i64 cap)).setCell ⟨B7, 1, none⟩ (.slice A m.length c)).cell? ⟨B7, 0, none⟩ = some (.int .i64 cap)
  r1 : ((w1.setCell ⟨B7, 0, none⟩ (.int .i64 cap)).setCell ⟨B7, 1, none⟩ (.slice A m.length c)).cell? ⟨B7, 1, none⟩ = some (.slice A m.length c)
  s0 : ((w1.setCell ⟨B7, 0, none⟩ (.int .i64 cap)).setCell ⟨B7, 1, none⟩ (.slice A m.length c)).cell? ⟨B4, 0, none⟩ = some (.int .i64 0)
  s1 : ((w1.setCell ⟨B7, 0, none⟩ (.int .i64 cap)).setCell ⟨B7, 1, none⟩ (.slice A m.length c)).cell? ⟨B4, 1, none⟩ = some (.slice none 0 0)
  q0 : ((w1.setCell ⟨B7, 0, none⟩ (.int .i64 cap)).setCell ⟨B7, 1, none⟩ (.slice A m.length c)).frozen? ⟨B4, 0, none⟩ = false
  q1 : ((w1.setCell ⟨B7, 0, none⟩ (.int .i64 cap)).setCell ⟨B7, 1, none⟩ (.slice A m.length c)).frozen? ⟨B4, 1, none⟩ = false
  box : BoxC ((((w1.setCell ⟨B7, 0, none⟩ (.int .i64 cap)).setCell ⟨B7, 1, none⟩ (.slice A m.length c)).setCell ⟨B4, 0, none⟩ (.int .i64 cap)).setCell ⟨B4, 1, none⟩ (.slice A m.length c)) B4 (cellsD cap A m.length c) 24
  cf : CFrom w.heap.size ((((w1.setCell ⟨B7, 0, none⟩ (.int .i64 cap)).setCell ⟨B7, 1, none⟩ (.slice A m.length c)).setCell ⟨B4, 0, none⟩ (.int .i64 cap)).setCell ⟨B4, 1, none⟩ (.slice A m.length c)) A m
  below : Below w.heap.size w ((((w1.setCell ⟨B7, 0, none⟩ (.int .i64 cap)).setCell ⟨B7, 1, none⟩ (.slice A m.length c)).setCell ⟨B4, 0, none⟩ (.int .i64 cap)).setCell ⟨B4, 1, none⟩ (.slice A m.length c))
theorem do_fin {w w0 w1 : World} {B7 B4 : Nat} {cap : Int} {A : Option Addr} {c : Nat} {m : List Fl} {cs7 : Array Value} (hB0 : Below w.heap.size w w0) (h4 : w.heap.size ≤ B4) (h7 : w.heap.size ≤ B7) (hne : B4 ≠ B7) (h40 : B4 < w0.heap.size) (h70 : B7 < w0.heap.size) (b4 : BoxC w0 B4 (cellsD 0 none 0 0) 24) (b7 : BoxC w0 B7 cs7 24) (h2 : cs7.size = 2) (hF : CFrom w0.heap.size w1 A m) (hb : Below w0.heap.size w0 w1) : DoFin w w1 B7 B4 cap A c m := by
  match cs7, h2 with
  | ⟨[v0, v1]⟩, _ =>
    have k7 := b7.below hb
    have k4 := b4.below hb
    have s7 := (k7.set 0 (.int .i64 cap)).set 1 (.slice A m.length c)
    have s4 := (k4.other ⟨B7, 0, none⟩ (.int .i64 cap) hne).other ⟨B7, 1, none⟩ (.slice A m.length c) hne
    have hB := hB0.trans (hb.mono hB0.size)
    refine ⟨s7.c 0 rfl, s7.c 1 rfl, s4.c 0 rfl, s4.c 1 rfl, s4.f 0, s4.f 1, (s4.set 0 (.int .i64 cap)).set 1 (.slice A m.length c), fun W' hW' => ?_, (((hB.setCell (p := ⟨B7, 0, none⟩) h7 _).setCell (p := ⟨B7, 1, none⟩) h7 _).setCell (p := ⟨B4, 0, none⟩) h4 _).setCell (p := ⟨B4, 1, none⟩) h4 _⟩
    refine hF W' (fun q hq hq2 => (hW' q (Nat.le_trans hB0.size hq) (by simpa using hq2)).trans ?_)
    exact (Below.heap_setCell _ _ _ q (by show q ≠ B4; omega)).trans ((Below.heap_setCell _ _ _ q (by show q ≠ B4; omega)).trans ((Below.heap_setCell _ _ _ q (by show q ≠ B7; omega)).trans (Below.heap_setCell _ _ _ q (by show q ≠ B7; omega))))

set_option maxRecDepth 100000 in
set_option maxHeartbeats 16000000 in
theorem do_calls (cap : Int) (A : Option Addr) (c : Nat) (l : List Fl) (k no n : Int) (bA : Option Addr) (bc : Nat) (b : List Int) (pA : Option Addr) (pc : Nat) (p : List Int) (w : World) (hR : Kd.C kF w A l.length l) (hc : l.length ≤ c) (hl : l.length ≤ 1000) (hs : smallF l) (hu : usedF l ≤ 4611686018427387904) (ho : ∀ f ∈ l, okB f.data)
    (hbC : Kd.C kB w bA b.length b) (hbc : b.length ≤ bc) (hbl : b.length ≤ 1000000) (hP : Kd.C (Kd.int .i64) w pA p.length p) (hpc : p.length ≤ pc) :
    Calls Try.prog 24 #[.agg (cellsD cap A l.length c), .agg (cellsO k no n bA b.length bc pA p.length pc)] w (DiskEEnd (doD ⟨cap, l⟩ ⟨k, no, n, b, p⟩) w) := by
  obtain ⟨w0, hw0⟩ : ∃ w0, (((w.alloc (.cells (cellsD cap A l.length c) 24)).alloc (.cells (cellsO k no n bA b.length bc pA p.length pc) 45)).alloc (.cells (cellsD 0 none 0 0) 24)).alloc (.cells (cellsD cap A l.length c) 24) = w0 := ⟨_, rfl⟩
  have hb0 : Below w.heap.size w w0 := by rw [← hw0]; exact below_alloc (below_alloc (below_alloc (below_alloc (Below.refl _ _) _) _) _) _
  have hz0 : w0.heap.size = w.heap.size + 4 := by rw [← hw0]; simp
  have b0 : BoxC w0 (w.heap.size) (cellsD cap A l.length c) 24 := by
    rw [← hw0]
    exact (((BoxC.new w _ _).alloc _).alloc _).alloc _
  have b1 : BoxC w0 (w.heap.size + 1) (cellsO k no n bA b.length bc pA p.length pc) 45 := by
    rw [← hw0]
    have h9 := BoxC.new (w.alloc (.cells (cellsD cap A l.length c) 24)) (cellsO k no n bA b.length bc pA p.length pc) 45
    rw [World.size_alloc] at h9
    exact (h9.alloc _).alloc _
  have b4 : BoxC w0 (w.heap.size + 1 + 1) (cellsD 0 none 0 0) 24 := by
    rw [← hw0]
    have h9 := BoxC.new ((w.alloc (.cells (cellsD cap A l.length c) 24)).alloc (.cells (cellsO k no n bA b.length bc pA p.length pc) 45)) (cellsD 0 none 0 0) 24
    simp only [World.size_alloc] at h9
    exact h9.alloc _
  have b7 : BoxC w0 (w.heap.size + 1 + 1 + 1) (cellsD cap A l.length c) 24 := by
    rw [← hw0]
    have h9 := BoxC.new (((w.alloc (.cells (cellsD cap A l.length c) 24)).alloc (.cells (cellsO k no n bA b.length bc pA p.length pc) 45)).alloc (.cells (cellsD 0 none 0 0) 24)) (cellsD cap A l.length c) 24
    simp only [World.size_alloc] at h9
    exact h9
  have d0 := b0.c 0 rfl
  have d1 := b0.c 1 rfl
  have e0 := b1.c 0 rfl
  have e1 := b1.c 1 rfl
  have e2 := b1.c 2 rfl
  have e3 := b1.c 3 rfl
  have e4 := b1.c 4 rfl
  have HR := Lib.hid (Kd.C_below hR hb0)
  have HBC := Lib.hid (Kd.C_below hbC hb0)
  have HPC := Lib.hid (Kd.C_below hP hb0)
  have HS := Lib.hid hs
  have HO := Lib.hid ho
  have HB0 := Lib.hid hb0
  have HZ0 := Lib.hid hz0
  have HX := Lib.hid (show ∀ (w1 : World) (cp : Int) (A1 : Option Addr) (c1 : Nat) (m : List Fl), CFrom w0.heap.size w1 A1 m → Below w0.heap.size w0 w1 → DoFin w w1 (w.heap.size + 1 + 1 + 1) (w.heap.size + 1 + 1) cp A1 c1 m from fun w1 cp A1 c1 m hF hb => do_fin hb0 (by omega) (by omega) (by omega) (by omega) (by omega) b4 b7 rfl hF hb)
  have HY := Lib.hid (show ∀ (w1 : World), Below w0.heap.size w0 w1 → (w1.cell? ⟨w.heap.size + 1 + 1 + 1, 0, none⟩ = some (.int .i64 cap) ∧ w1.cell? ⟨w.heap.size + 1 + 1 + 1, 1, none⟩ = some (.slice A l.length c)) ∧ w1.frozen? ⟨w.heap.size + 1 + 1 + 1, 0, none⟩ = false ∧ w1.frozen? ⟨w.heap.size + 1 + 1 + 1, 1, none⟩ = false from fun w1 hb => ⟨⟨(b7.below hb).c 0 rfl, (b7.below hb).c 1 rfl⟩, (b7.below hb).f 0, (b7.below hb).f 1⟩)
  clear hR hbC hP hs ho b0 b1 b4 b7 hb0 hz0
  by_cases hk0 : k = 0
  · go_enter Try.func24, Try.ntmps24
    have hdo : doD ⟨cap, l⟩ ⟨k, no, n, b, p⟩ = makeD ⟨cap, l⟩ no := by unfold doD; dsimp only; rw [if_pos hk0]
    have q := make_calls cap no A c l w0 HR.out hc hl HS.out hu
    rw [hdo]
    clear hdo
    generalize makeD ⟨cap, l⟩ no = r at *
    obtain ⟨⟨cp, m⟩, er⟩ := r
    have Q := Lib.hid q
    clear q
    subst hk0
    go_wp2_with (fail)
    refine Q.out.mono ?_
    rintro e w1 ⟨A1, c1, rfl, hc1, hF1, hb1⟩
    dsimp only at hc1 hF1 ⊢
    have hX := HX.out w1 cp A1 c1 m hF1 hb1
    have hY := HY.out w1 hb1
    have y0 := hY.1.1
    have y1 := hY.1.2
    have y2 := hY.2.1
    have y3 := hY.2.2
    have x0 := hX.r0
    have x1 := hX.r1
    have x2 := hX.s0
    have x3 := hX.s1
    have x4 := hX.q0
    have x5 := hX.q1
    have HXX := Lib.hid hX
    clear hX hY hF1 hb1 d0 d1 e0 e1 e2 e3 e4 Q
    go_wp2_with (fail)
    refine bodyPost_ret (results_DE (fn := Try.f24) (p := 4) (t := 5) rfl _ _ (w.heap.size + 1 + 1) cp (.slice A1 m.length c1) rfl HXX.out.box) rfl ?_
    exact ⟨A1, c1, rfl, hc1, HXX.out.cf, HXX.out.below⟩
  by_cases hk1 : k = 1
  · go_enter Try.func24, Try.ntmps24
    have hdo : doD ⟨cap, l⟩ ⟨k, no, n, b, p⟩ = writeD ⟨cap, l⟩ no b := by unfold doD; dsimp only; rw [if_neg hk0, if_pos hk1]
    have q := write_calls cap no A c l bA bc b w0 HR.out hc hl HS.out hu HBC.out hbc hbl
    rw [hdo]
    clear hdo
    generalize writeD ⟨cap, l⟩ no b = r at *
    obtain ⟨⟨cp, m⟩, er⟩ := r
    have Q := Lib.hid q
    clear q
    subst hk1
    clear hk0
    go_wp2_with (fail)
    refine Q.out.mono ?_
    rintro e w1 ⟨A1, c1, rfl, hc1, hF1, hb1⟩
    dsimp only at hc1 hF1 ⊢
    have hX := HX.out w1 cp A1 c1 m hF1 hb1
    have hY := HY.out w1 hb1
    have y0 := hY.1.1
    have y1 := hY.1.2
    have y2 := hY.2.1
    have y3 := hY.2.2
    have x0 := hX.r0
    have x1 := hX.r1
    have x2 := hX.s0
    have x3 := hX.s1
    have x4 := hX.q0
    have x5 := hX.q1
    have HXX := Lib.hid hX
    clear hX hY hF1 hb1 d0 d1 e0 e1 e2 e3 e4 Q
    go_wp2_with (fail)
    refine bodyPost_ret (results_DE (fn := Try.f24) (p := 4) (t := 5) rfl _ _ (w.heap.size + 1 + 1) cp (.slice A1 m.length c1) rfl HXX.out.box) rfl ?_
    exact ⟨A1, c1, rfl, hc1, HXX.out.cf, HXX.out.below⟩
  by_cases hk2 : k = 2
  · go_enter Try.func24, Try.ntmps24
    have hdo : doD ⟨cap, l⟩ ⟨k, no, n, b, p⟩ = syncD ⟨cap, l⟩ no := by unfold doD; dsimp only; rw [if_neg hk0, if_neg hk1, if_pos hk2]
    have q := sync_calls cap no A c l w0 HR.out hc hl HS.out hu
    rw [hdo]
    clear hdo
    generalize syncD ⟨cap, l⟩ no = r at *
    obtain ⟨⟨cp, m⟩, er⟩ := r
    have Q := Lib.hid q
    clear q
    subst hk2
    clear hk0 hk1
    go_wp2_with (fail)
    refine Q.out.mono ?_
    rintro e w1 ⟨A1, c1, rfl, hc1, hF1, hb1⟩
    dsimp only at hc1 hF1 ⊢
    have hX := HX.out w1 cp A1 c1 m hF1 hb1
    have hY := HY.out w1 hb1
    have y0 := hY.1.1
    have y1 := hY.1.2
    have y2 := hY.2.1
    have y3 := hY.2.2
    have x0 := hX.r0
    have x1 := hX.r1
    have x2 := hX.s0
    have x3 := hX.s1
    have x4 := hX.q0
    have x5 := hX.q1
    have HXX := Lib.hid hX
    clear hX hY hF1 hb1 d0 d1 e0 e1 e2 e3 e4 Q
    go_wp2_with (fail)
    refine bodyPost_ret (results_DE (fn := Try.f24) (p := 4) (t := 5) rfl _ _ (w.heap.size + 1 + 1) cp (.slice A1 m.length c1) rfl HXX.out.box) rfl ?_
    exact ⟨A1, c1, rfl, hc1, HXX.out.cf, HXX.out.below⟩
  by_cases hk3 : k = 3
  · go_enter Try.func24, Try.ntmps24
    have hdo : doD ⟨cap, l⟩ ⟨k, no, n, b, p⟩ = cutD ⟨cap, l⟩ no n := by unfold doD; dsimp only; rw [if_neg hk0, if_neg hk1, if_neg hk2, if_pos hk3]
    have q := cut_calls cap no A c l n w0 HR.out hc hl HS.out hu
    rw [hdo]
    clear hdo
    generalize cutD ⟨cap, l⟩ no n = r at *
    obtain ⟨⟨cp, m⟩, er⟩ := r
    have Q := Lib.hid q
    clear q
    subst hk3
    clear hk0 hk1 hk2
    go_wp2_with (fail)
    refine Q.out.mono ?_
    rintro e w1 ⟨A1, c1, rfl, hc1, hF1, hb1⟩
    dsimp only at hc1 hF1 ⊢
    have hX := HX.out w1 cp A1 c1 m hF1 hb1
    have hY := HY.out w1 hb1
    have y0 := hY.1.1
    have y1 := hY.1.2
    have y2 := hY.2.1
    have y3 := hY.2.2
    have x0 := hX.r0
    have x1 := hX.r1
    have x2 := hX.s0
    have x3 := hX.s1
    have x4 := hX.q0
    have x5 := hX.q1
    have HXX := Lib.hid hX
    clear hX hY hF1 hb1 d0 d1 e0 e1 e2 e3 e4 Q
    go_wp2_with (fail)
    refine bodyPost_ret (results_DE (fn := Try.f24) (p := 4) (t := 5) rfl _ _ (w.heap.size + 1 + 1) cp (.slice A1 m.length c1) rfl HXX.out.box) rfl ?_
    exact ⟨A1, c1, rfl, hc1, HXX.out.cf, HXX.out.below⟩
  by_cases hk4 : k = 4
  · go_enter Try.func24, Try.ntmps24
    have hdo : doD ⟨cap, l⟩ ⟨k, no, n, b, p⟩ = dropD ⟨cap, l⟩ no := by unfold doD; dsimp only; rw [if_neg hk0, if_neg hk1, if_neg hk2, if_neg hk3, if_pos hk4]
    have q := drop_calls cap no A c l w0 HR.out hc hl HS.out hu
    rw [hdo]
    clear hdo
    generalize dropD ⟨cap, l⟩ no = r at *
    obtain ⟨⟨cp, m⟩, er⟩ := r
    have Q := Lib.hid q
    clear q
    subst hk4
    clear hk0 hk1 hk2 hk3
    go_wp2_with (fail)
    refine Q.out.mono ?_
    rintro e w1 ⟨A1, c1, rfl, hc1, hF1, hb1⟩
    dsimp only at hc1 hF1 ⊢
    have hX := HX.out w1 cp A1 c1 m hF1 hb1
    have hY := HY.out w1 hb1
    have y0 := hY.1.1
    have y1 := hY.1.2
    have y2 := hY.2.1
    have y3 := hY.2.2
    have x0 := hX.r0
    have x1 := hX.r1
    have x2 := hX.s0
    have x3 := hX.s1
    have x4 := hX.q0
    have x5 := hX.q1
    have HXX := Lib.hid hX
    clear hX hY hF1 hb1 d0 d1 e0 e1 e2 e3 e4 Q
    go_wp2_with (fail)
    refine bodyPost_ret (results_DE (fn := Try.f24) (p := 4) (t := 5) rfl _ _ (w.heap.size + 1 + 1) cp (.slice A1 m.length c1) rfl HXX.out.box) rfl ?_
    exact ⟨A1, c1, rfl, hc1, HXX.out.cf, HXX.out.below⟩
  go_enter Try.func24, Try.ntmps24
  have hdo : doD ⟨cap, l⟩ ⟨k, no, n, b, p⟩ = (crashD ⟨cap, l⟩ p, 0) := by unfold doD; dsimp only; rw [if_neg hk0, if_neg hk1, if_neg hk2, if_neg hk3, if_neg hk4]
  have q := crash_calls cap A c l pA pc p w0 HR.out hc (by omega) HS.out hu HO.out HPC.out hpc
  rw [hdo]
  clear hdo
  generalize crashD ⟨cap, l⟩ p = r at *
  obtain ⟨cp, m⟩ := r
  have Q := Lib.hid q
  clear q
  go_wp2_with (fail)
  refine Q.out.mono ?_
  rintro e w1 ⟨A1, c1, rfl, hc1, hF1, hb1⟩
  dsimp only at hc1 hF1 ⊢
  have hX := HX.out w1 cp A1 c1 m hF1 hb1
  have hY := HY.out w1 hb1
  have y0 := hY.1.1
  have y1 := hY.1.2
  have y2 := hY.2.1
  have y3 := hY.2.2
  have x0 := hX.r0
  have x1 := hX.r1
  have x2 := hX.s0
  have x3 := hX.s1
  have x4 := hX.q0
  have x5 := hX.q1
  have HXX := Lib.hid hX
  clear hX hY hF1 hb1 d0 d1 e0 e1 e2 e3 e4 Q
  go_wp2_with (fail)
  refine bodyPost_ret (results_DE (fn := Try.f24) (p := 4) (t := 5) rfl _ _ (w.heap.size + 1 + 1) cp (.slice A1 m.length c1) rfl HXX.out.box) rfl ?_
  exact ⟨A1, c1, rfl, hc1, HXX.out.cf, HXX.out.below⟩

set_option maxRecDepth 100000 in
set_option maxHeartbeats 4000000 in
theorem small_calls (k no n : Int) (bA : Option Addr) (bn bc : Nat) (pA : Option Addr) (pn pc : Nat) (w : World) :
    Calls Try.prog 23 #[.agg (cellsO k no n bA bn bc pA pn pc)] w fun e w' => e = .returned (.bool (decide (bn ≤ 3000 ∧ pn ≤ 60))) ∧ Below w.heap.size w w' := by
  have bx := BoxC.new w (cellsO k no n bA bn bc pA pn pc) 45
  have hBa := below_alloc (Below.refl w.heap.size w) (.cells (cellsO k no n bA bn bc pA pn pc) 45)
  have x3 := bx.c 3 rfl
  have x4 := bx.c 4 rfl
  clear bx
  go_enter Try.func23, Try.ntmps23
  by_cases h1 : bn ≤ 3000
  · have h1i : (bn : Int) ≤ 3000 := by omega
    by_cases h2 : pn ≤ 60
    · have h2i : (pn : Int) ≤ 60 := by omega
      rw [decide_eq_true (show bn ≤ 3000 ∧ pn ≤ 60 from ⟨h1, h2⟩)]
      go_wp2_with (fail)
      go_ret
      exact ⟨by simp [h1i, h2i], hBa⟩
    · have h2i : ¬ (pn : Int) ≤ 60 := by omega
      rw [decide_eq_false (show ¬ (bn ≤ 3000 ∧ pn ≤ 60) from fun h => h2 h.2)]
      go_wp2_with (fail)
      go_ret
      exact ⟨by simp [h1i, h2i], hBa⟩
  · have h1i : ¬ (bn : Int) ≤ 3000 := by omega
    rw [decide_eq_false (show ¬ (bn ≤ 3000 ∧ pn ≤ 60) from fun h => h1 h.1)]
    go_wp2_with (fail)
    go_ret
    exact ⟨by simp [h1i], hBa⟩
end Go.Proofs.Ytahiigcofgnncaa.H
