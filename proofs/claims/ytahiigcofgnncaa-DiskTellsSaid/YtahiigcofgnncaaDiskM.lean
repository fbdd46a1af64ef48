import Derived.Test.YtahiigcofgnncaaDiskJ
import Derived.Test.YtahiigcofgnncaaDiskL
/-! Layer 6: Write, Sync, Cut, Drop, walked. -/
namespace Go.Proofs.Ytahiigcofgnncaa.H
open Go.RowKit Moor Go.Proofs.YtahiigcofgnncaaW.PrintWords Go.Proofs.YtahiigcofgnncaaW.PrintLast Go.Proofs.YtahiigcofgnncaaW.PrintMore
set_option linter.unusedVariables false
set_option linter.unusedSimpArgs false

theorem idxF_lt (no : Int) : ∀ (l : List Fl) (i : Nat), idxF no l = some i → i < l.length
  | [], i, h => by cases h
  | f :: l, i, h => by
    have h' : (if f.no = no then some 0 else (idxF no l).map (· + 1)) = some i := h
    split at h'
    · cases h'; simp
    · cases hj : idxF no l with
      | none => rw [hj] at h'; cases h'
      | some j =>
        rw [hj] at h'
        cases h'
        have := idxF_lt no l j hj
        simp
        omega
theorem atD_atR (cap : Int) (l : List Fl) (no : Int) (f : Nat → Fl → Dk × Int) (g : Nat → List Fl × Int) (h : ∀ i, i < l.length → f i (l.getD i fl0) = if (g i).2 = 0 then (⟨cap, (g i).1⟩, 0) else (⟨cap, l⟩, (g i).2)) : atD ⟨cap, l⟩ no f = atR cap l no g := by
  unfold atD atR
  by_cases hm : mayD ⟨cap, l⟩
  · rw [if_pos hm, if_pos hm]
    dsimp only
    cases hi : idxF no l with
    | none => rfl
    | some i =>
      have hil := idxF_lt no l i hi
      dsimp only
      rw [List.getElem?_eq_getElem hil]
      have := h i hil
      rw [List.getD_eq_getElem?_getD, List.getElem?_eq_getElem hil] at this
      exact this
  · rw [if_neg hm, if_neg hm]
theorem writeD_atR (cap : Int) (l : List Fl) (no : Int) (b : List Int) : writeD ⟨cap, l⟩ no b = atR cap l no (writeF cap l b) := atD_atR cap l no _ _ (fun i hi => by
  unfold writeF withD
  dsimp only
  by_cases h : (usedF l : Int) + b.length > cap
  · rw [if_pos h, if_pos h, if_neg (show ¬ (9 : Int) = 0 by decide)]
  · rw [if_neg h, if_neg h, if_pos rfl])
theorem syncD_atR (cap : Int) (l : List Fl) (no : Int) : syncD ⟨cap, l⟩ no = atR cap l no (syncF l) := atD_atR cap l no _ _ (fun i hi => by
  unfold syncF withD
  dsimp only
  rw [if_pos rfl])
theorem cutD_atR (cap : Int) (l : List Fl) (no n : Int) : cutD ⟨cap, l⟩ no n = atR cap l no (cutF l n) := atD_atR cap l no _ _ (fun i hi => by
  unfold cutF withD
  dsimp only
  by_cases h : n < 0 ∨ n > ((l.getD i fl0).data.length : Int)
  · rw [if_pos h, if_pos h, if_neg (show ¬ (1 : Int) = 0 by decide)]
  · rw [if_neg h, if_neg h, if_pos rfl])
theorem dropD_atR (cap : Int) (l : List Fl) (no : Int) : dropD ⟨cap, l⟩ no = atR cap l no (dropF l) := atD_atR cap l no _ _ (fun i hi => by
  unfold dropF
  dsimp only
  rw [if_pos rfl])

theorem eg_write : ∀ args w, (callFunc 39 args).run Try.prog w = .ok (.enter 39 args) w := fun args w => by simp [go_sem]
set_option maxRecDepth 100000 in
set_option maxHeartbeats 8000000 in
theorem write_calls (cap no : Int) (A : Option Addr) (c : Nat) (l : List Fl) (bA : Option Addr) (bc : Nat) (b : List Int) (w : World) (hR : Kd.C kF w A l.length l) (hc : l.length ≤ c) (hl : l.length ≤ 1000) (hs : smallF l) (hu : usedF l ≤ 4611686018427387904) (hbC : Kd.C kB w bA b.length b) (hbc : b.length ≤ bc) (hbl : b.length ≤ 1000000) :
    Calls Try.prog 16 #[.agg (cellsD cap A l.length c), .int .i64 no, .slice bA b.length bc] w (DiskEEnd (writeD ⟨cap, l⟩ no b) w) := by
  obtain ⟨w0, hw0⟩ : ∃ w0, (((w.alloc (.cells (cellsD cap A l.length c) 24)).alloc (.cells #[.slice bA b.length bc] 30)).alloc (.cells (cellsD 0 none 0 0) 24)) = w0 := ⟨_, rfl⟩
  have hb0 : Below w.heap.size w w0 := by rw [← hw0]; exact below_alloc (below_alloc (below_alloc (Below.refl _ _) _) _) _
  have hz0 : w0.heap.size = w.heap.size + 3 := by rw [← hw0]; simp
  have b0 : BoxC w0 (w.heap.size) (cellsD cap A l.length c) 24 := by
    rw [← hw0]
    have h9 := BoxC.new w (cellsD cap A l.length c) 24
    try simp only [World.size_alloc] at h9
    exact ((h9.alloc _).alloc _)
  have b1 : BoxC w0 (w.heap.size + 1) #[.slice bA b.length bc] 30 := by
    rw [← hw0]
    have h9 := BoxC.new (w.alloc (.cells (cellsD cap A l.length c) 24)) #[.slice bA b.length bc] 30
    try simp only [World.size_alloc] at h9
    exact (h9.alloc _)
  have b2 : BoxC w0 (w.heap.size + 1 + 1) (cellsD 0 none 0 0) 24 := by
    rw [← hw0]
    have h9 := BoxC.new ((w.alloc (.cells (cellsD cap A l.length c) 24)).alloc (.cells #[.slice bA b.length bc] 30)) (cellsD 0 none 0 0) 24
    try simp only [World.size_alloc] at h9
    exact h9
  have d0 := b0.c 0 rfl
  have d1 := b0.c 1 rfl
  have HR := Lib.hid (Kd.C_below hR hb0)
  have HS := Lib.hid hs
  have HW0 := Lib.hid hw0
  have HE := Lib.hid b2
  have HQ := Lib.hid (at_calls cap no A c l 39 #[.pointer (some ⟨w.heap.size + 1, 0, none⟩)] (writeF cap l b) w0 HR.out hc (by omega) hs hu (fun i hm hi => write1_do cap l bA bc b (w.heap.size + 1) w0 i (idxF_lt no l i hi) hm b1 (Kd.C_below hbC hb0) hbc hbl hs) eg_write)
  clear hR hs b0 b1 b2
  go_enter Try.func16, Try.ntmps16
  go_wp2_with (fail)
  refine HQ.out.mono ?_
  rintro e w1 ⟨A1, c1, rfl, hc1, hF1, hb1⟩
  rw [← writeD_atR] at hc1 hF1 ⊢
  generalize writeD ⟨cap, l⟩ no b = r at *
  obtain ⟨⟨cp, m⟩, er⟩ := r
  dsimp only at hc1 hF1 ⊢
  have hB1 := hb0.trans (hb1.mono hb0.size)
  have bE := HE.out.below hb1
  have f0 := bE.c 0 rfl
  have f1 := bE.c 1 rfl
  have ff0 := bE.f 0
  have ff1 := bE.f 1
  have hEE := (bE.set 0 (.int .i64 cp)).set 1 (.slice A1 m.length c1)
  have hBE := (hB1.setCell (p := ⟨w.heap.size + 1 + 1, 0, none⟩) (by show w.heap.size ≤ w.heap.size + 1 + 1; omega) (.int .i64 cp)).setCell (p := ⟨w.heap.size + 1 + 1, 1, none⟩) (by show w.heap.size ≤ w.heap.size + 1 + 1; omega) (.slice A1 m.length c1)
  have hCC : CFrom w.heap.size ((w1.setCell ⟨w.heap.size + 1 + 1, 0, none⟩ (.int .i64 cp)).setCell ⟨w.heap.size + 1 + 1, 1, none⟩ (.slice A1 m.length c1)) A1 m := fun W'' hW'' => hF1 W'' (fun q hq hq2 => (hW'' q (by omega) (by simpa using hq2)).trans ((Below.heap_setCell _ _ _ q (by show q ≠ w.heap.size + 1 + 1; omega)).trans (Below.heap_setCell _ _ _ q (by show q ≠ w.heap.size + 1 + 1; omega))))
  have HEE := Lib.hid hEE
  have HCC := Lib.hid hCC
  clear hF1 hb1 bE hEE hCC d0 d1 HQ
  go_wp2_with (fail)
  refine bodyPost_ret (results_DE (fn := Try.f16) (p := 6) (t := 7) rfl _ _ (w.heap.size + 1 + 1) cp (.slice A1 m.length c1) rfl HEE.out) rfl ?_
  exact ⟨A1, c1, rfl, hc1, HCC.out, hBE⟩

theorem eg_sync : ∀ args w, (callFunc 41 args).run Try.prog w = .ok (.enter 41 args) w := fun args w => by simp [go_sem]
set_option maxRecDepth 100000 in
set_option maxHeartbeats 8000000 in
theorem sync_calls (cap no : Int) (A : Option Addr) (c : Nat) (l : List Fl)  (w : World) (hR : Kd.C kF w A l.length l) (hc : l.length ≤ c) (hl : l.length ≤ 1000) (hs : smallF l) (hu : usedF l ≤ 4611686018427387904)  :
    Calls Try.prog 19 #[.agg (cellsD cap A l.length c), .int .i64 no] w (DiskEEnd (syncD ⟨cap, l⟩ no) w) := by
  obtain ⟨w0, hw0⟩ : ∃ w0, ((w.alloc (.cells (cellsD cap A l.length c) 24)).alloc (.cells (cellsD 0 none 0 0) 24)) = w0 := ⟨_, rfl⟩
  have hb0 : Below w.heap.size w w0 := by rw [← hw0]; exact below_alloc (below_alloc (Below.refl _ _) _) _
  have hz0 : w0.heap.size = w.heap.size + 2 := by rw [← hw0]; simp
  have b0 : BoxC w0 (w.heap.size) (cellsD cap A l.length c) 24 := by
    rw [← hw0]
    have h9 := BoxC.new w (cellsD cap A l.length c) 24
    try simp only [World.size_alloc] at h9
    exact (h9.alloc _)
  have b1 : BoxC w0 (w.heap.size + 1) (cellsD 0 none 0 0) 24 := by
    rw [← hw0]
    have h9 := BoxC.new (w.alloc (.cells (cellsD cap A l.length c) 24)) (cellsD 0 none 0 0) 24
    try simp only [World.size_alloc] at h9
    exact h9
  have d0 := b0.c 0 rfl
  have d1 := b0.c 1 rfl
  have HR := Lib.hid (Kd.C_below hR hb0)
  have HS := Lib.hid hs
  have HW0 := Lib.hid hw0
  have HE := Lib.hid b1
  have HQ := Lib.hid (at_calls cap no A c l 41 #[] (syncF l) w0 HR.out hc (by omega) hs hu (fun i hm hi => sync1_do cap l w0 i (idxF_lt no l i hi)) eg_sync)
  clear hR hs b0 b1
  go_enter Try.func19, Try.ntmps19
  go_wp2_with (fail)
  refine HQ.out.mono ?_
  rintro e w1 ⟨A1, c1, rfl, hc1, hF1, hb1⟩
  rw [← syncD_atR] at hc1 hF1 ⊢
  generalize syncD ⟨cap, l⟩ no = r at *
  obtain ⟨⟨cp, m⟩, er⟩ := r
  dsimp only at hc1 hF1 ⊢
  have hB1 := hb0.trans (hb1.mono hb0.size)
  have bE := HE.out.below hb1
  have f0 := bE.c 0 rfl
  have f1 := bE.c 1 rfl
  have ff0 := bE.f 0
  have ff1 := bE.f 1
  have hEE := (bE.set 0 (.int .i64 cp)).set 1 (.slice A1 m.length c1)
  have hBE := (hB1.setCell (p := ⟨w.heap.size + 1, 0, none⟩) (by show w.heap.size ≤ w.heap.size + 1; omega) (.int .i64 cp)).setCell (p := ⟨w.heap.size + 1, 1, none⟩) (by show w.heap.size ≤ w.heap.size + 1; omega) (.slice A1 m.length c1)
  have hCC : CFrom w.heap.size ((w1.setCell ⟨w.heap.size + 1, 0, none⟩ (.int .i64 cp)).setCell ⟨w.heap.size + 1, 1, none⟩ (.slice A1 m.length c1)) A1 m := fun W'' hW'' => hF1 W'' (fun q hq hq2 => (hW'' q (by omega) (by simpa using hq2)).trans ((Below.heap_setCell _ _ _ q (by show q ≠ w.heap.size + 1; omega)).trans (Below.heap_setCell _ _ _ q (by show q ≠ w.heap.size + 1; omega))))
  have HEE := Lib.hid hEE
  have HCC := Lib.hid hCC
  clear hF1 hb1 bE hEE hCC d0 d1 HQ
  go_wp2_with (fail)
  refine bodyPost_ret (results_DE (fn := Try.f19) (p := 4) (t := 5) rfl _ _ (w.heap.size + 1) cp (.slice A1 m.length c1) rfl HEE.out) rfl ?_
  exact ⟨A1, c1, rfl, hc1, HCC.out, hBE⟩

theorem eg_cut : ∀ args w, (callFunc 42 args).run Try.prog w = .ok (.enter 42 args) w := fun args w => by simp [go_sem]
set_option maxRecDepth 100000 in
set_option maxHeartbeats 8000000 in
theorem cut_calls (cap no : Int) (A : Option Addr) (c : Nat) (l : List Fl) (n : Int) (w : World) (hR : Kd.C kF w A l.length l) (hc : l.length ≤ c) (hl : l.length ≤ 1000) (hs : smallF l) (hu : usedF l ≤ 4611686018427387904)  :
    Calls Try.prog 20 #[.agg (cellsD cap A l.length c), .int .i64 no, .int .i64 n] w (DiskEEnd (cutD ⟨cap, l⟩ no n) w) := by
  obtain ⟨w0, hw0⟩ : ∃ w0, (((w.alloc (.cells (cellsD cap A l.length c) 24)).alloc (.cells #[.int .i64 n] 3)).alloc (.cells (cellsD 0 none 0 0) 24)) = w0 := ⟨_, rfl⟩
  have hb0 : Below w.heap.size w w0 := by rw [← hw0]; exact below_alloc (below_alloc (below_alloc (Below.refl _ _) _) _) _
  have hz0 : w0.heap.size = w.heap.size + 3 := by rw [← hw0]; simp
  have b0 : BoxC w0 (w.heap.size) (cellsD cap A l.length c) 24 := by
    rw [← hw0]
    have h9 := BoxC.new w (cellsD cap A l.length c) 24
    try simp only [World.size_alloc] at h9
    exact ((h9.alloc _).alloc _)
  have b1 : BoxC w0 (w.heap.size + 1) #[.int .i64 n] 3 := by
    rw [← hw0]
    have h9 := BoxC.new (w.alloc (.cells (cellsD cap A l.length c) 24)) #[.int .i64 n] 3
    try simp only [World.size_alloc] at h9
    exact (h9.alloc _)
  have b2 : BoxC w0 (w.heap.size + 1 + 1) (cellsD 0 none 0 0) 24 := by
    rw [← hw0]
    have h9 := BoxC.new ((w.alloc (.cells (cellsD cap A l.length c) 24)).alloc (.cells #[.int .i64 n] 3)) (cellsD 0 none 0 0) 24
    try simp only [World.size_alloc] at h9
    exact h9
  have d0 := b0.c 0 rfl
  have d1 := b0.c 1 rfl
  have HR := Lib.hid (Kd.C_below hR hb0)
  have HS := Lib.hid hs
  have HW0 := Lib.hid hw0
  have HE := Lib.hid b2
  have HQ := Lib.hid (at_calls cap no A c l 42 #[.pointer (some ⟨w.heap.size + 1, 0, none⟩)] (cutF l n) w0 HR.out hc (by omega) hs hu (fun i hm hi => cut1_do cap l n (w.heap.size + 1) w0 i (idxF_lt no l i hi) b1) eg_cut)
  clear hR hs b0 b1 b2
  go_enter Try.func20, Try.ntmps20
  go_wp2_with (fail)
  refine HQ.out.mono ?_
  rintro e w1 ⟨A1, c1, rfl, hc1, hF1, hb1⟩
  rw [← cutD_atR] at hc1 hF1 ⊢
  generalize cutD ⟨cap, l⟩ no n = r at *
  obtain ⟨⟨cp, m⟩, er⟩ := r
  dsimp only at hc1 hF1 ⊢
  have hB1 := hb0.trans (hb1.mono hb0.size)
  have bE := HE.out.below hb1
  have f0 := bE.c 0 rfl
  have f1 := bE.c 1 rfl
  have ff0 := bE.f 0
  have ff1 := bE.f 1
  have hEE := (bE.set 0 (.int .i64 cp)).set 1 (.slice A1 m.length c1)
  have hBE := (hB1.setCell (p := ⟨w.heap.size + 1 + 1, 0, none⟩) (by show w.heap.size ≤ w.heap.size + 1 + 1; omega) (.int .i64 cp)).setCell (p := ⟨w.heap.size + 1 + 1, 1, none⟩) (by show w.heap.size ≤ w.heap.size + 1 + 1; omega) (.slice A1 m.length c1)
  have hCC : CFrom w.heap.size ((w1.setCell ⟨w.heap.size + 1 + 1, 0, none⟩ (.int .i64 cp)).setCell ⟨w.heap.size + 1 + 1, 1, none⟩ (.slice A1 m.length c1)) A1 m := fun W'' hW'' => hF1 W'' (fun q hq hq2 => (hW'' q (by omega) (by simpa using hq2)).trans ((Below.heap_setCell _ _ _ q (by show q ≠ w.heap.size + 1 + 1; omega)).trans (Below.heap_setCell _ _ _ q (by show q ≠ w.heap.size + 1 + 1; omega))))
  have HEE := Lib.hid hEE
  have HCC := Lib.hid hCC
  clear hF1 hb1 bE hEE hCC d0 d1 HQ
  go_wp2_with (fail)
  refine bodyPost_ret (results_DE (fn := Try.f20) (p := 6) (t := 7) rfl _ _ (w.heap.size + 1 + 1) cp (.slice A1 m.length c1) rfl HEE.out) rfl ?_
  exact ⟨A1, c1, rfl, hc1, HCC.out, hBE⟩

theorem eg_drop : ∀ args w, (callFunc 44 args).run Try.prog w = .ok (.enter 44 args) w := fun args w => by simp [go_sem]
set_option maxRecDepth 100000 in
set_option maxHeartbeats 8000000 in
theorem drop_calls (cap no : Int) (A : Option Addr) (c : Nat) (l : List Fl)  (w : World) (hR : Kd.C kF w A l.length l) (hc : l.length ≤ c) (hl : l.length ≤ 1000) (hs : smallF l) (hu : usedF l ≤ 4611686018427387904)  :
    Calls Try.prog 22 #[.agg (cellsD cap A l.length c), .int .i64 no] w (DiskEEnd (dropD ⟨cap, l⟩ no) w) := by
  obtain ⟨w0, hw0⟩ : ∃ w0, ((w.alloc (.cells (cellsD cap A l.length c) 24)).alloc (.cells (cellsD 0 none 0 0) 24)) = w0 := ⟨_, rfl⟩
  have hb0 : Below w.heap.size w w0 := by rw [← hw0]; exact below_alloc (below_alloc (Below.refl _ _) _) _
  have hz0 : w0.heap.size = w.heap.size + 2 := by rw [← hw0]; simp
  have b0 : BoxC w0 (w.heap.size) (cellsD cap A l.length c) 24 := by
    rw [← hw0]
    have h9 := BoxC.new w (cellsD cap A l.length c) 24
    try simp only [World.size_alloc] at h9
    exact (h9.alloc _)
  have b1 : BoxC w0 (w.heap.size + 1) (cellsD 0 none 0 0) 24 := by
    rw [← hw0]
    have h9 := BoxC.new (w.alloc (.cells (cellsD cap A l.length c) 24)) (cellsD 0 none 0 0) 24
    try simp only [World.size_alloc] at h9
    exact h9
  have d0 := b0.c 0 rfl
  have d1 := b0.c 1 rfl
  have HR := Lib.hid (Kd.C_below hR hb0)
  have HS := Lib.hid hs
  have HW0 := Lib.hid hw0
  have HE := Lib.hid b1
  have HQ := Lib.hid (at_calls cap no A c l 44 #[] (dropF l) w0 HR.out hc (by omega) hs hu (fun i hm hi => drop1_do cap l w0 i (idxF_lt no l i hi) hl) eg_drop)
  clear hR hs b0 b1
  go_enter Try.func22, Try.ntmps22
  go_wp2_with (fail)
  refine HQ.out.mono ?_
  rintro e w1 ⟨A1, c1, rfl, hc1, hF1, hb1⟩
  rw [← dropD_atR] at hc1 hF1 ⊢
  generalize dropD ⟨cap, l⟩ no = r at *
  obtain ⟨⟨cp, m⟩, er⟩ := r
  dsimp only at hc1 hF1 ⊢
  have hB1 := hb0.trans (hb1.mono hb0.size)
  have bE := HE.out.below hb1
  have f0 := bE.c 0 rfl
  have f1 := bE.c 1 rfl
  have ff0 := bE.f 0
  have ff1 := bE.f 1
  have hEE := (bE.set 0 (.int .i64 cp)).set 1 (.slice A1 m.length c1)
  have hBE := (hB1.setCell (p := ⟨w.heap.size + 1, 0, none⟩) (by show w.heap.size ≤ w.heap.size + 1; omega) (.int .i64 cp)).setCell (p := ⟨w.heap.size + 1, 1, none⟩) (by show w.heap.size ≤ w.heap.size + 1; omega) (.slice A1 m.length c1)
  have hCC : CFrom w.heap.size ((w1.setCell ⟨w.heap.size + 1, 0, none⟩ (.int .i64 cp)).setCell ⟨w.heap.size + 1, 1, none⟩ (.slice A1 m.length c1)) A1 m := fun W'' hW'' => hF1 W'' (fun q hq hq2 => (hW'' q (by omega) (by simpa using hq2)).trans ((Below.heap_setCell _ _ _ q (by show q ≠ w.heap.size + 1; omega)).trans (Below.heap_setCell _ _ _ q (by show q ≠ w.heap.size + 1; omega))))
  have HEE := Lib.hid hEE
  have HCC := Lib.hid hCC
  clear hF1 hb1 bE hEE hCC d0 d1 HQ
  go_wp2_with (fail)
  refine bodyPost_ret (results_DE (fn := Try.f22) (p := 4) (t := 5) rfl _ _ (w.heap.size + 1) cp (.slice A1 m.length c1) rfl HEE.out) rfl ?_
  exact ⟨A1, c1, rfl, hc1, HCC.out, hBE⟩
end Go.Proofs.Ytahiigcofgnncaa.H
