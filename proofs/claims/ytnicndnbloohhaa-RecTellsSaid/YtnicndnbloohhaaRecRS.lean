import Derived.Test.YtnicndnbloohhaaRecRG
/-! Layer 5: the reference's Scan, walked. -/
namespace Go.Proofs.Ytnicndnbloohhaa.H
open Go.RowKit Moor Go.Proofs.YtnicndnbloohhaaW.PrintWords Go.Proofs.YtnicndnbloohhaaW.PrintLast Go.Proofs.YtnicndnbloohhaaW.PrintMore
set_option linter.unusedVariables false
set_option linter.unusedSimpArgs false

theorem two_cells2 {W : World} {t : TypeId} {o : Obj} (x : RX) (hs : W.heap.size + 1 = (W.alloc o).heap.size) : ∀ j u, (rawR x)[j]? = some u → ((W.alloc o).alloc (.cells #[.int .i64 x.r.kind, .slice x.A x.r.body.length x.c] t)).cell? ((⟨W.heap.size + 1, 0, none⟩ : Addr).add j) = some u := by
  rw [hs]
  exact two_cells x
set_option maxRecDepth 100000 in
set_option maxHeartbeats 8000000 in
theorem refScan_calls (A : Option Addr) (c : Nat) (b : List Int) (w : World) (hR : Kd.C (Kd.int .u8) w A b.length b) (hc : b.length ≤ c) (ho : okB b) (hlen : b.length ≤ 1000000) :
    Calls Try.prog 17 #[.slice A b.length c] w (ScanEnd b w) := by
  have HR := Lib.hid hR
  clear hR
  obtain ⟨i0, hi, hz0, hz1, hz2⟩ := info_parts infoRec3
  go_enter Try.func17, Try.ntmps17
  go_wp2_with (fail)
  go_loopw [4, 5] (fun v q wr => ∃ (pre : List RX) (a f : Nat), q = .int .i64 (a : Int) ∧ a ≤ b.length ∧ b.length - a < f ∧ pre.length + f ≤ b.length + 1 ∧ Hid (seqR (b.length + 1) b 0 = pre.map prX ++ seqR f b a) ∧ Hid ((a : Int) = lastR 0 (pre.map prX)) ∧ wr.ownsRow w.heap.size 24 2 v pre.length (pre.flatMap rawR) ∧ Below w.heap.size w wr ∧ Hid (∀ x ∈ pre, GoodB wr x ∧ AwayB v w.heap.size x))
    (fun _ q _ => b.length + 1 - (intOf q).toNat)
  case atStart => exact ⟨[], 0, b.length + 1, rfl, by omega, by omega, by simp, Lib.hid rfl, Lib.hid rfl, World.ownsRow_nil _ _ _ _, Below.refl _ _, Lib.hid (fun x hx => by cases hx)⟩
  case round =>
    obtain ⟨pre, a, f, rfl, ha, hf, hpl, hs, hla, hrow, hB, hall⟩ := hrel
    have HS := Lib.hid (seqR_step ho ha hf)
    obtain ⟨A', c', rfl⟩ := own_formR hrow
    have HROW := Lib.hid hrow
    clear hrow
    go_wp2_with (fail)
    refine (refGet_calls A c b (a : Int) wr (Kd.C_below HR.out hB) hc ho (by omega)).mono ?_
    rintro e w1 ⟨A1, c1, rfl, hc1, hC1, hb1, hf1⟩
    have hB1 := hB.trans (hb1.mono hB.size)
    generalize rGet b (a : Int) = g at *
    obtain ⟨r, en, er⟩ := g
    dsimp only at *
    by_cases her : er = 0
    · subst her
      obtain ⟨-, a', rfl, ha1, ha2, g', rfl, hf', hseq⟩ : (0 : Int) = 0 ∧ ∃ a' : Nat, en = (a' : Int) ∧ a < a' ∧ a' ≤ b.length ∧ ∃ g, f = g + 1 ∧ b.length - a' < g ∧ seqR f b a = (r, en) :: seqR g b a' := by
        rcases HS.out with h | h
        · exact h
        · exact absurd rfl h.1
      have HSQ := Lib.hid hseq
      have hrow1 := (Fr.below hb1 (fun _ => False)).row HROW.out (fun _ _ h => h)
      have hsz1 := hB1.size
      have HC1 := Lib.hid hC1
      have HF1 := Lib.hid hf1
      have HR1 := Lib.hid hrow1
      clear hseq HS hrow1 hC1 hf1
      go_wp2_with (at_builtin; refine wpList_append_own_at _ rfl _ _ 27 rfl w.heap.size 24 i0 (.agg #[.int .i64 0, .slice none 0 0]) 2 32 Try.underlying27 hi hz0 hz1 hz2 rfl (by decide) (.slice A' pre.length c') pre.length (pre.flatMap rawR) rfl ((HR1.out.alloc _).alloc _) ⟨w1.heap.size + 1, 0, none⟩ 1 1 (rawR ⟨r, (a' : Int), A1, c1⟩) rfl rfl (two_cells2 ⟨r, (a' : Int), A1, c1⟩ (by simp)) (by simp [Value.oneCell']) (by unfold maxLen; omega) (by omega) (by simp; omega) ?_; intro v' w2 hown' hgrow0 _ hat0; have hgrow : ((w1.alloc (.cells #[.int .i64 r.kind, .slice A1 r.body.length c1] 24)).alloc (.cells #[.int .i64 r.kind, .slice A1 r.body.length c1] 24)).grownBy w2 (Value.slice A' pre.length c').ownBlock := hgrow0; have hat : v'.ownBlock = (Value.slice A' pre.length c').ownBlock ∨ v'.ownBlock = some (w1.heap.size + 2) := (by simpa using hat0); clear hgrow0 hat0)
      have hls := HROW.out.lt
      have hF0 : Fr (fun _ => False) w1 ((w1.alloc (.cells #[.int .i64 r.kind, .slice A1 r.body.length c1] 24)).alloc (.cells #[.int .i64 r.kind, .slice A1 r.body.length c1] 24)) := Fr.below (below_alloc (below_alloc (Below.refl _ _) _) _) _
      have hF1 : Fr (fun k => (Value.slice A' pre.length c').ownBlock = some k) w1 w2 := (hF0.mono (fun _ _ h => h.elim)).trans (Fr.grown hgrow)
      have hF2 : Fr (fun k => (Value.slice A' pre.length c').ownBlock = some k) wr w2 := (Fr.below hb1 _).trans hF1
      have hB2 : Below w.heap.size w w2 := ((below_alloc (below_alloc hB1 _) _).grown hgrow (by simp; omega) (fun k e => (hls k e).1))
      have hx1 : GoodB w2 ⟨r, (a' : Int), A1, c1⟩ := ⟨hF1.bytes HC1.out (fun hp ad had e => by
        have h1 := hls _ e
        have h2 := HF1.out ad had
        omega), hc1⟩
      have hall2 : ∀ x ∈ pre ++ [⟨r, (a' : Int), A1, c1⟩], GoodB w2 x ∧ AwayB v' w.heap.size x := by
        intro x hx
        rcases List.mem_append.1 hx with hx | hx
        · obtain ⟨⟨g1, g2⟩, g3⟩ := hall.out x hx
          refine ⟨⟨hF2.bytes g1 (fun hp ad had => (g3 hp ad had).1), g2⟩, fun hp ad had => ⟨fun e => ?_, (g3 hp ad had).2⟩⟩
          have hlt := C_lt g1 hp had
          rcases hat with h | h
          · exact (g3 hp ad had).1 (by rw [← h]; exact e)
          · rw [h] at e
            have := Option.some.inj e
            have := hb1.size
            omega
        · obtain rfl := List.mem_singleton.1 hx
          refine ⟨hx1, fun hp ad had => ⟨fun e => ?_, ?_⟩⟩
          · have hlt := C_lt HC1.out hp had
            have h2 := HF1.out ad had
            rcases hat with h | h
            · rw [h] at e
              have h1 := hls _ e
              omega
            · rw [h] at e
              have := Option.some.inj e
              omega
          · have h2 := HF1.out ad had
            have := hB.size
            omega
      have HA := Lib.hid hall2
      have hrow2 : w2.ownsRow w.heap.size 24 2 v' (pre ++ [(⟨r, (a' : Int), A1, c1⟩ : RX)]).length ((pre ++ [(⟨r, (a' : Int), A1, c1⟩ : RX)]).flatMap rawR) := by
        rw [List.length_append, List.flatMap_append]
        simpa using hown'
      have HR2 := Lib.hid hrow2
      clear hall2 hrow2 hx1 hF0 hF1 hF2 hat hown' hls
      go_roundw
      case rel => exact ⟨pre ++ [⟨r, (a' : Int), A1, c1⟩], a', g', rfl, ha2, hf', by simp; omega, Lib.hid (by rw [hs.out, HSQ.out]; simp), Lib.hid (by rw [List.map_append]; show _ = lastR 0 (pre.map prX ++ [prX _]); rw [lastR_snoc]), HR2.out, hB2, HA⟩
      case measure => simp [intOf]; omega
    · have heb : (er != 0) = true := by simpa using her
      have hsf : seqR f b a = [] := by
        rcases HS.out with h | h
        · exact absurd h.1 her
        · exact h.2
      obtain ⟨e1, e2⟩ := rScan_seq b
      rw [hs.out, hsf, List.append_nil] at e1 e2
      have e3 : (rScan b).1.map toS = pre.map (fun x => toS x.r) := by
        rw [e1]
        simp [Function.comp_def]
      have e4 : (rScan b).1.length = pre.length := by
        have := congrArg List.length e3
        simpa using this
      have hrow1 := (Fr.below hb1 (fun _ => False)).row HROW.out (fun _ _ h => h)
      have hal := below_alloc (Below.refl _ w1) (.cells #[.int .i64 r.kind, .slice A1 r.body.length c1] 24)
      obtain ⟨z1, z2⟩ := row_C ((Fr.below hal (fun _ => False)).row hrow1 (fun _ _ h => h)) (fun x hx => by
        obtain ⟨⟨g1, g2⟩, _⟩ := hall.out x hx
        exact ⟨(Fr.below hal (fun _ => False)).bytes ((Fr.below hb1 (fun _ => False)).bytes g1 (fun _ _ _ h => h)) (fun _ _ _ h => h), g2⟩)
      have E2 := Lib.hid e2
      have E3 := Lib.hid e3
      have E4 := Lib.hid e4
      have Z2 := Lib.hid z2
      have HLA := Lib.hid hla.out
      have hB2 := below_alloc hB1 (.cells #[.int .i64 r.kind, .slice A1 r.body.length c1] 24)
      clear her hsf e1 e2 e3 e4 hrow1 z2 hal HS
      go_wp2_with (fail)
      refine bodyPost_ret (results_tmp2 (fn := Try.f17) (t := 2) (u := 3) rfl _ _ _) rfl ?_
      refine ⟨A', c', ?_, by rw [E4.out]; exact z1, by rw [E3.out]; exact Z2.out, hB2⟩
      rw [E4.out, E2.out, ← HLA.out]
      rfl
end Go.Proofs.Ytnicndnbloohhaa.H
