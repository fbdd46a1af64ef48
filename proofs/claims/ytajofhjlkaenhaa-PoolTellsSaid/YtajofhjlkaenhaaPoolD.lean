import Derived.Test.YtajofhjlkaenhaaPoolC
import Derived.Scope
import Derived.WalkMore
/-! Layer 11: room, and why a change can't be done, walked. -/
namespace Go.Proofs.Ytajofhjlkaenhaa.H
open Go.RowKit Go.Proofs.YtajofhjlkaenhaaW.PrintWords Go.Proofs.YtajofhjlkaenhaaW.PrintLast Go.Proofs.YtajofhjlkaenhaaW.PrintMore
set_option linter.unusedVariables false
set_option linter.unusedSimpArgs false

/-- Has another pool than the one at a place an address of p? -/
def othersP (p : Pl) (but : Int) : List Pl → Int → Bool
  | [], _ => false
  | q :: l, i => (!(i == but) && meetW p q) || othersP p but l (i + 1)
def roomP (out : Int) (l : List Pl) (but : Int) (p : Pl) : Int :=
  if fitsP p out = false then 1 else if othersP p but l 0 = true then 11 else if but = -1 ∧ l.length = 3 then 9 else 0
theorem othersP_drop (p : Pl) (but : Int) (l : List Pl) (k : Nat) (h : k < l.length) : othersP p but (l.drop k) k = ((!((k : Int) == but) && meetW p l[k]) || othersP p but (l.drop (k + 1)) ((k + 1 : Nat) : Int)) := by
  rw [List.drop_eq_getElem_cons h]
  rfl

set_option maxRecDepth 100000 in
set_option maxHeartbeats 4000000 in
theorem room_calls (what out k0 : Int) (p0 : Pl) (b : Value) (A : Option Addr) (c : Nat) (l : List Pl) (but : Int) (p : Pl) (w : World) (hR : Kd.C kP w A l.length l) (hc : l.length ≤ c) (ho : out ≤ 4) (hb1 : b.oneCell' = true) :
    Calls Try.prog 46 #[.agg (cvs what out k0 p0 b), .slice A l.length c, .int .i64 but, pv p] w fun e w' => e = .returned (.int .i64 (roomP out l but p)) ∧ Below w.heap.size w w' := by
  have hll : l.length ≤ 9223372036854775807 := Kd.C_max hR
  have hC0 : Below w.heap.size w (w.alloc (.cells (cvs what out k0 p0 b) 48)) := below_alloc (Below.refl _ _) _
  have bC := BoxC.new w what out k0 p0 b
  have bP := BoxP.new (w.alloc (.cells (cvs what out k0 p0 b) 48)) p
  rw [World.size_alloc] at bP
  have hC1 : Below w.heap.size w ((w.alloc (.cells (cvs what out k0 p0 b) 48)).alloc (.cells #[.int .i64 p.f0, .int .i64 p.f1, .int .i64 p.f2] 27)) := below_alloc hC0 _
  have k1 := (bC.below (below_alloc (Below.refl _ _) (.cells #[.int .i64 p.f0, .int .i64 p.f1, .int .i64 p.f2] 27))).cell.2.1
  have HP := Lib.hid bP
  have HR := Lib.hid hR
  clear bP bC hR
  go_enter Try.func46, Try.ntmps46
  go_wp2_with (fail)
  refine wp_scope_straight ?_
  go_wp2_with (fail)
  refine (fits_calls p out ho _).mono ?_
  rintro e w1 ⟨rfl, hb1'⟩
  have hW : Below w.heap.size w w1 := hC1.trans (hb1'.mono (by simp; omega))
  have bP1 : BoxP w1 (w.heap.size + 1) p := HP.out.below hb1'
  clear hb1' hC0 hC1 k1 HP
  cases hf : fitsP p out with
  | false =>
    have hr : roomP out l but p = 1 := by unfold roomP; rw [if_pos hf]
    have HV := Lib.hid hr
    clear hr hf
    go_wp2_with (fail)
    (try rw [Exit.noGoto_ret])
    go_ret
    exact ⟨by rw [HV.out]; rfl, hW⟩
  | true =>
    have hf' : ¬ fitsP p out = false := by rw [hf]; decide
    have hr0 : roomP out l but p = if othersP p but l 0 = true then 11 else if but = -1 ∧ l.length = 3 then 9 else 0 := by unfold roomP; rw [if_neg hf']
    have H0 := Lib.hid hr0
    clear hr0 hf hf'
    go_wp2_with (fail)
    go_step3
    go_wp2_with (fail)
    go_loopw [18] (fun i wr => ∃ k : Nat, k ≤ l.length ∧ i = .int .i64 (k : Int) ∧ Hid (othersP p but l 0 = othersP p but (l.drop k) k) ∧ Below w1.heap.size w1 wr) (fun i _ => l.length - (intOf i).toNat)
    case atStart => exact ⟨0, Nat.zero_le _, rfl, Lib.hid rfl, Below.refl _ _⟩
    case round =>
      obtain ⟨k, hk, rfl, hs, hB⟩ := hrel
      have hWr : Below w.heap.size w wr := hW.trans (hB.mono hW.size)
      by_cases hlt : k < l.length
      · have hlti : (k : Int) < (l.length : Int) := by omega
        obtain ⟨ad, rfl, h0, h1, h2⟩ := at_pool (Kd.C_below HR.out hWr) k hlt
        have hnx := othersP_drop p but l k hlt
        generalize hx : l[k] = x at *
        have HN := Lib.hid hnx
        have bPa := (bP1.below hB).alloc (.cells #[.int .i64 x.f0, .int .i64 x.f1, .int .i64 x.f2] 27)
        have q0 := bPa.c0
        have q1 := bPa.c1
        have q2 := bPa.c2
        have hBa : Below w.heap.size w (wr.alloc (.cells #[.int .i64 x.f0, .int .i64 x.f1, .int .i64 x.f2] 27)) := below_alloc hWr _
        have hBb : Below w1.heap.size w1 (wr.alloc (.cells #[.int .i64 x.f0, .int .i64 x.f1, .int .i64 x.f2] 27)) := below_alloc hB _
        have BP := Lib.hid bP1
        clear hnx hx bPa bP1
        by_cases heq : (k : Int) = but
        · have hbe : ((k : Int) == but) = true := by simpa using heq
          have hr : othersP p but l 0 = othersP p but (l.drop (k + 1)) ((k + 1 : Nat) : Int) := by rw [hs.out, HN.out, hbe]; rfl
          have HV := Lib.hid hr
          clear hr hs HN heq
          go_wp2_with (fail)
          go_roundw
          case rel => exact ⟨k + 1, by omega, by go_num, HV, hBb⟩
          case measure => simp [intOf]; omega
        · have hbe : ((k : Int) == but) = false := by simpa using heq
          go_wp2_with (fail)
          refine (meet_calls p x _).mono ?_
          rintro e w2 ⟨rfl, hb2⟩
          have hB2 : Below w.heap.size w w2 := hBa.trans (hb2.mono hBa.size)
          have hB3 : Below w1.heap.size w1 w2 := hBb.trans (hb2.mono hBb.size)
          cases hm : meetW p x with
          | true =>
            have hr : roomP out l but p = 11 := by rw [H0.out, hs.out, HN.out, hbe, hm]; rfl
            have HV := Lib.hid hr
            clear hr hs HN hm H0 hb2
            go_wp2_with (fail)
            (try rw [Exit.noGoto_ret])
            go_ret
            exact ⟨by rw [HV.out]; rfl, hB2⟩
          | false =>
            have hr : othersP p but l 0 = othersP p but (l.drop (k + 1)) ((k + 1 : Nat) : Int) := by rw [hs.out, HN.out, hbe, hm]; rfl
            have HV := Lib.hid hr
            clear hr hs HN hm hb2
            go_wp2_with (fail)
            go_roundw
            case rel => exact ⟨k + 1, by omega, by go_num, HV, hB3⟩
            case measure => simp [intOf]; omega
      · have hnl : ¬ ((k : Int) < (l.length : Int)) := by omega
        obtain rfl : k = l.length := by omega
        have hr0 : othersP p but l 0 = false := by rw [hs.out, List.drop_length]; rfl
        have hr1 : roomP out l but p = if but = -1 ∧ l.length = 3 then 9 else 0 := by rw [H0.out, hr0]; rfl
        have HV := Lib.hid hr1
        clear hr0 hr1 hs H0 bP1
        by_cases hb0 : but = -1
        · have hb0' : (but == -1) = true := by simpa using hb0
          by_cases hl3 : l.length = 3
          · have hl3' : ((l.length : Int) == 3) = true := by rw [beq_iff_eq]; omega
            have HZ := Lib.hid (show roomP out l but p = 9 by rw [HV.out, if_pos ⟨hb0, hl3⟩])
            clear hb0 hl3 HV
            go_wp2_with (fail)
            (try rw [Exit.noGoto_ret])
            go_ret
            exact ⟨by rw [HZ.out]; rfl, hWr⟩
          · have hl3' : ((l.length : Int) == 3) = false := by rw [beq_eq_false_iff_ne]; omega
            have HZ := Lib.hid (show roomP out l but p = 0 by rw [HV.out, if_neg (fun h => hl3 h.2)])
            clear hb0 hl3 HV
            go_wp2_with (fail)
            (try rw [Exit.noGoto_ret])
            go_ret
            exact ⟨by rw [HZ.out]; rfl, hWr⟩
        · have hb0' : (but == -1) = false := by simpa using hb0
          have HZ := Lib.hid (show roomP out l but p = 0 by rw [HV.out, if_neg (fun h => hb0 h.1)])
          clear hb0 HV
          go_wp2_with (fail)
          (try rw [Exit.noGoto_ret])
          go_ret
          exact ⟨by rw [HZ.out]; rfl, hWr⟩
end Go.Proofs.Ytajofhjlkaenhaa.H
