import Derived.Test.YtahiigcofgnncaaDiskE
/-! Layer 6: Crash's closure, walked. -/
namespace Go.Proofs.Ytahiigcofgnncaa.H
open Go.RowKit Moor Go.Proofs.YtahiigcofgnncaaW.PrintWords Go.Proofs.YtahiigcofgnncaaW.PrintLast Go.Proofs.YtahiigcofgnncaaW.PrintMore
set_option linter.unusedVariables false
set_option linter.unusedSimpArgs false

set_option maxRecDepth 100000 in
theorem infoI : (Try.prog.info? 3).map (fun i => (i.zero, i.size, i.bytes)) = some (some (.int .i64 0), 1, 8) := by kernel_rfl
theorem dropI (A : Option Addr) (c : Nat) (l : List Int) (j : Int) (h0 : 0 ≤ j) (hm : j ≤ l.length) (hc : l.length ≤ c) :
    ∃ A' : Option Addr, (∀ W : World, (Instr.slice 25 (.slice A l.length c) (some (.int .i64 j)) none none).run Try.prog W = .ok (.slice A' (l.drop j.toNat).length (c - j.toNat)) W) ∧
      (∀ w : World, Kd.C (Kd.int .i64) w A l.length l → Kd.C (Kd.int .i64) w A' (l.drop j.toNat).length (l.drop j.toNat)) ∧ (l.drop j.toNat).length ≤ c - j.toNat := by
  obtain ⟨i0, hi, hz0, hz1, hz2⟩ := info_parts infoI
  obtain ⟨A', k1, k2, k3⟩ := print_drop_of (P := Try.prog) (Value.int .i64) (0 : Int) 25 3 .i64 Try.underlying25 hi hz1 A c l j h0 hm hc
  exact ⟨A', k1, fun w h => Kd.C_of_reads (h1 := fun _ => rfl) (k2 w (Kd.reads_of_C (h1 := fun _ => rfl) h)), k3⟩

theorem add_zeroR (ad : Addr) : ad.add 0 = ad := by
  cases ad
  unfold Addr.add
  split <;> simp_all
theorem i64_of {n : Int} (h0 : -9223372036854775808 ≤ n) (h1 : n ≤ 9223372036854775807) : IntKind.i64.wrap n = n := by have h := IntKind.wrap_i64 n; rw [h]; omega
set_option maxRecDepth 100000 in
set_option maxHeartbeats 4000000 in
theorem next_calls (wq : World) (B : Nat) (p : List Int) (A : Option Addr) (c : Nat) (w : World) (hb : BoxC w B #[.slice A p.length c] 25) (hq : Kd.C (Kd.int .i64) wq A p.length p) (hbq : Below wq.heap.size wq w) (hc : p.length ≤ c) :
    Calls Try.prog 33 #[.pointer (some ⟨B, 0, none⟩)] w (fun e w' => e = .returned (.int .i64 (p.headD 0)) ∧ ∃ (A' : Option Addr) (c' : Nat), BoxC w' B #[.slice A' p.tail.length c'] 25 ∧ p.tail.length ≤ c' ∧ Kd.C (Kd.int .i64) wq A' p.tail.length p.tail ∧ w.grownBy w' (some B) ∧ w'.heap.size = w.heap.size) := by
  have b0 := hb.c 0 rfl
  have hR := Kd.C_below hq hbq
  cases p with
  | nil =>
    have HB := Lib.hid hb
    have HR := Lib.hid hq
    clear hb hR hq hbq
    go_enter Try.func33, Try.ntmps33
    go_wp2_with (fail)
    go_ret
    exact ⟨rfl, A, c, HB.out, hc, HR.out, World.grownBy.refl _ _, rfl⟩
  | cons v p =>
    have hl1 : ((((v :: p).length : Nat) : Int) == 0) = false := by first | (simp; done) | (simp; omega)
    have hli : (0 : Int) < (((v :: p).length : Nat) : Int) := by first | (simp; done) | (simp; omega)
    have hf := hb.f 0
    obtain ⟨ad, rfl, hv⟩ := Kd.at_int hR 0 (by omega) hli
    have hrd : rd (v :: p) (0 : Int) = v := rfl
    rw [hrd] at hv
    have hv0 : w.cell? ad = some (.int .i64 v) := by rw [← hv]; congr 1
    obtain ⟨A', e1, e2, e3⟩ := dropI (some ad) c (v :: p) 1 (by omega) (by first | (simp; done) | (simp; omega)) hc
    have hd : List.drop (1 : Int).toNat (v :: p) = p := rfl
    rw [hd] at e1 e2 e3
    have E2 := Lib.hid (e2 wq hq)
    have HB := Lib.hid (hb.set 0 (.slice A' p.length (c - (1 : Int).toNat)))
    clear e2 hR hb hrd hd hq hbq
    generalize hL : (v :: p).length = L at *
    clear hL
    go_enter Try.func33, Try.ntmps33
    go_wp2_with (fail)
    go_ret
    exact ⟨rfl, A', _, HB.out, e3, E2.out, ⟨rfl, rfl, rfl, by simp, fun q _ hq => Below.heap_setCell _ _ _ q (fun e => hq (by rw [e]))⟩, by simp⟩

theorem sliceLow (h s m L c : Nat) (hL : L = s + m) (hm : 0 < m) (hc : L ≤ c) (W : World) :
    (Instr.slice 30 (.slice (some ⟨h, 0, none⟩) L c) (some (.int .i64 (s : Int))) none none).run Try.prog W = .ok (.slice (some ⟨h, s, none⟩) m (c - s)) W := by
  obtain ⟨i0, hi, hz0, hz1, hz2⟩ := info_parts infoU8
  have ht : Try.prog.underlying 30 = some (.slice 5) := Try.underlying30
  have hel : Try.prog.elem 30 = 5 := by simp [Program.elem, ht]
  have hu : Try.prog.underlying 30 = some (.slice (Try.prog.elem 30)) := by rw [hel]; exact ht
  rw [run_slice_l W 30 (some ⟨h, 0, none⟩) L c hu .i64 (s : Int) (by omega) (by omega), hel]
  have h1 : ¬ c = s := by omega
  have h2 : L - s = m := by omega
  simp [sizeOf, typeInfo, hi, hz1, sliced, Result.andThen, h1, h2, Addr.add]
  omega
theorem sliceHigh (a : Option Addr) (L c j : Nat) (hj : j ≤ c) (W : World) :
    (Instr.slice 30 (.slice a L c) none (some (.int .i64 (j : Int))) none).run Try.prog W = .ok (.slice a j c) W := by
  obtain ⟨i0, hi, hz0, hz1, hz2⟩ := info_parts infoU8
  have ht : Try.prog.underlying 30 = some (.slice 5) := Try.underlying30
  have hel : Try.prog.elem 30 = 5 := by simp [Program.elem, ht]
  have hu : Try.prog.underlying 30 = some (.slice (Try.prog.elem 30)) := by rw [hel]; exact ht
  rw [run_slice_h W 30 a L c hu .i64 (j : Int) (by omega) (by omega), hel]
  cases a <;> simp [sizeOf, typeInfo, hi, hz1, sliced, Result.andThen, add_zeroR]
end Go.Proofs.Ytahiigcofgnncaa.H
