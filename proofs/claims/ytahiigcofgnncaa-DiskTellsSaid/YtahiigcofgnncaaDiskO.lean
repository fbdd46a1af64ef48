import Derived.Test.YtahiigcofgnncaaDiskN
import Derived.Deep.Slices
import Derived.Deep.Fields
import Derived.ChangeSame
import Derived.ChangeSlices
/-! Disks that came in, opened; plain laws of a crash. -/
namespace Go.Proofs.Ytahiigcofgnncaa.H
open Go.RowKit Moor Go.Proofs.YtahiigcofgnncaaW.PrintWords Go.Proofs.YtahiigcofgnncaaW.PrintLast Go.Proofs.YtahiigcofgnncaaW.PrintMore Go.ChangeShapes Go.WideShapes
set_option linter.unusedVariables false
set_option linter.unusedSimpArgs false

instance : Inhabited Fl := ⟨fl0⟩
theorem cellsOf_intD : Try.prog.cellsOf 3 = 1 := by kernel_rfl
theorem cellsOf_byteD : Try.prog.cellsOf 5 = 1 := by kernel_rfl
theorem cellsOf_bytesD : Try.prog.cellsOf 30 = 1 := by kernel_rfl
theorem cellsOf_file : Try.prog.cellsOf 32 = 3 := by kernel_rfl
theorem cellsOf_files : Try.prog.cellsOf 22 = 1 := by kernel_rfl
theorem cellsOf_disk : Try.prog.cellsOf 24 = 2 := by kernel_rfl
section
variable {H : Type} {enc : TypeId × Value → H} {W : World}
theorem open_bytes {fuel : Nat} {cs : List Value} {x : DataW H × List MemPlace} (h : DataW.trod enc Try.prog W 0 (fun _ => true) true fuel 30 cs = some x) :
    ∃ (A : Option Addr) (c : Nat) (l : List Int), cs = [.slice A l.length c] ∧ l.length ≤ c ∧ Kd.C (Kd.int .u8) W A l.length l ∧ okB l := by
  rcases open_ints Try.underlying30 Try.underlying5 cellsOf_byteD h with ⟨hcs, _⟩ | ⟨a, len, cap, zs, hcs, _, hl, hm, hz, _, hcell, hw⟩
  · exact ⟨none, 0, [], hcs, Nat.le_refl _, Kd.C_nil _ _, fun x hx => by cases hx⟩
  · have hz' : zs.length = cap := by simpa using hz
    have hlt : (zs.take len).length = len := by rw [List.length_take]; omega
    refine ⟨some a, cap, zs.take len, by rw [hlt]; exact hcs, by omega, ⟨rfl, by rw [hlt]; unfold maxLen at hm; omega, fun _ => ⟨a, rfl, fun j p hj => ⟨[.int .u8 p], rfl, rfl, fun i u hu => ?_⟩⟩⟩, fun y hy => ?_⟩
    · have hj2 := (List.getElem?_eq_some_iff.1 hj).1
      rw [hlt] at hj2
      have hp : zs[j]? = some p := by
        rw [List.getElem?_take] at hj
        rw [if_pos hj2] at hj
        exact hj
      cases i with
      | zero =>
        have hu' : Value.int .u8 p = u := by simpa using hu
        subst hu'
        have hs : (Kd.int .u8).sz = 1 := rfl
        rw [hs, Nat.mul_one, Nat.add_zero, hcell j (by omega), List.getD_eq_getElem?_getD, hp]
        rfl
      | succ i => simp at hu
    · exact bounds_u8 (hw y (List.mem_of_mem_take hy))
theorem open_file {fuel : Nat} {cs : List Value} {x : DataW H × List MemPlace} (h : DataW.trod enc Try.prog W 0 (fun _ => true) true fuel 32 cs = some x) :
    ∃ (f : Fl) (A : Option Addr) (c : Nat), cs = [.int .i64 f.no, .slice A f.data.length c, .int .i64 f.sure] ∧ f.data.length ≤ c ∧ Kd.C kB W A f.data.length f.data ∧ okB f.data := by
  obtain ⟨xs, n, _, _, hlen, hxl, hf⟩ := DataW.trod_struct Try.underlying32 h
  rw [cellsOf_file] at hlen
  match cs, hlen with
  | [v0, v1, v2], _ =>
    have hg : ∀ (i : Nat) (hi : i < xs.length), xs[i]? = some xs[i] := fun i hi => List.getElem?_eq_getElem hi
    have hxl' : xs.length = 3 := hxl
    have h0 : DataW.trod enc Try.prog W 0 (fun _ => true) true n 3 (List.take (Try.prog.cellsOf 3) ([v0, v1, v2].drop 0)) = xs[0]? := hf 0 _ rfl
    have h1 : DataW.trod enc Try.prog W 0 (fun _ => true) true n 30 (List.take (Try.prog.cellsOf 30) ([v0, v1, v2].drop 1)) = xs[1]? := hf 1 _ rfl
    have h2 : DataW.trod enc Try.prog W 0 (fun _ => true) true n 3 (List.take (Try.prog.cellsOf 3) ([v0, v1, v2].drop 2)) = xs[2]? := hf 2 _ rfl
    rw [hg 0 (by omega)] at h0
    rw [hg 1 (by omega)] at h1
    rw [hg 2 (by omega)] at h2
    rw [cellsOf_intD] at h0 h2
    rw [cellsOf_bytesD] at h1
    obtain ⟨n0, e0, _, _⟩ := DataW.trod_int Try.underlying3 h0
    obtain ⟨A, c, l, e1, g1, g2, g3⟩ := open_bytes h1
    obtain ⟨n2, e2, _, _⟩ := DataW.trod_int Try.underlying3 h2
    simp at e0 e1 e2
    exact ⟨⟨n0, l, n2⟩, A, c, by rw [e0, e1, e2], g1, g2, g3⟩
theorem open_filesV {fuel : Nat} {cs : List Value} {x : DataW H × List MemPlace} (h : DataW.trod enc Try.prog W 0 (fun _ => true) true fuel 22 cs = some x) :
    ∃ (A : Option Addr) (c : Nat) (l : List Fl), cs = [.slice A l.length c] ∧ l.length ≤ c ∧ Kd.C kF W A l.length l ∧ ∀ f ∈ l, okB f.data := by
  rcases Go.Deep.open_slice Try.underlying22 h with ⟨hcs, _⟩ | ⟨ad, len, c, m, n, D, Q, hcs, _, hl, hm, hmm, _, hi⟩
  · exact ⟨none, 0, [], hcs, Nat.le_refl _, Kd.C_nil _ _, fun f hf => by cases hf⟩
  · have hmc : m = c := by simpa using hmm
    subst hmc
    rw [cellsOf_file] at hi
    have hp : ∀ i, i < len → ∃ q : Fl, okB q.data ∧ ∃ (A : Option Addr) (c : Nat), q.data.length ≤ c ∧ Kd.C kB W A q.data.length q.data ∧ ∀ j u, ([.int .i64 q.no, .slice A q.data.length c, .int .i64 q.sure] : List Value)[j]? = some u → W.cell? (ad.add (i * 3 + j)) = some u := fun i hil => by
      obtain ⟨cs', hc, ht⟩ := hi i (by omega)
      obtain ⟨f, A, c, rfl, g1, g2, g3⟩ := open_file ht
      obtain ⟨_, _, hcell⟩ := World.cells?_some hc
      refine ⟨f, g3, A, c, g1, g2, fun j u hu => ?_⟩
      have hj : j < 3 := by have := (List.getElem?_eq_some_iff.1 hu).1; simpa using this
      have := hcell j hj
      rw [Go.Deep.add_add] at this
      rw [this]
      exact hu
    obtain ⟨f, hff⟩ := Go.Deep.choose_lt hp
    refine ⟨some ad, m, (List.range len).map f, by simpa using hcs, by simpa using hl, ⟨rfl, by simp; unfold maxLen at hm; omega, fun _ => ⟨ad, rfl, fun j p hj => ?_⟩⟩, fun r hr => ?_⟩
    · have hjl : j < len := by have := (List.getElem?_eq_some_iff.1 hj).1; simpa using this
      obtain rfl : f j = p := by simpa [hjl] using hj
      obtain ⟨g3, A, c, g1, g2, g4⟩ := hff j hjl
      exact ⟨_, rfl, kF_mk W (f j) g1 g2, fun i u hu => g4 i u hu⟩
    · obtain ⟨i, hi', rfl⟩ := List.mem_map.1 hr
      exact (hff i (by simpa using hi')).1
theorem open_diskA {cs : Array Value} {d : DataW H} {p : List MemPlace} (h : DataW.Trod enc Try.prog W 0 (fun _ => true) true 24 (.agg cs) d p) :
    ∃ (k : Int) (A : Option Addr) (c : Nat) (l : List Fl), cs = #[.int .i64 k, .slice A l.length c] ∧ Kd.C kF W A l.length l ∧ l.length ≤ c ∧ ∀ f ∈ l, okB f.data := by
  obtain ⟨fuel, hf⟩ := h
  obtain ⟨y0, y1, n, _, hlen, h0, h1⟩ := trod_struct2 Try.underlying24 hf
  rw [cellsOf_disk] at hlen
  have hcs2 : ∃ v0 v1, cs = #[v0, v1] := by
    have h9 : cs.toList.length = 2 := by simpa [Value.cells] using hlen
    match hh : cs.toList, h9 with
    | [v0, v1], _ => exact ⟨v0, v1, by rw [← Array.toArray_toList (xs := cs), hh]⟩
  obtain ⟨v0, v1, rfl⟩ := hcs2
  have h0' : DataW.trod enc Try.prog W 0 (fun _ => true) true n 3 (([v0, v1].drop 0).take (Try.prog.cellsOf 3)) = some y0 := h0
  have h1' : DataW.trod enc Try.prog W 0 (fun _ => true) true n 22 (([v0, v1].drop 1).take (Try.prog.cellsOf 22)) = some y1 := h1
  rw [cellsOf_intD] at h0'
  rw [cellsOf_files] at h1'
  obtain ⟨n0, e0, _, _⟩ := DataW.trod_int Try.underlying3 h0'
  obtain ⟨A, c, l, e1, g1, g2, g3⟩ := open_filesV h1'
  simp at e0 e1
  exact ⟨n0, A, c, l, by rw [e0, e1], g2, g1, g3⟩
theorem open_bytesA {a : Option Addr} {len cap : Nat} {d : DataW H} {p : List MemPlace} (h : DataW.Trod enc Try.prog W 0 (fun _ => true) true 30 (.slice a len cap) d p) :
    ∃ l : List Int, len = l.length ∧ Kd.C (Kd.int .u8) W a l.length l ∧ l.length ≤ cap ∧ okB l := by
  obtain ⟨fuel, hf⟩ := h
  obtain ⟨A, c, l, e, g1, g2, g3⟩ := open_bytes hf
  simp [Value.cells] at e
  obtain ⟨rfl, rfl, rfl⟩ := e
  exact ⟨l, rfl, g2, g1, g3⟩
theorem open_intsA {a : Option Addr} {len cap : Nat} {d : DataW H} {p : List MemPlace} (h : DataW.Trod enc Try.prog W 0 (fun _ => true) true 25 (.slice a len cap) d p) :
    ∃ l : List Int, len = l.length ∧ Kd.C (Kd.int .i64) W a l.length l ∧ l.length ≤ cap := by
  obtain ⟨fuel, hf⟩ := h
  rcases open_ints Try.underlying25 Try.underlying3 cellsOf_intD hf with ⟨hcs, _⟩ | ⟨a', len', cap', zs, hcs, _, hl, hm, hz, _, hcell, hw⟩
  · simp [Value.cells] at hcs
    obtain ⟨rfl, rfl, rfl⟩ := hcs
    exact ⟨[], rfl, Kd.C_nil _ _, Nat.le_refl _⟩
  · simp [Value.cells] at hcs
    obtain ⟨rfl, rfl, rfl⟩ := hcs
    have hz' : zs.length = cap := by simpa using hz
    have hlt : (zs.take len).length = len := by rw [List.length_take]; omega
    refine ⟨zs.take len, hlt.symm, ⟨rfl, by rw [hlt]; unfold maxLen at hm; omega, fun _ => ⟨a', rfl, fun j p hj => ⟨[.int .i64 p], rfl, rfl, fun i u hu => ?_⟩⟩⟩, by omega⟩
    have hj2 := (List.getElem?_eq_some_iff.1 hj).1
    rw [hlt] at hj2
    have hp : zs[j]? = some p := by
      rw [List.getElem?_take] at hj
      rw [if_pos hj2] at hj
      exact hj
    cases i with
    | zero =>
      have hu' : Value.int .i64 p = u := by simpa using hu
      subst hu'
      have hs : (Kd.int .i64).sz = 1 := rfl
      rw [hs, Nat.mul_one, Nat.add_zero, hcell j (by omega), List.getD_eq_getElem?_getD, hp]
      rfl
    | succ i => simp at hu
end

/-! ### plain -/
theorem fewF_used : ∀ {l : List Fl}, (∀ f ∈ l, f.data.length ≤ 3000) → usedF l ≤ 3000 * l.length
  | [], _ => Nat.le_refl _
  | f :: l, h => by
    have h1 := h f (List.mem_cons_self ..)
    have h2 := fewF_used (l := l) (fun g hg => h g (List.mem_cons_of_mem _ hg))
    simp only [usedF, List.length_cons]
    omega
/-- What a crash leaves of a file. -/
def CR (f g : Fl) : Prop := g.no = f.no ∧ g.sure = g.data.length ∧ f.sure ≤ g.data.length ∧ g.data.length ≤ f.data.length ∧ (∀ k : Nat, k + 8 < g.data.length → g.data[k]? = f.data[k]?) ∧ (okB f.data → okB g.data) ∧ (∀ k : Nat, (k : Int) < f.sure → g.data[k]? = f.data[k]?)
theorem CR.refl {f : Fl} (h : f.sure = f.data.length) : CR f f := ⟨rfl, h, by omega, Nat.le_refl _, fun _ _ => rfl, fun h => h, fun _ _ => rfl⟩
theorem CR.crash {f : Fl} (p : List Int) (h0 : 0 ≤ f.sure) (h1 : f.sure ≤ f.data.length) : CR f (crashF f p) := by
  obtain ⟨no, data, sure⟩ := f
  dsimp only at h0 h1
  obtain ⟨s, rfl⟩ := Int.eq_ofNat_of_zero_le h0
  obtain ⟨m, hm⟩ : ∃ m, data.length = s + m := ⟨data.length - s, by omega⟩
  have hk : keepN p m ≤ m := Nat.min_le_right _ _
  rw [crashF_eq no data s m (keepN p m) p hm rfl]
  obtain ⟨K, hK⟩ : ∃ K, keepN p m = K := ⟨_, rfl⟩
  rw [hK] at hk ⊢
  have htl : (data.take (s + K)).length = s + K := by rw [List.length_take]; omega
  have hget : ∀ k, k < s + K → (data.take (s + K))[k]? = data[k]? := fun k hk => by rw [List.getElem?_take, if_pos hk]
  by_cases ho : p.tail.headD 0 % 2 ≠ 0
  · rw [if_pos ho, tornB_to, htl]
    have hl : (tornTo (data.take (s + K)) (max s (s + K - 8)) (s + K)).length = s + K := by rw [tornTo_len, htl]
    refine ⟨rfl, by dsimp only; omega, by dsimp only; omega, by dsimp only; omega, fun k hk2 => ?_, fun hok x hx => ?_, fun k hk2 => ?_⟩
    · dsimp only at hk2 ⊢
      rw [hl] at hk2
      rw [tornTo_get, hget k (by omega)]
      cases data[k]? with
      | none => rfl
      | some x => rw [Option.map_some, if_neg (by omega)]
    · dsimp only at hok hx ⊢
      obtain ⟨k, hk2⟩ := List.mem_iff_getElem?.1 hx
      rw [tornTo_get] at hk2
      cases hd : (data.take (s + K))[k]? with
      | none => rw [hd] at hk2; cases hk2
      | some y =>
        rw [hd] at hk2
        have hy := hok y (List.mem_of_mem_take (List.mem_of_getElem? hd))
        rw [Option.map_some] at hk2
        injection hk2 with hk2
        rw [← hk2]
        split
        · exact xorT_ok y hy
        · exact hy
    · dsimp only at hk2 ⊢
      rw [tornTo_get, hget k (by omega)]
      cases data[k]? with
      | none => rfl
      | some x => rw [Option.map_some, if_neg (by omega)]
  · rw [if_neg ho]
    refine ⟨rfl, by dsimp only; omega, by dsimp only; omega, by dsimp only; omega, fun k hk2 => ?_, fun hok x hx => hok x (List.mem_of_mem_take hx), fun k hk2 => ?_⟩
    · dsimp only at hk2 ⊢
      exact hget k (by omega)
    · dsimp only at hk2 ⊢
      exact hget k (by omega)
theorem crashL_len : ∀ (l : List Fl) (p : List Int), (crashL l p).length = l.length
  | [], _ => rfl
  | f :: l, p => by
    show (if f.sure = f.data.length then f :: crashL l p else crashF f p :: crashL l (p.drop 2)).length = _
    split
    · simp [crashL_len l]
    · simp [crashL_len l]
theorem crashL_at : ∀ (l : List Fl) (p : List Int) (q : Int), risF q l → ∀ (i : Nat) (f : Fl), l[i]? = some f → ∃ g, (crashL l p)[i]? = some g ∧ CR f g
  | [], _, _, _, i, f, h => by simp at h
  | e :: l, p, q, hr, i, f, h => by
    show ∃ g, (if e.sure = e.data.length then e :: crashL l p else crashF e p :: crashL l (p.drop 2))[i]? = some g ∧ CR f g
    split
    · rename_i hs
      cases i with
      | zero => cases h; exact ⟨e, rfl, CR.refl hs⟩
      | succ i => exact crashL_at l p e.no hr.2.2.2.2 i f (by simpa using h)
    · cases i with
      | zero => cases h; exact ⟨_, rfl, CR.crash p hr.2.2.1 hr.2.2.2.1⟩
      | succ i => exact crashL_at l (p.drop 2) e.no hr.2.2.2.2 i f (by simpa using h)
theorem crashL_sure : ∀ (l : List Fl) (p : List Int), (∀ f ∈ l, f.sure = f.data.length) → crashL l p = l
  | [], _, _ => rfl
  | f :: l, p, h => by
    show (if f.sure = f.data.length then f :: crashL l p else crashF f p :: crashL l (p.drop 2)) = _
    rw [if_pos (h f (List.mem_cons_self ..)), crashL_sure l p (fun g hg => h g (List.mem_cons_of_mem _ hg))]
theorem crashD_yes {cap : Int} {l : List Fl} (h : mayD ⟨cap, l⟩) (p : List Int) : crashD ⟨cap, l⟩ p = ⟨cap, crashL l p⟩ := by unfold crashD; rw [if_pos h]
/-- All that the law says of a crash. -/
theorem crash_law {cap : Int} {l : List Fl} (h : mayD ⟨cap, l⟩) (p : List Int) :
    (crashL l p).length = l.length ∧ (∀ q, crashD ⟨cap, crashL l p⟩ q = ⟨cap, crashL l p⟩) ∧ (∀ (i : Nat) (hi : i < l.length) (hi2 : i < (crashL l p).length), CR l[i] (crashL l p)[i]) ∧ ((∀ f ∈ l, f.sure = f.data.length) → crashL l p = l) := by
  have hat := crashL_at l p 0 h.1
  have hlen := crashL_len l p
  have hsure : ∀ g ∈ crashL l p, g.sure = g.data.length := fun g hg => by
    obtain ⟨i, hi⟩ := List.mem_iff_getElem?.1 hg
    have hil := (List.getElem?_eq_some_iff.1 hi).1
    obtain ⟨g', h1, h2⟩ := hat i _ (List.getElem?_eq_getElem (show i < l.length by omega))
    rw [hi] at h1
    cases h1
    exact h2.2.1
  refine ⟨hlen, fun q => ?_, fun i hi hi2 => ?_, crashL_sure l p⟩
  · unfold crashD
    split
    · rw [crashL_sure _ _ hsure]
    · rfl
  · obtain ⟨g, h1, h2⟩ := hat i _ (List.getElem?_eq_getElem hi)
    rw [List.getElem?_eq_getElem hi2] at h1
    injection h1 with h1
    rw [h1]
    exact h2
theorem crash_mem {l : List Fl} {p : List Int} {q : Int} (hr : risF q l) {g : Fl} (hg : g ∈ crashL l p) : ∃ f ∈ l, CR f g := by
  obtain ⟨i, hi⟩ := List.mem_iff_getElem?.1 hg
  have hil := (List.getElem?_eq_some_iff.1 hi).1
  rw [crashL_len] at hil
  obtain ⟨g', h1, h2⟩ := crashL_at l p q hr i _ (List.getElem?_eq_getElem hil)
  rw [hi] at h1
  cases h1
  exact ⟨_, List.getElem_mem hil, h2⟩
end Go.Proofs.Ytahiigcofgnncaa.H
