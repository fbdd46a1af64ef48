import Derived.Lib.Bytes
import Derived.OpenShut
import Derived.Test.YtahiigcofgnncaaMoorVari
/-! Strings made of bytes: they are the same where the bytes are. -/
namespace Go.Proofs.Ytahiigcofgnncaa.H
open Go.RowKit Moor Go.Lib

theorem bytesOf_inj : ∀ (xs ys : List Int), okB xs → okB ys → xs.map (fun n => UInt8.ofNat n.toNat) = ys.map (fun n => UInt8.ofNat n.toNat) → xs = ys
  | [], [], _, _, _ => rfl
  | [], _ :: _, _, _, h => by simp at h
  | _ :: _, [], _, _, h => by simp at h
  | x :: xs, y :: ys, hx, hy, h => by
    simp only [List.map_cons, List.cons.injEq] at h
    have h1 := hx x (by simp)
    have h2 := hy y (by simp)
    have e : x = y := by
      have := congrArg UInt8.toNat h.1
      simp only [UInt8.toNat_ofNat'] at this
      omega
    rw [e, bytesOf_inj xs ys (fun z hz => hx z (by simp [hz])) (fun z hz => hy z (by simp [hz])) h.2]
theorem str_list (xs : List Int) : (strOfNums xs).toList = xs.map (fun n => UInt8.ofNat n.toNat) := by
  rw [strOfNums_toList]
  rfl
theorem str_eq {xs ys : List Int} (hx : okB xs) (hy : okB ys) : ((strOfNums xs).toList == (strOfNums ys).toList) = decide (xs = ys) := by
  rw [str_list, str_list]
  by_cases h : xs = ys
  · subst h
    simp
  · rw [decide_eq_false h, beq_eq_false_iff_ne]
    exact fun e => h (bytesOf_inj xs ys hx hy e)
theorem str_append (xs ys : List Int) : strOfNums xs ++ strOfNums ys = strOfNums (xs ++ ys) := by
  apply ByteArray.ext
  simp [strOfNums, ByteArray.data_append]
theorem str_size (xs : List Int) : (strOfNums xs).size = xs.length := by simp [strOfNums, ByteArray.size]
theorem okB_wf {l : List Int} (h : ∀ x ∈ l, (Lit.int .u8 x).wf = true) : okB l := fun x hx => bounds_u8 (h x hx)

end Go.Proofs.Ytahiigcofgnncaa.H
