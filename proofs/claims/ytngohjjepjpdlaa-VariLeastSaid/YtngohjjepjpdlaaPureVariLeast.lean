import Derived.Test.YtngohjjepjpdlaaLx4
import Derived.Test.YtngohjjepjpdlaaStr
namespace Go.Proofs.Ytngohjjepjpdlaa.Pure
open Go.RowKit Go.Proofs.Ytngohjjepjpdlaa.L Go.Proofs.Ytngohjjepjpdlaa.H Moor Go.Proofs.YtngohjjepjpdlaaW.PrintWords Go.Proofs.YtngohjjepjpdlaaW.PrintLast

theorem least_j1 (m : Int) (hm : mayN m) (k : Int) : mooringslaw01_VariLeast.j1 1 k (put m) false = some true := by
  simp only [mooringslaw01_VariLeast.j1]
  rw [if_neg (by decide)]
  by_cases a : k < 0
  · rw [if_pos a]
  · rw [if_neg a]
    by_cases b : k ≥ ((put m).length : Int)
    · rw [if_pos b]
    · rw [if_neg b, if_pos (show 0 ≤ k by omega), if_pos (show k ≤ ((put m).length : Int) by omega)]
      have ho : okB ((put m).take k.toNat) := okB_take (put_ok hm) _
      have hl : ((put m).take k.toNat).length ≤ 6 := Nat.le_trans (List.length_take_le _ _) (Nat.le_trans (by omega) (put_le m))
      simp only [vari_Get.f]
      rw [if_pos ⟨ho, by omega⟩]
      simp only [Option.bind_some]
      have hd : dec (put m) = some (m, (put m).length) := by
        have := dec_put hm []
        simpa using this
      have hn : dec ((put m).take k.toNat) = none := dec_take hd (by omega)
      have := vGet_none (l := (put m).take k.toNat) (a := 0) (by simpa using hn)
      rw [Int.natCast_zero] at this
      rw [this]
      simp

theorem VariLeast : mooringslaw01_VariLeast.Pure := by
  intro n m k w0 w1 w2
  refine ⟨2, ?_⟩
  unfold mooringslaw01_VariLeast.f
  simp only [mooringslaw01_awake.f, vari_Put.f, Option.bind_some, if_true]
  by_cases a : mayN n
  · have hp := put_pos n
    simp only [vPut_pos a]
    rw [if_neg (show ¬ ((put n).length : Int) = 0 by omega)]
    by_cases b : mayN m
    · have hq := put_pos m
      simp only [vPut_pos b]
      have hz : (((put m).length : Int) == 0) = false := beq_eq_false_iff_ne.2 (by omega)
      rw [hz]
      have hs : (((strOfNums (put n)).toList == (strOfNums (put m)).toList) != (n == m)) = false := by
        rw [str_eq (put_ok a) (put_ok b)]
        by_cases e : n = m
        · simp [e]
        · have : ¬ put n = put m := fun g => e (put_inj a b g)
          simp [e, this]
      simp only [mooringslaw01_VariLeast.j0]
      rw [if_neg (by decide), hs]
      by_cases c : n ≤ m
      · have := putF_mono 5 n m c
        have h2 : ¬ (((put n).length : Int) > ((put m).length : Int)) := by
          have h3 : (put n).length ≤ (put m).length := this
          omega
        rw [if_pos c, if_neg h2]
        exact least_j1 n a k
      · rw [if_neg c]
        exact least_j1 n a k
    · simp only [vPut_neg b]
      simp [mooringslaw01_VariLeast.j0]
  · simp only [vPut_neg a]
    simp [mooringslaw01_VariLeast.j0]

end Go.Proofs.Ytngohjjepjpdlaa.Pure
