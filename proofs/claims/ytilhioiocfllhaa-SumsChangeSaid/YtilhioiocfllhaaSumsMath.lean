/- Plain facts on sums of bytes, folded sums and checksums. No program in sight. -/
import Derived.RowKit
namespace Go.Proofs.Ytilhioiocfllhaa.SumsMath
open Go Go.RowKit

/-- The number of the first two bytes. -/
def pairV : List UInt8 → Int
  | [] => 0
  | [x] => (x.toNat : Int) * 256
  | x :: y :: _ => (x.toNat : Int) * 256 + (y.toNat : Int)
theorem pairV_bd (l : List UInt8) : 0 ≤ pairV l ∧ pairV l ≤ 65535 := by
  match l with
  | [] => exact ⟨by simp [pairV], by simp [pairV]⟩
  | [x] => have := x.toNat_lt; simp only [pairV]; omega
  | x :: y :: _ => have := x.toNat_lt; have := y.toNat_lt; simp only [pairV]; omega
/-- The first k pairs' sum. -/
def sumTo (l : List UInt8) : Nat → Int
  | 0 => 0
  | k + 1 => sumTo l k + pairV (l.drop (2 * k))
theorem sumTo_bd (l : List UInt8) : ∀ k : Nat, 0 ≤ sumTo l k ∧ sumTo l k ≤ 65535 * (k : Int)
  | 0 => ⟨Int.le_refl _, Int.le_refl _⟩
  | k + 1 => by
    have h := sumTo_bd l k
    have h2 := pairV_bd (l.drop (2 * k))
    simp only [sumTo]
    omega
/-- All pairs' sum. -/
def tot (l : List UInt8) : Int := sumTo l ((l.length + 1) / 2)
theorem tot_bd (l : List UInt8) : 0 ≤ tot l ∧ tot l ≤ 65535 * (l.length : Int) := by
  have h := sumTo_bd l ((l.length + 1) / 2)
  unfold tot
  omega
/-- The reference's way: byte by byte. -/
def refTo (l : List UInt8) : Nat → Int
  | 0 => 0
  | i + 1 => refTo l i + (if i % 2 = 0 then ((l.getD i 0).toNat : Int) * 256 else ((l.getD i 0).toNat : Int))
theorem refTo_bd (l : List UInt8) : ∀ k : Nat, 0 ≤ refTo l k ∧ refTo l k ≤ 65280 * (k : Int)
  | 0 => ⟨Int.le_refl _, Int.le_refl _⟩
  | k + 1 => by
    have h := refTo_bd l k
    have h2 := (l.getD k 0).toNat_lt
    simp only [refTo]
    split <;> omega
theorem pairV_drop (l : List UInt8) (k : Nat) : pairV (l.drop k) = if k < l.length then ((l.getD k 0).toNat : Int) * 256 + (if k + 1 < l.length then ((l.getD (k + 1) 0).toNat : Int) else 0) else 0 := by
  by_cases h : k < l.length
  · rw [if_pos h, List.drop_eq_getElem_cons h]
    by_cases h2 : k + 1 < l.length
    · rw [if_pos h2, List.drop_eq_getElem_cons h2]
      simp [pairV, List.getD, List.getElem?_eq_getElem h, List.getElem?_eq_getElem h2]
    · rw [if_neg h2, List.drop_eq_nil_of_le (by omega)]
      simp [pairV, List.getD, List.getElem?_eq_getElem h]
  · rw [if_neg h, List.drop_eq_nil_of_le (by omega)]; rfl
theorem getD_past (l : List UInt8) (k : Nat) (h : l.length ≤ k) : l.getD k 0 = 0 := by simp [List.getD, List.getElem?_eq_none h]
theorem refTo_pairs (l : List UInt8) : ∀ k, refTo l (2 * k) = sumTo l k
  | 0 => rfl
  | k + 1 => by
    have ih := refTo_pairs l k
    have e : refTo l (2 * (k + 1)) = refTo l (2 * k + 1) + (if (2 * k + 1) % 2 = 0 then ((l.getD (2 * k + 1) 0).toNat : Int) * 256 else ((l.getD (2 * k + 1) 0).toNat : Int)) := rfl
    have e2 : refTo l (2 * k + 1) = refTo l (2 * k) + (if (2 * k) % 2 = 0 then ((l.getD (2 * k) 0).toNat : Int) * 256 else ((l.getD (2 * k) 0).toNat : Int)) := rfl
    have e3 : sumTo l (k + 1) = sumTo l k + pairV (l.drop (2 * k)) := rfl
    have z1 : (2 * k) % 2 = 0 := by omega
    have z2 : ¬ (2 * k + 1) % 2 = 0 := by omega
    rw [e, e2, e3, ih, if_pos z1, if_neg z2, pairV_drop]
    by_cases h : 2 * k < l.length
    · by_cases h2 : 2 * k + 1 < l.length
      · rw [if_pos h, if_pos h2]; omega
      · rw [if_pos h, if_neg h2, getD_past l (2 * k + 1) (by omega)]; simp
    · rw [if_neg h, getD_past l (2 * k) (by omega), getD_past l (2 * k + 1) (by omega)]; simp
theorem refTo_all (l : List UInt8) : refTo l l.length = tot l := by
  unfold tot
  rw [← refTo_pairs]
  by_cases h : l.length % 2 = 0
  · rw [show 2 * ((l.length + 1) / 2) = l.length by omega]
  · have e : refTo l (l.length + 1) = refTo l l.length + (if l.length % 2 = 0 then ((l.getD l.length 0).toNat : Int) * 256 else ((l.getD l.length 0).toNat : Int)) := rfl
    rw [show 2 * ((l.length + 1) / 2) = l.length + 1 by omega, e, getD_past l _ (Nat.le_refl _), if_neg h]; simp

/-! ### The folded sum -/
/-- 0 of 0 and below, else from 1 to 65535, alike modulo 65535. -/
def fold (n : Int) : Int := if n ≤ 0 then 0 else (n - 1) % 65535 + 1
theorem fold_bd (n : Int) : 0 ≤ fold n ∧ fold n ≤ 65535 := by unfold fold; split <;> omega
theorem fold_small (n : Int) (h0 : 0 ≤ n) (h1 : n ≤ 65535) : fold n = n := by
  unfold fold
  split
  · omega
  · rw [Int.emod_eq_of_lt (by omega) (by omega)]; omega
theorem fold_step (n : Int) (h : 65535 < n) : fold (n / 65536 + n % 65536) = fold n := by
  unfold fold
  have h1 : ¬ n ≤ 0 := by omega
  have h2 : ¬ n / 65536 + n % 65536 ≤ 0 := by omega
  rw [if_neg h1, if_neg h2]
  have e : n - 1 = (n / 65536 + n % 65536 - 1) + 65535 * (n / 65536) := by omega
  rw [e, Int.add_mul_emod_self_left]
theorem fold_less (n : Int) (h : 65535 < n) : n / 65536 + n % 65536 < n := by omega
theorem fold_max (n : Int) : fold (max n 0) = fold n := by
  unfold fold
  split <;> split <;> omega
end Go.Proofs.Ytilhioiocfllhaa.SumsMath
