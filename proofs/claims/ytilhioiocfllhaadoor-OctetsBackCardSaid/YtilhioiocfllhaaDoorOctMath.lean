/- A number's bytes, in plain Lean. -/
import Derived.RowKit
set_option linter.unusedVariables false
namespace Go.Proofs.YtilhioiocfllhaaDoor.OctMath
open Go

/-- m bytes of a number, the greatest first. -/
def be (n m : Nat) : List UInt8 := (List.range m).map fun j => UInt8.ofNat (n / 256 ^ (m - 1 - j))
theorem be_length (n m : Nat) : (be n m).length = m := by simp [be]
theorem be_getD (n m k : Nat) (h : k < m) : (be n m).getD k 0 = UInt8.ofNat (n / 256 ^ (m - 1 - k)) := by
  simp [be, List.getD, List.getElem?_map, List.getElem?_range h]
theorem be_take (n m k : Nat) (h : k < m) : (be n m).take (k + 1) = (be n m).take k ++ [UInt8.ofNat (n / 256 ^ (m - 1 - k))] := by
  have hl : k < (be n m).length := by rw [be_length]; exact h
  rw [List.take_succ_eq_append_getElem hl]
  congr 2
  have := be_getD n m k h
  rwa [List.getD, List.getElem?_eq_getElem hl] at this
theorem pow_256 (k : Nat) : 2 ^ (8 * k) = 256 ^ k := by rw [Nat.pow_mul]
/-- From the least byte on. -/
def tl (n m k : Nat) : List UInt8 := List.replicate k 0 ++ (be n m).drop k
theorem tl_top (n m : Nat) : tl n m m = List.replicate m 0 := by
  unfold tl; rw [List.drop_of_length_le (by rw [be_length]; exact Nat.le_refl _), List.append_nil]
theorem tl_zero (n m : Nat) : tl n m 0 = be n m := rfl
theorem tl_length (n m k : Nat) (h : k ≤ m) : (tl n m k).length = m := by
  unfold tl; rw [List.length_append, List.length_replicate, List.length_drop, be_length]; omega
theorem tl_set (n m k : Nat) (h : k < m) : (tl n m (k + 1)).set k (UInt8.ofNat (n / 256 ^ (m - 1 - k))) = tl n m k := by
  unfold tl
  have hl : k < (be n m).length := by rw [be_length]; exact h
  have e : (be n m)[k] = UInt8.ofNat (n / 256 ^ (m - 1 - k)) := by
    have := be_getD n m k h
    rwa [List.getD, List.getElem?_eq_getElem hl] at this
  rw [List.drop_eq_getElem_cons hl, e, List.replicate_succ', List.append_assoc, List.set_append_right _ _ (by simp)]
  simp
theorem ofNat_mod (x : Nat) : UInt8.ofNat (x % 256) = UInt8.ofNat x := by
  apply UInt8.toNat_inj.1
  rw [UInt8.toNat_ofNat', UInt8.toNat_ofNat']
  omega
end Go.Proofs.YtilhioiocfllhaaDoor.OctMath
