/- The places of a stride, in plain Lean. -/
import Derived.RowKit
set_option linter.unusedVariables false
namespace Go.Proofs.YtifdbjombgcfcaaDoor.StMath
open Go

/-- The i-th place. -/
def pos (n o k i : Nat) : Nat := (o + i * k) % n
theorem pos_lt (n o k i : Nat) (h : 0 < n) : pos n o k i < n := Nat.mod_lt _ h
theorem pos_zero (n o k : Nat) (h : o < n) : pos n o k 0 = o := by unfold pos; rw [Nat.zero_mul, Nat.add_zero]; exact Nat.mod_eq_of_lt h
theorem pos_succ (n o k i : Nat) : pos n o k (i + 1) = (pos n o k i + k) % n := by
  unfold pos; rw [Nat.mod_add_mod, Nat.add_mul, Nat.one_mul, Nat.add_assoc]
theorem pos_mod (n o k i : Nat) : pos n o k (i % n) = pos n o k i := by
  unfold pos
  rw [Nat.add_mod, Nat.mul_mod, Nat.mod_mod, ← Nat.mul_mod, ← Nat.add_mod]
/-- When a place comes. -/
def whn (n o y p : Nat) : Nat := (p + n - o) * y % n
theorem whn_lt (n o y p : Nat) (h : 0 < n) : whn n o y p < n := Nat.mod_lt _ h
theorem pos_whn (n o k y p : Nat) (hn : 0 < n) (ho : o < n) (hp : p < n) (hy : y * k % n = 1) : pos n o k (whn n o y p) = p := by
  unfold pos whn
  have e1 : ((p + n - o) * y % n * k) % n = (p + n - o) % n := by
    rw [Nat.mul_mod, Nat.mod_mod, ← Nat.mul_mod, Nat.mul_assoc, Nat.mul_mod, hy, Nat.mul_one, Nat.mod_mod]
  rw [Nat.add_mod, e1, ← Nat.add_mod, show o + (p + n - o) = p + n by omega, Nat.add_mod_right]
  exact Nat.mod_eq_of_lt hp
theorem whn_pos (n o k y i : Nat) (hn : 0 < n) (ho : o < n) (hi : i < n) (hy : y * k % n = 1) : whn n o y (pos n o k i) = i := by
  unfold pos whn
  have e1 : ((o + i * k) % n + n - o) % n = i * k % n := by
    rw [show (o + i * k) % n + n - o = (o + i * k) % n + (n - o) by omega, Nat.mod_add_mod, show o + i * k + (n - o) = i * k + n by omega, Nat.add_mod_right]
  rw [Nat.mul_mod, e1, ← Nat.mul_mod, Nat.mul_assoc, Nat.mul_comm k y, Nat.mul_mod, hy, Nat.mul_one, Nat.mod_mod]
  exact Nat.mod_eq_of_lt hi
/-- The first m places. -/
def ps (n o k m : Nat) : List Int := (List.range m).map fun i => ((pos n o k i : Nat) : Int)
theorem ps_length (n o k m : Nat) : (ps n o k m).length = m := by simp [ps]
theorem ps_succ (n o k m : Nat) : ps n o k (m + 1) = ps n o k m ++ [((pos n o k m : Nat) : Int)] := by simp [ps, List.range_succ]
theorem ps_getD (n o k m i : Nat) (h : i < m) : (ps n o k m).getD i 0 = ((pos n o k i : Nat) : Int) := by
  simp [ps, List.getD, List.getElem?_map, List.getElem?_range h]
end Go.Proofs.YtifdbjombgcfcaaDoor.StMath
