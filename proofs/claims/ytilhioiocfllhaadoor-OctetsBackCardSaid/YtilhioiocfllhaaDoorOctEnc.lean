/- What OctetsBack encodes, in plain Lean. -/
import Derived.Test.YtilhioiocfllhaaDoorOctMath
set_option linter.unusedVariables false
namespace Go.Proofs.YtilhioiocfllhaaDoor.OctMath
open Go

def encN (a : Nat → Nat) : Nat → List UInt8
  | 0 => []
  | k + 1 => encN a k ++ be (a k) (1 + k % 8)
theorem encN_le (a : Nat → Nat) : ∀ k, (encN a k).length ≤ 8 * k
  | 0 => Nat.le_refl _
  | k + 1 => by
    have := encN_le a k
    simp only [encN, List.length_append, be_length]
    omega
theorem encN_split (a : Nat → Nat) (k : Nat) : ∀ n, k < n → ∃ r, encN a n = encN a k ++ (be (a k) (1 + k % 8) ++ r)
  | 0, h => absurd h (by omega)
  | n + 1, h => by
    by_cases e : k = n
    · subst e; exact ⟨[], by simp [encN]⟩
    · obtain ⟨r, hr⟩ := encN_split a k n (by omega)
      exact ⟨r ++ be (a n) (1 + n % 8), by simp [encN, hr]⟩
def encT (t : Nat → List UInt8) : Nat → List UInt8
  | 0 => []
  | k + 1 => encT t k ++ t k
theorem encT_le (t : Nat → List UInt8) : ∀ k, (∀ j, j < k → (t j).length ≤ 256) → (encT t k).length ≤ 256 * k
  | 0, _ => Nat.le_refl _
  | k + 1, h => by
    have := encT_le t k fun j hj => h j (by omega)
    have := h k (by omega)
    simp only [encT, List.length_append]
    omega
theorem encT_split (t : Nat → List UInt8) (k : Nat) : ∀ n, k < n → ∃ r, encT t n = encT t k ++ (t k ++ r)
  | 0, h => absurd h (by omega)
  | n + 1, h => by
    by_cases e : k = n
    · subst e; exact ⟨[], by simp [encT]⟩
    · obtain ⟨r, hr⟩ := encT_split t k n (by omega)
      exact ⟨r ++ t n, by simp [encT, hr]⟩
/-- A part of a row. -/
theorem part {α : Type} {E pre l r : List α} {p m : Nat} (h : E = pre ++ (l ++ r)) (hp : pre.length = p) (hl : l.length = m) : (E.drop p).take m = l ∧ p + m ≤ E.length := by
  subst h; subst hp; subst hl
  exact ⟨by simp, by simp⟩
end Go.Proofs.YtilhioiocfllhaaDoor.OctMath
