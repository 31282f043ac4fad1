/- Bytes cut into frames, in plain Lean. -/
import Derived.RowKit
set_option linter.unusedVariables false
namespace Go.Proofs.YtpidkpjhhabefaaDoor.FrameMath
open Go

/-- The number of the first two bytes. -/
def two (l : List UInt8) : Nat := (l.getD 0 0).toNat * 256 + (l.getD 1 0).toNat
theorem two_lt (l : List UInt8) : two l < 65536 := by
  have := (l.getD 0 0).toNat_lt
  have := (l.getD 1 0).toNat_lt
  unfold two; omega
/-- The frames, how many bytes are left, whether it breaks. -/
def cut (acc : List (UInt8 × List UInt8)) (l : List UInt8) : List (UInt8 × List UInt8) × Nat × Bool :=
  if l.length < 2 then (acc, l.length, false)
  else if two l = 0 ∨ 1200 < two l then (acc, 0, true)
  else if l.length < 2 + two l then (acc, l.length, false)
  else cut (acc ++ [(l.getD 2 0, (l.drop 3).take (two l - 1))]) (l.drop (2 + two l))
termination_by l.length
decreasing_by
  rename_i h1 h2 h3
  simp only [List.length_drop]
  omega
theorem cut_short (acc : List (UInt8 × List UInt8)) (l : List UInt8) (h : l.length < 2) : cut acc l = (acc, l.length, false) := by
  unfold cut; rw [if_pos h]
theorem cut_bad (acc : List (UInt8 × List UInt8)) (l : List UInt8) (h : ¬ l.length < 2) (h2 : two l = 0 ∨ 1200 < two l) : cut acc l = (acc, 0, true) := by
  unfold cut; rw [if_neg h, if_pos h2]
theorem cut_wait (acc : List (UInt8 × List UInt8)) (l : List UInt8) (h : ¬ l.length < 2) (h2 : ¬ (two l = 0 ∨ 1200 < two l)) (h3 : l.length < 2 + two l) : cut acc l = (acc, l.length, false) := by
  unfold cut; rw [if_neg h, if_neg h2, if_pos h3]
theorem cut_on (acc : List (UInt8 × List UInt8)) (l : List UInt8) (h : ¬ l.length < 2) (h2 : ¬ (two l = 0 ∨ 1200 < two l)) (h3 : ¬ l.length < 2 + two l) :
    cut acc l = cut (acc ++ [(l.getD 2 0, (l.drop 3).take (two l - 1))]) (l.drop (2 + two l)) := by
  conv => lhs; unfold cut
  rw [if_neg h, if_neg h2, if_neg h3]
theorem cut_len : ∀ (m : Nat) (acc : List (UInt8 × List UInt8)) (l : List UInt8), l.length ≤ m → (cut acc l).1.length ≤ acc.length + l.length
  | m, acc, l, hm => by
    by_cases h1 : l.length < 2
    · rw [cut_short acc l h1]; exact Nat.le_add_right _ _
    by_cases h2 : two l = 0 ∨ 1200 < two l
    · rw [cut_bad acc l h1 h2]; exact Nat.le_add_right _ _
    by_cases h3 : l.length < 2 + two l
    · rw [cut_wait acc l h1 h2 h3]; exact Nat.le_add_right _ _
    rw [cut_on acc l h1 h2 h3]
    match m, hm with
    | 0, hm => omega
    | m + 1, hm =>
      have := cut_len m (acc ++ [(l.getD 2 0, (l.drop 3).take (two l - 1))]) (l.drop (2 + two l)) (by rw [List.length_drop]; omega)
      rw [List.length_drop, List.length_append] at this
      simp only [List.length_cons, List.length_nil] at this
      omega
end Go.Proofs.YtpidkpjhhabefaaDoor.FrameMath
