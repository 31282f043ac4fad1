/- Bytes that are cut in parts, in plain Lean. -/
import Derived.Test.YtpidkpjhhabefaaDoorFrameMath
set_option linter.unusedVariables false
namespace Go.Proofs.YtpidkpjhhabefaaDoor.FrameMath
open Go

theorem cut_acc : ∀ (m : Nat) (acc : List (UInt8 × List UInt8)) (l : List UInt8), l.length ≤ m → cut acc l = (acc ++ (cut [] l).1, (cut [] l).2.1, (cut [] l).2.2)
  | m, acc, l, hm => by
    by_cases h1 : l.length < 2
    · rw [cut_short acc l h1, cut_short [] l h1]; simp
    by_cases h2 : two l = 0 ∨ 1200 < two l
    · rw [cut_bad acc l h1 h2, cut_bad [] l h1 h2]; simp
    by_cases h3 : l.length < 2 + two l
    · rw [cut_wait acc l h1 h2 h3, cut_wait [] l h1 h2 h3]; simp
    rw [cut_on acc l h1 h2 h3, cut_on [] l h1 h2 h3]
    match m, hm with
    | 0, hm => omega
    | m + 1, hm =>
      have hd : (l.drop (2 + two l)).length ≤ m := by rw [List.length_drop]; omega
      rw [cut_acc m (acc ++ _) _ hd, cut_acc m ([] ++ _) _ hd]
      simp
theorem cut_left : ∀ (m : Nat) (acc : List (UInt8 × List UInt8)) (l : List UInt8), l.length ≤ m → (cut acc l).2.1 ≤ l.length
  | m, acc, l, hm => by
    by_cases h1 : l.length < 2
    · rw [cut_short acc l h1]; exact Nat.le_refl _
    by_cases h2 : two l = 0 ∨ 1200 < two l
    · rw [cut_bad acc l h1 h2]; exact Nat.zero_le _
    by_cases h3 : l.length < 2 + two l
    · rw [cut_wait acc l h1 h2 h3]; exact Nat.le_refl _
    rw [cut_on acc l h1 h2 h3]
    match m, hm with
    | 0, hm => omega
    | m + 1, hm =>
      have hd : (l.drop (2 + two l)).length ≤ m := by rw [List.length_drop]; omega
      have := cut_left m (acc ++ [(l.getD 2 0, (l.drop 3).take (two l - 1))]) _ hd
      rw [List.length_drop] at this
      omega
theorem getD_left (l b : List UInt8) (k : Nat) (h : k < l.length) : (l ++ b).getD k 0 = l.getD k 0 := by
  simp [List.getD, List.getElem?_append_left h]
theorem two_append (l b : List UInt8) (h : ¬ l.length < 2) : two (l ++ b) = two l := by
  unfold two
  rw [getD_left _ _ _ (by omega), getD_left _ _ _ (by omega)]
theorem cut_append : ∀ (m : Nat) (acc : List (UInt8 × List UInt8)) (l b : List UInt8), l.length ≤ m → (cut acc l).2.2 = false →
    cut acc (l ++ b) = cut (cut acc l).1 (l.drop (l.length - (cut acc l).2.1) ++ b)
  | m, acc, l, b, hm, hb => by
    by_cases h1 : l.length < 2
    · rw [cut_short acc l h1]; simp
    by_cases h2 : two l = 0 ∨ 1200 < two l
    · rw [cut_bad acc l h1 h2] at hb; cases hb
    by_cases h3 : l.length < 2 + two l
    · rw [cut_wait acc l h1 h2 h3]; simp
    have e1 : ((l ++ b).getD 2 0, ((l ++ b).drop 3).take (two l - 1)) = (l.getD 2 0, (l.drop 3).take (two l - 1)) := by
      have h0 : two l ≠ 0 := by omega
      rw [getD_left _ _ _ (by omega), List.drop_append, List.take_append]
      simp
      left; omega
    have e2 : (l ++ b).drop (2 + two l) = l.drop (2 + two l) ++ b := by
      rw [List.drop_append]
      rw [show 2 + two l - l.length = 0 by omega, List.drop_zero]
    rw [cut_on acc l h1 h2 h3] at hb ⊢
    rw [cut_on acc (l ++ b) (by simp; omega) (by rw [two_append l b h1]; exact h2) (by rw [two_append l b h1]; simp; omega), two_append l b h1, e1, e2]
    match m, hm with
    | 0, hm => omega
    | m + 1, hm =>
      have hd : (l.drop (2 + two l)).length ≤ m := by rw [List.length_drop]; omega
      rw [cut_append m _ _ b hd hb]
      have hl := cut_left m (acc ++ [(l.getD 2 0, (l.drop 3).take (two l - 1))]) _ hd
      rw [List.drop_drop, List.length_drop]
      rw [List.length_drop] at hl
      congr 3
      omega
/-- What a stream makes of a part: all that came, cut as one. -/
theorem cut_feed (l b : List UInt8) (h : (cut [] l).2.2 = false) :
    cut [] (l ++ b) = ((cut [] l).1 ++ (cut [] (l.drop (l.length - (cut [] l).2.1) ++ b)).1, (cut [] (l.drop (l.length - (cut [] l).2.1) ++ b)).2.1, (cut [] (l.drop (l.length - (cut [] l).2.1) ++ b)).2.2) := by
  rw [cut_append _ [] l b (Nat.le_refl _) h, cut_acc _ _ _ (Nat.le_refl _)]
theorem cut_left0 (l : List UInt8) : (cut [] l).2.1 ≤ l.length := cut_left _ _ _ (Nat.le_refl _)
theorem drop_tail (a l : List UInt8) (k : Nat) (h : k ≤ l.length) : (a ++ l).drop ((a ++ l).length - k) = l.drop (l.length - k) := by
  rw [List.drop_append, List.length_append, List.drop_eq_nil_of_le (by omega), List.nil_append]
  congr 1
  omega
/-- What waits behind a part. -/
theorem wait_feed (l b : List UInt8) (h : (cut [] l).2.2 = false) :
    (l ++ b).drop ((l ++ b).length - (cut [] (l ++ b)).2.1) = (l.drop (l.length - (cut [] l).2.1) ++ b).drop ((l.drop (l.length - (cut [] l).2.1) ++ b).length - (cut [] (l.drop (l.length - (cut [] l).2.1) ++ b)).2.1) := by
  have e := cut_feed l b h
  obtain ⟨w, hw⟩ : ∃ w, l.drop (l.length - (cut [] l).2.1) = w := ⟨_, rfl⟩
  rw [hw] at e
  have e2 : (cut [] (l ++ b)).2.1 = (cut [] (w ++ b)).2.1 := by rw [e]
  have e3 : l ++ b = l.take (l.length - (cut [] l).2.1) ++ (w ++ b) := by rw [← hw, ← List.append_assoc, List.take_append_drop]
  rw [e2, hw, e3]
  exact drop_tail _ _ _ (cut_left0 _)
theorem cut_len0 (l : List UInt8) : (cut [] l).1.length ≤ l.length := by simpa using cut_len _ [] l (Nat.le_refl _)
end Go.Proofs.YtpidkpjhhabefaaDoor.FrameMath
