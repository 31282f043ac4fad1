/- The sieve, in plain Lean. -/
import Derived.Test.YtifdbjombgcfcaaDoorPrimeMath
set_option linter.unusedVariables false
namespace Go.Proofs.YtifdbjombgcfcaaDoor.PrimeMath
open Go

/-- The primes up to m. -/
def pl (m : Nat) : List Nat := (List.range (m + 1)).filter isP
theorem pl_succ (m : Nat) : pl (m + 1) = if isP (m + 1) = true then pl m ++ [m + 1] else pl m := by
  unfold pl
  rw [List.range_succ, List.filter_append]
  by_cases h : isP (m + 1) = true
  · rw [if_pos h]; simp [h]
  · rw [if_neg h]; simp [h]
theorem pl_one : pl 1 = [] := by decide
theorem pl_zero : pl 0 = [] := by decide
theorem pl_length (m : Nat) : (pl m).length ≤ m := by
  induction m with
  | zero => rw [pl_zero]; simp
  | succ m ih =>
    rw [pl_succ]
    split
    · simp; exact ih
    · omega
/-- What is marked when the numbers below n are done. -/
def Mk (n k : Nat) : Prop := ∃ p, p < n ∧ isP p = true ∧ p ∣ k ∧ p * p ≤ k
theorem mk_self (n : Nat) (hn : 2 ≤ n) : Mk n n ↔ isP n = false := by
  constructor
  · rintro ⟨p, hp, hP, hd, hs⟩
    cases h : isP n with
    | false => rfl
    | true =>
      have h2 := (isP_iff n).1 h
      have hp2 := ((isP_iff p).1 hP).1
      have := (lf_spec n hn).2.2.2 p hp2 (by rw [h2.2]; exact hp)
      exact (this (Nat.mod_eq_zero_of_dvd hd)).elim
  · intro h
    have hne : lf n ≠ n := fun e => by
      have := (isP_iff n).2 ⟨hn, e⟩
      rw [h] at this; cases this
    have hs := lf_spec n hn
    refine ⟨lf n, by omega, (isP_iff _).2 ⟨hs.1, lf_lf n hn⟩, Nat.dvd_of_mod_eq_zero hs.2.2.1, lf_sq n hn hne⟩
theorem mk_succ (n k : Nat) : Mk (n + 1) k ↔ Mk n k ∨ (isP n = true ∧ n ∣ k ∧ n * n ≤ k) := by
  constructor
  · rintro ⟨p, hp, h⟩
    by_cases e : p = n
    · subst e; exact .inr h
    · exact .inl ⟨p, by omega, h⟩
  · rintro (⟨p, hp, h⟩ | h)
    · exact ⟨p, by omega, h⟩
    · exact ⟨n, by omega, h⟩
theorem mk_two (k : Nat) : ¬ Mk 2 k := by
  rintro ⟨p, hp, hP, _⟩
  have := ((isP_iff p).1 hP).1
  omega
/-- One more multiple is marked. -/
theorem mult_next (n c k : Nat) (hn : 0 < n) (hc : n ∣ c) (hl : n * n ≤ c) : (n ∣ k ∧ n * n ≤ k ∧ k < c + n) ↔ (k = c ∨ (n ∣ k ∧ n * n ≤ k ∧ k < c)) := by
  constructor
  · rintro ⟨h1, h2, h3⟩
    by_cases e : k < c
    · exact .inr ⟨h1, h2, e⟩
    · left
      have hd : n ∣ k - c := Nat.dvd_sub h1 hc
      obtain ⟨q, hq⟩ := hd
      match q, hq with
      | 0, hq => simp at hq; omega
      | q + 1, hq =>
        have : n ≤ n * (q + 1) := Nat.le_mul_of_pos_right n (by omega)
        omega
  · rintro (rfl | ⟨h1, h2, h3⟩)
    · exact ⟨hc, hl, by omega⟩
    · exact ⟨h1, h2, by omega⟩
end Go.Proofs.YtifdbjombgcfcaaDoor.PrimeMath
