/- The walk of the law PrimeInverses. -/
import Derived.Test.YtifdbjombgcfcaaDoorPrimeRef
import Derived.Test.YtifdbjombgcfcaaDoorLaid
namespace Go.Proofs.YtifdbjombgcfcaaDoor.primeInverses
open Go.RowKit PrimeMath
set_option linter.unusedVariables false

set_option maxRecDepth 100000 in
theorem sents {w : World} (hL : laidMetH Tryd.prog Rows.primeInversesRow.laid w) : ∃ adr, Sents w adr := by
  refine sents_of_laid hL (by kernel_rfl) (fun k => [0, 1, 2, 3, 4, 5, 6, 7, 8, 9, 10, 11, 12, 13, 14, 15, 16, 17].getD k 0) ?_ ?_
  · intro i j hi hj h
    have : ∀ i : Fin 18, ∀ j : Fin 18, [0, 1, 2, 3, 4, 5, 6, 7, 8, 9, 10, 11, 12, 13, 14, 15, 16, 17].getD i.1 0 = [0, 1, 2, 3, 4, 5, 6, 7, 8, 9, 10, 11, 12, 13, 14, 15, 16, 17].getD j.1 0 → i.1 = j.1 := by decide
    exact this ⟨i, hi⟩ ⟨j, hj⟩ h
  · intro k hk
    match k, hk with
    | 0, _ => exact ⟨_, _, 0, rfl, by kernel_rfl, by kernel_rfl, rfl⟩
    | 1, _ => exact ⟨_, _, 1, rfl, by kernel_rfl, by kernel_rfl, rfl⟩
    | 2, _ => exact ⟨_, _, 2, rfl, by kernel_rfl, by kernel_rfl, rfl⟩
    | 3, _ => exact ⟨_, _, 3, rfl, by kernel_rfl, by kernel_rfl, rfl⟩
    | 4, _ => exact ⟨_, _, 4, rfl, by kernel_rfl, by kernel_rfl, rfl⟩
    | 5, _ => exact ⟨_, _, 5, rfl, by kernel_rfl, by kernel_rfl, rfl⟩
    | 6, _ => exact ⟨_, _, 6, rfl, by kernel_rfl, by kernel_rfl, rfl⟩
    | 7, _ => exact ⟨_, _, 7, rfl, by kernel_rfl, by kernel_rfl, rfl⟩
    | 8, _ => exact ⟨_, _, 8, rfl, by kernel_rfl, by kernel_rfl, rfl⟩
    | 9, _ => exact ⟨_, _, 9, rfl, by kernel_rfl, by kernel_rfl, rfl⟩
    | 10, _ => exact ⟨_, _, 10, rfl, by kernel_rfl, by kernel_rfl, rfl⟩
    | 11, _ => exact ⟨_, _, 11, rfl, by kernel_rfl, by kernel_rfl, rfl⟩
    | 12, _ => exact ⟨_, _, 12, rfl, by kernel_rfl, by kernel_rfl, rfl⟩
    | 13, _ => exact ⟨_, _, 13, rfl, by kernel_rfl, by kernel_rfl, rfl⟩
    | 14, _ => exact ⟨_, _, 14, rfl, by kernel_rfl, by kernel_rfl, rfl⟩
    | 15, _ => exact ⟨_, _, 15, rfl, by kernel_rfl, by kernel_rfl, rfl⟩
    | 16, _ => exact ⟨_, _, 16, rfl, by kernel_rfl, by kernel_rfl, rfl⟩
    | 17, _ => exact ⟨_, _, 17, rfl, by kernel_rfl, by kernel_rfl, rfl⟩
    | n + 18, h => exact absurd h (by omega)

set_option maxHeartbeats 1000000 in
theorem inv_bad (adr : Nat → Addr) (a p : Int) (h : pI p = false) (w : World) (H : Sents w adr) :
    Calls Tryd.prog 20 #[.int .i64 a, .int .i64 p] w fun e w' => e = .returned (.tuple #[.int .i64 0, errV adr 0]) ∧ ∃ k, w' = w.drewN k := by
  have c0 := H.cell 0 _ rfl
  clear H
  unfold errV
  go_enter Tryd.func20, Tryd.ntmps20
  go_wp2_with (go_at_call 15; refine (is_any _ _).mono ?_; rintro e w' ⟨rfl, rfl⟩; rw [h])
  go_quiet (fail)
  go_wp2_with fail
  go_ret2
  exact ⟨rfl, _, rfl⟩
set_option maxHeartbeats 1000000 in
theorem inv_zero (adr : Nat → Addr) (a : Int) (p : Nat) (h : pI (p : Int) = true) (h1 : 1 ≤ p) (h2 : p ≤ 2147483648) (h0 : rb a p = 0) (w : World) (H : Sents w adr) :
    Calls Tryd.prog 20 #[.int .i64 a, .int .i64 (p : Int)] w fun e w' => e = .returned (.tuple #[.int .i64 0, errV adr 10]) ∧ ∃ k, w' = w.drewN k := by
  have c0 := H.cell 10 _ rfl
  clear H
  have H1 := Lib.hid h1
  have H2 := Lib.hid h2
  clear h1 h2
  unfold errV
  go_enter Tryd.func20, Tryd.ntmps20
  go_wp2_with (first | (go_at_call 15; refine (is_any _ _).mono ?_; rintro e w' ⟨rfl, rfl⟩; rw [h]) | (go_at_call 36; refine (rest_any a p H1.out H2.out _).mono ?_; rintro e w' ⟨rfl, rfl⟩; rw [h0]))
  go_quiet (fail)
  go_wp2_with fail
  go_ret2
  exact ⟨rfl, _, rfl⟩
set_option maxRecDepth 100000 in
set_option maxHeartbeats 1000000 in
theorem inv_ok (a : Int) (p q y : Nat) (hq : p - 2 = q) (hy : pw (rb a p) q p = y) (h : pI (p : Int) = true) (h1 : 2 ≤ p) (h2 : p ≤ 2147483648) (h0 : rb a p ≠ 0) (w : World) :
    Calls Tryd.prog 20 #[.int .i64 a, .int .i64 (p : Int)] w fun e w' => e = .returned (.tuple #[.int .i64 (y : Int), .nilIface]) ∧ w = w' := by
  have H1 : Hid (1 ≤ p) := Lib.hid (by omega)
  have H2 := Lib.hid h2
  have t1 : (2 : Int) ≤ (p : Int) := by omega
  have t2 : (p : Int) ≤ 2147483648 := by omega
  have hp3 : (p : Int) - 2 = (q : Int) := by omega
  have HQ : Hid (q < 9223372036854775808) := Lib.hid (by omega)
  obtain ⟨r, hr⟩ : ∃ r, rb a p = r := ⟨_, rfl⟩
  have hr0 : ((r : Int) == 0) = false := by rw [beq_eq_false_iff_ne]; omega
  have HRR : Hid (∀ w, Calls Tryd.prog 36 #[.int .i64 a, .int .i64 (p : Int)] w fun e w' => e = .returned (.int .i64 (r : Int)) ∧ w = w') := Lib.hid fun w => by have := rest_any a p (by omega) h2 w; rwa [hr] at this
  have HPW : Hid (∀ w, Calls Tryd.prog 11 #[.int .i64 a, .int .i64 (q : Int), .int .i64 (p : Int)] w fun e w' => e = .returned (.int .i64 ((pw (rb a p) q p : Nat) : Int)) ∧ w = w') := Lib.hid fun w => power_any a q p (by omega) h2 HQ w
  rw [hy] at HPW
  clear h1 h2 h0 hr hq hy
  go_enter Tryd.func20, Tryd.ntmps20
  go_wp2_with (first | (go_at_call 15; refine (is_any _ _).mono ?_; rintro e w' ⟨rfl, rfl⟩; rw [h]) | (go_at_call 36; refine (HRR.out _).mono ?_; rintro e w' ⟨rfl, rfl⟩) | (go_at_call 11; refine (HPW.out _).mono ?_; rintro e w' ⟨rfl, rfl⟩))
  go_ret2
  exact ⟨rfl, rfl⟩

set_option maxRecDepth 100000 in
set_option maxHeartbeats 4000000 in
theorem walk (a0 : Int) (a1 : Int) (w : World) (w0 : (Lit.int .i64 a0).wf = true) (w1 : (Lit.int .i64 a1).wf = true) (hL : laidMetH Tryd.prog Rows.primeInversesRow.laid w) :
    Calls Tryd.prog 6 #[.int .i64 a0, .int .i64 a1] w fun e w' => e = .returned (.bool true) ∧ Below w.heap.size w w' := by
  obtain ⟨adr, H⟩ := sents hL
  have HS := Lib.hid H
  clear H hL w0 w1
  cases hP : pI a1 with
  | false =>
    have HI := Lib.hid fun w H => inv_bad adr a0 a1 hP w H
    have HN : Hid (∀ w, Sents w adr → Calls Tryd.prog 19 #[errV adr 0] w fun e w' => e = .returned (.int .i64 1) ∧ Below w.heap.size w w') := Lib.hid fun w H => num_sent adr 0 (by decide) w H
    go_enter Tryd.func6, Tryd.ntmps6
    go_wp2_with (first | (go_at_call 10; refine (alive08_any _).mono ?_; rintro e w' ⟨rfl, rfl⟩) | (go_at_call 20; refine (HI.out _ HS.out).mono ?_; rintro e w' ⟨rfl, k, rfl⟩) | (go_at_call 14; refine (refis_any _ _).mono ?_; rintro e w' ⟨rfl, rfl⟩; rw [hP]) | (go_at_call 19; refine (HN.out _ (HS.out.drewN k)).mono ?_; rintro e w2 ⟨rfl, hb2⟩))
    go_ret
    exact ⟨rfl, (drewN_below _ _ _).trans (hb2.mono (Nat.le_refl _))⟩
  | true =>
    have hp2 : 2 ≤ a1 := by
      rcases Int.lt_or_le a1 2 with h | h
      · rw [pI_low a1 h] at hP; cases hP
      · exact h
    have hp3 : a1 ≤ 2147483648 := by
      rcases Int.lt_or_le 2147483648 a1 with h | h
      · rw [pI_high a1 h] at hP; cases hP
      · exact h
    obtain ⟨p, rfl⟩ := Int.eq_ofNat_of_zero_le (show 0 ≤ a1 by omega)
    have h1 : 2 ≤ p := by omega
    have h2 : p ≤ 2147483648 := by omega
    have hprime : isP p = true := by rw [← pI_nat p h2]; exact hP
    obtain ⟨r, hr⟩ : ∃ r, rb a0 p = r := ⟨_, rfl⟩
    have hrl : r < p := by rw [← hr]; exact rb_lt a0 p (by omega)
    have hpw : pw (rb a0 p) p p = r := by
      rw [hr]; unfold pw
      rw [fermat p hprime, Nat.mod_eq_of_lt hrl]
    have HPW : Hid (∀ w, Calls Tryd.prog 11 #[.int .i64 a0, .int .i64 (p : Int), .int .i64 (p : Int)] w fun e w' => e = .returned (.int .i64 (r : Int)) ∧ w = w') := Lib.hid fun w => by
      have := power_any a0 p p (by omega) h2 (Lib.hid (by omega)) w
      rwa [hpw] at this
    have HRR : Hid (∀ w, Calls Tryd.prog 21 #[.int .i64 a0, .int .i64 (p : Int)] w fun e w' => e = .returned (.int .i64 (r : Int)) ∧ w = w') := Lib.hid fun w => by
      have := refrest_any a0 p (by omega) h2 w
      rwa [hr] at this
    by_cases h0 : r = 0
    · have HI := Lib.hid fun w H => inv_zero adr a0 p hP (by omega) h2 (hr.trans h0) w H
      have HN : Hid (∀ w, Sents w adr → Calls Tryd.prog 19 #[errV adr 10] w fun e w' => e = .returned (.int .i64 11) ∧ Below w.heap.size w w') := Lib.hid fun w H => num_sent adr 10 (by decide) w H
      clear hprime hrl hpw hr
      subst h0
      go_enter Tryd.func6, Tryd.ntmps6
      go_wp2_with (first | (go_at_call 10; refine (alive08_any _).mono ?_; rintro e w' ⟨rfl, rfl⟩) | (go_at_call 20; refine (HI.out _ HS.out).mono ?_; rintro e w' ⟨rfl, k, rfl⟩) | (go_at_call 14; refine (refis_any _ _).mono ?_; rintro e w' ⟨rfl, rfl⟩; rw [hP]) | (go_at_call 21; refine (HRR.out _).mono ?_; rintro e w' ⟨rfl, rfl⟩) | (go_at_call 11; refine (HPW.out _).mono ?_; rintro e w' ⟨rfl, rfl⟩) | (go_at_call 19; refine (HN.out _ (HS.out.drewN k)).mono ?_; rintro e w2 ⟨rfl, hb2⟩))
      go_ret
      exact ⟨rfl, (drewN_below _ _ _).trans (hb2.mono (Nat.le_refl _))⟩
    · obtain ⟨q, hq⟩ : ∃ q, p - 2 = q := ⟨_, rfl⟩
      obtain ⟨y, hy⟩ : ∃ y, pw (rb a0 p) q p = y := ⟨_, rfl⟩
      have HI := Lib.hid fun w => inv_ok a0 p q y hq hy hP h1 h2 (by rw [hr]; exact h0) w
      have hinv : y * r % p = 1 := by
        have := inverse_one p r hprime (by rw [Nat.mod_eq_of_lt hrl]; exact h0)
        rw [hq, Nat.mod_eq_of_lt hrl] at this
        rw [← hy, hr]; exact this
      have hyl : y < p := by rw [← hy]; exact pw_lt _ _ _ (by omega)
      have hy1 : 1 ≤ y := by
        rcases Nat.eq_zero_or_pos y with h | h
        · rw [h, Nat.zero_mul, Nat.zero_mod] at hinv; cases hinv
        · exact h
      have e1 : ((r : Int) == 0) = false := by rw [beq_eq_false_iff_ne]; omega
      have e2 : (1 : Int) ≤ (y : Int) := by omega
      have e3 : (y : Int) < (p : Int) := by omega
      have e4 : (y : Int) * (r : Int) % (p : Int) = 1 := by rw [← mul_mod_cast, hinv]; rfl
      have e5 : 0 ≤ (y : Int) * (r : Int) := mul_nonneg y r
      have e6 : (y : Int) * (r : Int) ≤ 4611686018427387904 := by
        rw [← Int.natCast_mul]
        have : y * r ≤ 2147483648 * 2147483648 := Nat.mul_le_mul (by omega) (by omega)
        omega
      clear hprime hrl hpw hr h0 hinv hyl hy1 hy hq h1 h2
      go_enter Tryd.func6, Tryd.ntmps6
      go_wp2_with (first | (go_at_call 10; refine (alive08_any _).mono ?_; rintro e w' ⟨rfl, rfl⟩) | (go_at_call 20; refine (HI.out _).mono ?_; rintro e w' ⟨rfl, rfl⟩) | (go_at_call 14; refine (refis_any _ _).mono ?_; rintro e w' ⟨rfl, rfl⟩; rw [hP]) | (go_at_call 21; refine (HRR.out _).mono ?_; rintro e w' ⟨rfl, rfl⟩) | (go_at_call 11; refine (HPW.out _).mono ?_; rintro e w' ⟨rfl, rfl⟩))
      go_ret
      exact ⟨rfl, Below.refl _ _⟩
end Go.Proofs.YtifdbjombgcfcaaDoor.primeInverses
