/- The walks of sums.Change, sums.Same and of the reference's. -/
import Derived.Test.YtilhioiocfllhaaSumsFold
namespace Go.Proofs.Ytilhioiocfllhaa
open Go.RowKit SumsMath
set_option linter.unusedVariables false

theorem and_any (n : Int) : bits .and .i64 n 65535 = low n := by
  have e1 : (BitVec.ofInt 64 n &&& BitVec.ofInt 64 65535).toNat = (n % 18446744073709551616).toNat % 65536 := by
    rw [BitVec.toNat_and]
    have h1 : (BitVec.ofInt 64 65535).toNat = 2 ^ 16 - 1 := by decide
    rw [h1, Nat.and_two_pow_sub_one_eq_mod, BitVec.toNat_ofInt]
    rfl
  show IntKind.i64.wrap (((BitVec.ofInt 64 n &&& BitVec.ofInt 64 65535).toNat : Nat) : Int) = low n
  rw [e1, IntKind.wrap_i64]
  unfold low
  omega
theorem low_u64 (n : Int) : 0 ≤ IntKind.u64.wrap n ∧ IntKind.u64.wrap n % 65536 = low n := by
  have e : IntKind.u64.wrap n = n % 18446744073709551616 := by simp [IntKind.wrap, IntKind.bits, IntKind.signed]
  rw [e]
  unfold low
  omega

set_option maxHeartbeats 1000000 in
theorem reflow_any (n : Int) (w : World) :
    Calls Try.prog 26 #[.int .i64 n] w fun e w' => e = .returned (.int .i64 (low n)) ∧ w = w' := by
  obtain ⟨h0, h1⟩ := low_u64 n
  have hb := low_bd n
  go_enter Try.func26, Try.ntmps26
  go_wp2_with fail
  go_ret
  exact ⟨rfl, rfl⟩

set_option maxHeartbeats 1000000 in
theorem change_any (c a b : Int) (w : World) :
    Calls Try.prog 16 #[.int .i64 c, .int .i64 a, .int .i64 b] w fun e w' => e = .returned (.int .i64 (chg c a b)) ∧ w = w' := by
  have e1 := and_any c
  have e2 := and_any a
  have e3 := and_any b
  have b1 := low_bd c
  have b2 := low_bd a
  have b3 := low_bd b
  have HT : Hid (65535 - low c + 65535 - low a + low b < 9223372036854775808) := Lib.hid (by omega)
  have hb := fold_bd (65535 - low c + 65535 - low a + low b)
  have HK : Hid (chg c a b = 65535 - fold (65535 - low c + 65535 - low a + low b)) := rfl
  go_enter Try.func16, Try.ntmps16
  go_wp2_with (go_at_call 13; refine (fold_any _ HT _).mono ?_; rintro e w' ⟨rfl, rfl⟩)
  go_ret
  exact ⟨ret_int HK.out.symm, rfl⟩
set_option maxHeartbeats 1000000 in
theorem refchange_any (c a b : Int) (w : World) :
    Calls Try.prog 17 #[.int .i64 c, .int .i64 a, .int .i64 b] w fun e w' => e = .returned (.int .i64 (chg c a b)) ∧ w = w' := by
  have b1 := low_bd c
  have b2 := low_bd a
  have b3 := low_bd b
  have HT : Hid (65535 - low c + 65535 - low a + low b < 9223372036854775808) := Lib.hid (by omega)
  have hb := fold_bd (65535 - low c + 65535 - low a + low b)
  have HK : Hid (chg c a b = 65535 - fold (65535 - low c + 65535 - low a + low b)) := rfl
  go_enter Try.func17, Try.ntmps17
  go_wp2_with (first | (go_at_call 26; refine (reflow_any _ _).mono ?_; rintro e w' ⟨rfl, rfl⟩) | (go_at_call 14; refine (reffold_any _ HT _).mono ?_; rintro e w' ⟨rfl, rfl⟩))
  go_ret
  exact ⟨ret_int HK.out.symm, rfl⟩

theorem same_tmod (x y : Int) (hx : 0 ≤ x ∧ x ≤ 65535) (hy : 0 ≤ y ∧ y ≤ 65535) : ((x - y).tmod 65535 == 0) = sameB x y := by
  rw [Bool.eq_iff_iff, beq_iff_eq, sameB, decide_eq_true_iff]
  constructor
  · intro h; exact Int.emod_eq_zero_of_dvd (Int.dvd_of_tmod_eq_zero h)
  · intro h; exact Int.tmod_eq_zero_of_dvd (Int.dvd_of_emod_eq_zero h)
set_option maxHeartbeats 1000000 in
theorem same_any (a b : Int) (w : World) :
    Calls Try.prog 18 #[.int .i64 a, .int .i64 b] w fun e w' => e = .returned (.bool (sameB (low a) (low b))) ∧ w = w' := by
  have e1 := and_any a
  have e2 := and_any b
  have b1 := low_bd a
  have b2 := low_bd b
  have HS := Lib.hid (same_tmod _ _ b1 b2)
  go_enter Try.func18, Try.ntmps18
  go_wp2_with fail
  go_ret
  exact ⟨ret_bool HS.out, rfl⟩
set_option maxHeartbeats 1000000 in
theorem refsame_any (a b : Int) (w : World) :
    Calls Try.prog 19 #[.int .i64 a, .int .i64 b] w fun e w' => e = .returned (.bool (sameB (low a) (low b))) ∧ w = w' := by
  have b1 := low_bd a
  have b2 := low_bd b
  have HA := Lib.hid (fun w => reflow_any a w)
  have HB := Lib.hid (fun w => reflow_any b w)
  obtain ⟨x, hx⟩ : ∃ x, low a = x := ⟨_, rfl⟩
  obtain ⟨y, hy⟩ : ∃ y, low b = y := ⟨_, rfl⟩
  rw [hx] at HA b1 ⊢
  rw [hy] at HB b2 ⊢
  clear hx hy
  by_cases h1 : x = y
  · subst h1
    have HS : Hid (sameB x x = true) := Lib.hid (by simp [sameB])
    go_enter Try.func19, Try.ntmps19
    go_wp2_with fail
    refine (HA.out _).mono ?_
    rintro e w' ⟨rfl, rfl⟩
    go_wp2_with fail
    refine (HB.out _).mono ?_
    rintro e w' ⟨rfl, rfl⟩
    go_wp2_with fail
    go_ret
    exact ⟨ret_bool HS.out.symm, rfl⟩
  have t1 : (x == y) = false := by rw [beq_eq_false_iff_ne]; exact h1
  by_cases h2 : x = 0
  · subst h2
    by_cases h3 : y = 65535
    · subst h3
      have HS : Hid (sameB 0 65535 = true) := Lib.hid (by decide)
      go_enter Try.func19, Try.ntmps19
      go_wp2_with fail
      refine (HA.out _).mono ?_
      rintro e w' ⟨rfl, rfl⟩
      go_wp2_with fail
      refine (HB.out _).mono ?_
      rintro e w' ⟨rfl, rfl⟩
      go_wp2_with fail
      go_ret
      exact ⟨ret_bool HS.out.symm, rfl⟩
    · have HS : Hid (sameB 0 y = false) := Lib.hid (by simp [sameB]; omega)
      have t3 : (y == 65535) = false := by rw [beq_eq_false_iff_ne]; exact h3
      clear h3 h1
      go_enter Try.func19, Try.ntmps19
      go_wp2_with fail
      refine (HA.out _).mono ?_
      rintro e w' ⟨rfl, rfl⟩
      go_wp2_with fail
      refine (HB.out _).mono ?_
      rintro e w' ⟨rfl, rfl⟩
      go_wp2_with fail
      go_ret
      exact ⟨ret_bool HS.out.symm, rfl⟩
  have t2 : (x == 0) = false := by rw [beq_eq_false_iff_ne]; exact h2
  by_cases h4 : x = 65535
  · subst h4
    by_cases h5 : y = 0
    · subst h5
      have HS : Hid (sameB 65535 0 = true) := Lib.hid (by decide)
      go_enter Try.func19, Try.ntmps19
      go_wp2_with fail
      refine (HA.out _).mono ?_
      rintro e w' ⟨rfl, rfl⟩
      go_wp2_with fail
      refine (HB.out _).mono ?_
      rintro e w' ⟨rfl, rfl⟩
      go_wp2_with fail
      go_ret
      exact ⟨ret_bool HS.out.symm, rfl⟩
    · have HS : Hid (sameB 65535 y = false) := Lib.hid (by simp [sameB]; omega)
      have t3 : (y == 0) = false := by rw [beq_eq_false_iff_ne]; exact h5
      clear h5 h1
      go_enter Try.func19, Try.ntmps19
      go_wp2_with fail
      refine (HA.out _).mono ?_
      rintro e w' ⟨rfl, rfl⟩
      go_wp2_with fail
      refine (HB.out _).mono ?_
      rintro e w' ⟨rfl, rfl⟩
      go_wp2_with fail
      go_ret
      exact ⟨ret_bool HS.out.symm, rfl⟩
  · have HS : Hid (sameB x y = false) := Lib.hid (by simp [sameB]; omega)
    have t4 : (x == 65535) = false := by rw [beq_eq_false_iff_ne]; exact h4
    clear h4 h1 h2
    go_enter Try.func19, Try.ntmps19
    go_wp2_with fail
    refine (HA.out _).mono ?_
    rintro e w' ⟨rfl, rfl⟩
    go_wp2_with fail
    refine (HB.out _).mono ?_
    rintro e w' ⟨rfl, rfl⟩
    go_wp2_with fail
    go_ret
    exact ⟨ret_bool HS.out.symm, rfl⟩
end Go.Proofs.Ytilhioiocfllhaa
