/- The walks of prime.Power, of the reference's Power, and of what they call. -/
import Derived.Test.YtifdbjombgcfcaaDoorPrimeWalks
namespace Go.Proofs.YtifdbjombgcfcaaDoor
open Go.RowKit PrimeMath
set_option linter.unusedVariables false

/-- A number modulo another one, from 0 on. -/
def rb (a : Int) (p : Nat) : Nat := (a % (p : Int)).toNat
theorem rb_int (a : Int) (p : Nat) (hp : 0 < p) : ((rb a p : Nat) : Int) = a % (p : Int) := Int.toNat_of_nonneg (Int.emod_nonneg _ (by omega))
theorem rb_lt (a : Int) (p : Nat) (hp : 0 < p) : rb a p < p := by
  have h := Int.emod_lt_of_pos a (show (0 : Int) < p by omega)
  have := rb_int a p hp
  omega
theorem tmod_lo (a : Int) (p : Nat) (hp : 0 < p) : -(p : Int) < a.tmod p := by
  rcases Int.le_total 0 a with h | h
  · have := Int.tmod_nonneg (p : Int) h; omega
  · have := Int.tmod_nonneg (p : Int) (show 0 ≤ -a by omega)
    rw [Int.neg_tmod] at this
    have h2 := Int.tmod_lt_of_pos (-a) (show (0 : Int) < p by omega)
    rw [Int.neg_tmod] at h2
    omega
theorem tmod_hi (a : Int) (p : Nat) (hp : 0 < p) : a.tmod p < (p : Int) := Int.tmod_lt_of_pos a (by omega)
theorem tmod_mod (a p : Int) : (a.tmod p + p) % p = a % p := by
  rw [Int.tmod_def]
  have : a - p * a.tdiv p + p = a + p * (1 - a.tdiv p) := by
    rw [Int.mul_sub, Int.mul_one]; omega
  rw [this, Int.add_mul_emod_self_left]
theorem tmod_neg (a p : Int) (hp : 0 < p) (h : a.tmod p < 0) (h2 : -p < a.tmod p) : a.tmod p + p = a % p := by
  rw [← tmod_mod]
  exact (Int.emod_eq_of_lt (by omega) (by omega)).symm
theorem tmod_nonneg' (a p : Int) (hp : 0 < p) (h : 0 ≤ a.tmod p) (h2 : a.tmod p < p) : a.tmod p = a % p := by
  rw [← tmod_mod, Int.add_emod_right]
  exact (Int.emod_eq_of_lt h h2).symm

set_option maxHeartbeats 1000000 in
theorem rest_any (a : Int) (p : Nat) (h1 : 1 ≤ p) (h2 : p ≤ 2147483648) (w : World) :
    Calls Tryd.prog 36 #[.int .i64 a, .int .i64 (p : Int)] w fun e w' => e = .returned (.int .i64 ((rb a p : Nat) : Int)) ∧ w = w' := by
  have k1 := tmod_lo a p h1
  have k2 := tmod_hi a p h1
  have HR := Lib.hid (rb_int a p h1)
  go_enter Tryd.func36, Tryd.ntmps36
  go_wp2_with fail
  go_ret
  exact ⟨ret_int (by rw [HR.out]; exact tmod_mod _ _), rfl⟩
set_option maxHeartbeats 1000000 in
theorem refrest_any (a : Int) (p : Nat) (h1 : 1 ≤ p) (h2 : p ≤ 2147483648) (w : World) :
    Calls Tryd.prog 21 #[.int .i64 a, .int .i64 (p : Int)] w fun e w' => e = .returned (.int .i64 ((rb a p : Nat) : Int)) ∧ w = w' := by
  have k1 := tmod_lo a p h1
  have k2 := tmod_hi a p h1
  have HR := Lib.hid (rb_int a p h1)
  by_cases hs : a.tmod p < 0
  · have HT := Lib.hid (tmod_neg a p (by omega) hs k1)
    go_enter Tryd.func21, Tryd.ntmps21
    go_wp2_with fail
    go_ret
    exact ⟨ret_int (by rw [HR.out]; exact HT.out), rfl⟩
  · have HT := Lib.hid (tmod_nonneg' a p (by omega) (by omega) k2)
    go_enter Tryd.func21, Tryd.ntmps21
    go_wp2_with fail
    go_ret
    exact ⟨ret_int (by rw [HR.out]; exact HT.out), rfl⟩

theorem and_one (k : Nat) (h : k < 9223372036854775808) : bits .and .i64 (k : Int) 1 = (k : Int) % 2 := by
  have := bits_mask .i64 63 (by decide) (fun n h0 h1 => by rw [IntKind.wrap_i64]; omega) 1 (by decide) (k : Int) (by omega) (by omega)
  simpa using this
theorem wrap_mul (a b : Nat) (ha : a ≤ 2147483648) (hb : b ≤ 2147483648) : wrap64 ((a : Int) * (b : Int)) = (a : Int) * (b : Int) := by
  have h : a * b ≤ 2147483648 * 2147483648 := Nat.mul_le_mul ha hb
  have h2 : ((a * b : Nat) : Int) = (a : Int) * (b : Int) := Int.natCast_mul a b
  unfold wrap64
  rw [← h2]
  omega
theorem mul_nonneg (a b : Nat) : 0 ≤ (a : Int) * (b : Int) := by rw [← Int.natCast_mul]; omega
theorem mul_mod_cast (a b p : Nat) : ((a * b % p : Nat) : Int) = (a : Int) * (b : Int) % (p : Int) := by rw [Int.natCast_emod, Int.natCast_mul]

set_option maxRecDepth 100000 in
set_option maxHeartbeats 1000000 in
theorem power_any (a : Int) (k p : Nat) (h1 : 1 ≤ p) (h2 : p ≤ 2147483648) (h3 : Hid (k < 9223372036854775808)) (w : World) :
    Calls Tryd.prog 11 #[.int .i64 a, .int .i64 (k : Int), .int .i64 (p : Int)] w fun e w' => e = .returned (.int .i64 ((pw (rb a p) k p : Nat) : Int)) ∧ w = w' := by
  have g1 : decide ((p : Int) < 1) = false := by simp; omega
  have g2 : decide (2147483648 < (p : Int)) = false := by simp; omega
  have g3 : decide ((k : Int) < 0) = false := by simp
  have k1 : (1 : Int) ≤ (p : Int) := by omega
  have k2 : (p : Int) ≤ 2147483648 := by omega
  go_enter Tryd.func11, Tryd.ntmps11
  go_wp2_with (go_at_call 36; refine (rest_any _ p h1 h2 _).mono ?_; rintro e w' ⟨rfl, rfl⟩)
  have hb0 := rb_lt a p h1
  have ho0 := rb_lt 1 p h1
  have hst : Hid ((rb 1 p * rb a p ^ k) % p = pw (rb a p) k p) := Lib.hid (by
    have : rb 1 p = 1 % p := by
      have h := rb_int 1 p h1
      have h' : ((1 % p : Nat) : Int) = (1 : Int) % (p : Int) := by rw [Int.natCast_emod]; rfl
      omega
    rw [this, pw, Nat.mul_mod, Nat.mod_mod, ← Nat.mul_mod, Nat.one_mul])
  clear g1 g2 g3
  go_loop [1, 7, 8] (fun kv ov bv => ∃ kk o b : Nat, kv = .int .i64 kk ∧ ov = .int .i64 o ∧ bv = .int .i64 b ∧ o < p ∧ b < p ∧ Hid (kk < 9223372036854775808) ∧ Hid ((o * b ^ kk) % p = pw (rb a p) k p)) (fun kv _ _ => (intOf kv).toNat)
  case atStart => exact ⟨k, rb 1 p, rb a p, rfl, rfl, rfl, ho0, hb0, h3, hst⟩
  case round =>
    obtain ⟨kk, o, b, rfl, rfl, rfl, ho, hb, hkk, hi⟩ := hrel
    clear hst hb0 ho0 h3
    by_cases hk : 0 < kk
    · have e1 := and_one kk hkk.out
      have e2 := wrap_mul o b (by omega) (by omega)
      have e3 := wrap_mul b b (by omega) (by omega)
      have n1 := mul_nonneg o b
      have n2 := mul_nonneg b b
      have M1 := Lib.hid (mul_mod_cast o b p)
      have M2 := Lib.hid (mul_mod_cast b b p)
      have L1 := Nat.mod_lt (o * b) h1
      have L2 := Nat.mod_lt (b * b) h1
      have hK : Hid (kk / 2 < 9223372036854775808) := Lib.hid (by have := hkk.out; omega)
      by_cases hodd : kk % 2 = 1
      · have t1 : ((kk : Int) % 2 == 1) = true := by rw [beq_iff_eq]; omega
        have HI : Hid ((o * b % p * (b * b % p) ^ (kk / 2)) % p = pw (rb a p) k p) := Lib.hid (by rw [pow_step_odd o b kk p hodd]; exact hi.out)
        clear hodd
        go_wp2_with fail
        exact ⟨⟨kk / 2, o * b % p, b * b % p, by go_num, by rw [M1.out], by rw [M2.out], L1, L2, hK, HI⟩, by simp [intOf]; omega⟩
      · have t1 : ((kk : Int) % 2 == 1) = false := by rw [beq_eq_false_iff_ne]; omega
        have HI : Hid ((o * (b * b % p) ^ (kk / 2)) % p = pw (rb a p) k p) := Lib.hid (by rw [pow_step_even o b kk p (by omega)]; exact hi.out)
        clear hodd
        go_wp2_with fail
        exact ⟨⟨kk / 2, o, b * b % p, by go_num, rfl, by rw [M2.out], ho, L2, hK, HI⟩, by simp [intOf]; omega⟩
    · obtain rfl : kk = 0 := by omega
      have HI : Hid (o = pw (rb a p) k p) := Lib.hid (by have := hi.out; rw [Nat.pow_zero, Nat.mul_one, Nat.mod_eq_of_lt ho] at this; exact this)
      go_wp2_with fail
      go_ret
      exact ⟨ret_int (by rw [← HI.out]), rfl⟩

set_option maxRecDepth 100000 in
set_option maxHeartbeats 1000000 in
theorem power_out (a k p : Int) (h : p < 1 ∨ 2147483648 < p ∨ k < 0) (w : World) :
    Calls Tryd.prog 11 #[.int .i64 a, .int .i64 k, .int .i64 p] w fun e w' => e = .returned (.int .i64 0) ∧ w = w' := by
  by_cases h1 : p < 1
  · go_enter Tryd.func11, Tryd.ntmps11
    go_wp2_with fail
    go_ret
    exact ⟨rfl, rfl⟩
  by_cases h2 : 2147483648 < p
  · have h3 : 1 ≤ p := by omega
    go_enter Tryd.func11, Tryd.ntmps11
    go_wp2_with fail
    go_ret
    exact ⟨rfl, rfl⟩
  · have h3 : 1 ≤ p := by omega
    have h4 : p ≤ 2147483648 := by omega
    have h5 : k < 0 := by omega
    clear h
    go_enter Tryd.func11, Tryd.ntmps11
    go_wp2_with fail
    go_ret
    exact ⟨rfl, rfl⟩

set_option maxRecDepth 100000 in
set_option maxHeartbeats 1000000 in
theorem refpower_any (a : Int) (p : Nat) (h1 : 1 ≤ p) (h2 : p ≤ 2147483648) (f : Nat) : ∀ (k : Nat) (w : World), k ≤ f → Hid (k < 9223372036854775808) →
    Calls Tryd.prog 12 #[.int .i64 a, .int .i64 (k : Int), .int .i64 (p : Int)] w fun e w' => e = .returned (.int .i64 ((pw (rb a p) k p : Nat) : Int)) ∧ w = w' := by
  have k1 : (1 : Int) ≤ (p : Int) := by omega
  have zero : ∀ w : World, Calls Tryd.prog 12 #[.int .i64 a, .int .i64 ((0 : Nat) : Int), .int .i64 (p : Int)] w fun e w' => e = .returned (.int .i64 ((pw (rb a p) 0 p : Nat) : Int)) ∧ w = w' := by
    intro w
    go_enter Tryd.func12, Tryd.ntmps12
    go_wp2_with fail
    go_ret
    exact ⟨ret_int (by rw [pw_zero, Int.natCast_emod]; rfl), rfl⟩
  induction f with
  | zero =>
    intro k w hk _
    obtain rfl : k = 0 := by omega
    exact zero w
  | succ f ih =>
    intro k w hk hkk
    by_cases h0 : k = 0
    · subst h0; exact zero w
    · have t0 : ((k : Int) == 0) = false := by rw [beq_eq_false_iff_ne]; omega
      have IH := Lib.hid (ih (k / 2) · (by omega) (Lib.hid (by have := hkk.out; omega)))
      have hlt := pw_lt (rb a p) (k / 2) p h1
      obtain ⟨q, hq⟩ : ∃ q, pw (rb a p) (k / 2) p = q := ⟨_, rfl⟩
      rw [hq] at hlt
      have IH2 : Hid (∀ w : World, Calls Tryd.prog 12 #[.int .i64 a, .int .i64 ((k : Int) / 2), .int .i64 (p : Int)] w fun e w' => e = .returned (.int .i64 ((q : Nat) : Int)) ∧ w = w') := Lib.hid fun w => by
        have h := IH.out w
        rw [hq, show ((k / 2 : Nat) : Int) = (k : Int) / 2 by omega] at h
        exact h
      have e2 := wrap_mul q q (by omega) (by omega)
      have n2 := mul_nonneg q q
      have L2 := Nat.mod_lt (q * q) h1
      have M2 := mul_mod_cast q q p
      obtain ⟨r, hr⟩ : ∃ r, q * q % p = r := ⟨_, rfl⟩
      rw [hr] at L2 M2
      have M2' := M2.symm
      have hb := rb_lt a p h1
      have e4 := wrap_mul r (rb a p) (by omega) (by omega)
      have n4 := mul_nonneg r (rb a p)
      have HM := Lib.hid (mul_mod_cast r (rb a p) p)
      have e5 : wrap64 ((k : Int) / 2) = (k : Int) / 2 := by have := hkk.out; unfold wrap64; omega
      clear ih IH zero h0 M2
      by_cases hodd : k % 2 = 1
      · have t1 : ((k : Int) % 2 == 1) = true := by rw [beq_iff_eq]; omega
        have HE : Hid (pw (rb a p) k p = r * rb a p % p) := Lib.hid (by
          rw [pw_odd _ k p hodd, hq, hr, Nat.mod_eq_of_lt hb])
        clear hodd hq hr
        go_enter Tryd.func12, Tryd.ntmps12
        go_wp2_with (first | (go_at_call 12; refine (IH2.out _).mono ?_; rintro e w' ⟨rfl, rfl⟩) | (go_at_call 21; refine (refrest_any _ p h1 h2 _).mono ?_; rintro e w' ⟨rfl, rfl⟩))
        go_ret
        exact ⟨ret_int (by rw [HE.out, HM.out]), rfl⟩
      · have t1 : ((k : Int) % 2 == 1) = false := by rw [beq_eq_false_iff_ne]; omega
        have HE : Hid (pw (rb a p) k p = r) := Lib.hid (by
          rw [pw_even _ k p (by omega), hq, hr])
        clear hodd hq hr
        go_enter Tryd.func12, Tryd.ntmps12
        go_wp2_with (first | (go_at_call 12; refine (IH2.out _).mono ?_; rintro e w' ⟨rfl, rfl⟩))
        go_ret
        exact ⟨ret_int (by rw [HE.out, M2']), rfl⟩
end Go.Proofs.YtifdbjombgcfcaaDoor
