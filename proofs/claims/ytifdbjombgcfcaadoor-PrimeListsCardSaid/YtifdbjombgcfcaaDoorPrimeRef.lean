/- The walks of the reference's Is and Least, and of prime.Next and prime.Inverse where they tell an error. -/
import Derived.Test.YtifdbjombgcfcaaDoorPrimePow
import Derived.Test.YtifdbjombgcfcaaDoorSent
namespace Go.Proofs.YtifdbjombgcfcaaDoor
open Go.RowKit PrimeMath
set_option linter.unusedVariables false

set_option maxRecDepth 100000 in
set_option maxHeartbeats 1000000 in
theorem refis_odd (n : Nat) (h1 : 3 ≤ n) (h2 : n ≤ 2147483648) (hodd : n % 2 = 1) (w : World) :
    Calls Tryd.prog 14 #[.int .i64 (n : Int)] w fun e w' => e = .returned (.bool (isP n)) ∧ w = w' := by
  have ho : ((n : Int) % 2 == 0) = false := by rw [beq_eq_false_iff_ne]; omega
  have t1 : (2 : Int) ≤ (n : Int) := by omega
  have t2 : (n : Int) ≤ 2147483648 := by omega
  go_enter Tryd.func14, Tryd.ntmps14
  go_wp2_with fail
  go_loop [3] (fun d => ∃ k : Nat, 3 ≤ k ∧ k ≤ 46343 ∧ k % 2 = 1 ∧ d = .int .i64 k ∧ Hid (∀ e, 3 ≤ e → e < k → e % 2 = 1 → n % e ≠ 0)) (fun d => 50000 - (intOf d).toNat)
  case atStart => exact ⟨3, by omega, by omega, by omega, rfl, (fun e h1 h2 => by omega)⟩
  case round =>
    obtain ⟨k, hk1, hk2, hk3, rfl, hd⟩ := hrel
    have hkk : (k : Int) * (k : Int) ≤ 2147673649 := by
      have : k * k ≤ 46343 * 46343 := Nat.mul_le_mul hk2 hk2
      rw [← Int.natCast_mul]
      omega
    have hk0 : (0 : Int) ≤ (k : Int) * (k : Int) := by rw [← Int.natCast_mul]; omega
    have HK3 := Lib.hid hk3
    clear hk3
    by_cases hle : k * k ≤ n
    · have hle' : (k : Int) * (k : Int) ≤ (n : Int) := by rw [← Int.natCast_mul]; omega
      have hk4 : k ≤ 46341 := by
        rcases Nat.lt_or_ge 46341 k with h | h
        · have := Nat.mul_le_mul h h; omega
        · exact h
      by_cases hm : n % k = 0
      · have hm' : ((n : Int) % (k : Int) == 0) = true := by
          rw [beq_iff_eq, ← Int.natCast_emod]; omega
        have HF : Hid (isP n = false) := Lib.hid (by
          have hkn : k < n := by
            have : 3 * k ≤ k * k := Nat.mul_le_mul_right k hk1
            omega
          have hlf := lf_spec n (by omega)
          cases hP : isP n with
          | false => rfl
          | true =>
            have := ((isP_iff n).1 hP).2
            exact (hlf.2.2.2 k (by omega) (by omega) hm).elim)
        clear hm
        go_wp2_with fail
        go_ret
        exact ⟨ret_bool HF.out.symm, rfl⟩
      · have hm' : ((n : Int) % (k : Int) == 0) = false := by
          rw [beq_eq_false_iff_ne, ← Int.natCast_emod]; omega
        have HD : Hid (∀ e, 3 ≤ e → e < k + 2 → e % 2 = 1 → n % e ≠ 0) := Lib.hid fun e e1 e2 e3 => by
          have := HK3.out
          by_cases he : e = k
          · rw [he]; exact hm
          · exact hd.out e e1 (by omega) e3
        clear hm
        go_wp2_with fail
        exact ⟨⟨k + 2, by omega, by omega, by have := HK3.out; omega, by go_num, HD⟩, by simp [intOf]; omega⟩
    · have hle' : ¬ (k : Int) * (k : Int) ≤ (n : Int) := by rw [← Int.natCast_mul]; omega
      have HF : Hid (isP n = true) := Lib.hid ((isP_iff n).2 ⟨by omega, isP_odd n k (by omega) hodd (by omega) hd.out⟩)
      clear hle
      go_wp2_with fail
      go_ret
      exact ⟨ret_bool HF.out.symm, rfl⟩
set_option maxRecDepth 100000 in
set_option maxHeartbeats 1000000 in
theorem refis_any (n : Int) (w : World) :
    Calls Tryd.prog 14 #[.int .i64 n] w fun e w' => e = .returned (.bool (pI n)) ∧ w = w' := by
  by_cases h1 : n < 2
  · have HP := Lib.hid (pI_low n h1)
    go_enter Tryd.func14, Tryd.ntmps14
    go_wp2_with fail
    go_ret
    exact ⟨ret_bool HP.out.symm, rfl⟩
  by_cases h2 : 2147483648 < n
  · have HP := Lib.hid (pI_high n h2)
    have h3 : 2 ≤ n := by omega
    go_enter Tryd.func14, Tryd.ntmps14
    go_wp2_with fail
    go_ret
    exact ⟨ret_bool HP.out.symm, rfl⟩
  obtain ⟨m, rfl⟩ := Int.eq_ofNat_of_zero_le (show 0 ≤ n by omega)
  rw [pI_nat m (by omega)]
  by_cases ho : m % 2 = 1
  · exact refis_odd m (by omega) (by omega) ho w
  · have he : ((m : Int) % 2 == 0) = true := by rw [beq_iff_eq]; omega
    have t1 : (2 : Int) ≤ (m : Int) := by omega
    have t2 : (m : Int) ≤ 2147483648 := by omega
    have HF : Hid (isP m = ((m : Int) == 2)) := Lib.hid (by
      have hlf := lf_spec m (by omega)
      rw [Bool.eq_iff_iff, isP_iff, beq_iff_eq]
      constructor
      · rintro ⟨_, h⟩
        rcases Nat.lt_or_ge 2 m with h' | h'
        · exact (hlf.2.2.2 2 (by omega) (by omega) (by omega)).elim
        · omega
      · intro h
        have : m = 2 := by omega
        subst this
        exact ⟨by omega, by decide⟩)
    clear h1 h2 ho
    go_enter Tryd.func14, Tryd.ntmps14
    go_wp2_with fail
    go_ret
    exact ⟨ret_bool HF.out.symm, rfl⟩

set_option maxRecDepth 100000 in
set_option maxHeartbeats 1000000 in
theorem refleast_any (n : Nat) (h1 : 2 ≤ n) (h2 : n ≤ 2147483648) (w : World) :
    Calls Tryd.prog 16 #[.int .i64 (n : Int)] w fun e w' => e = .returned (.int .i64 ((lf n : Nat) : Int)) ∧ w = w' := by
  go_enter Tryd.func16, Tryd.ntmps16
  go_wp2_with fail
  go_loop [3] (fun d => ∃ k : Nat, 2 ≤ k ∧ k ≤ 46342 ∧ d = .int .i64 k ∧ Hid (∀ e, 2 ≤ e → e < k → n % e ≠ 0)) (fun d => 50000 - (intOf d).toNat)
  case atStart => exact ⟨2, by omega, by omega, rfl, (fun e h1 h2 => by omega)⟩
  case round =>
    obtain ⟨k, hk1, hk2, rfl, hd⟩ := hrel
    have HK2 := Lib.hid hk2
    by_cases hlt : k < 46342
    · have hlt' : (k : Int) < 46342 := by omega
      have HLT := Lib.hid hlt
      clear hlt hk2
      by_cases hm : n % k = 0
      · have hm' : ((n : Int) % (k : Int) == 0) = true := by
          rw [beq_iff_eq, ← Int.natCast_emod]; omega
        have hf := lf_unique n k h1 hk1 hm hd.out
        have HP : Hid (pI (k : Int) = true) := Lib.hid (by
          rw [pI_nat k (by have := HLT.out; omega), isP_iff]
          refine ⟨hk1, ?_⟩
          rw [← hf]; exact lf_lf n h1)
        have HF := Lib.hid hf
        clear hm hf
        go_wp2_with (go_at_call 14; refine (refis_any _ _).mono ?_; rintro e w' ⟨rfl, rfl⟩; rw [HP.out])
        go_ret
        exact ⟨ret_int (by rw [HF.out]), rfl⟩
      · have hm' : ((n : Int) % (k : Int) == 0) = false := by
          rw [beq_eq_false_iff_ne, ← Int.natCast_emod]; omega
        have HD : Hid (∀ e, 2 ≤ e → e < k + 1 → n % e ≠ 0) := Lib.hid fun e e1 e2 => by
          by_cases he : e = k
          · rw [he]; exact hm
          · exact hd.out e e1 (by omega)
        clear hm
        go_wp2_with fail
        exact ⟨⟨k + 1, by omega, by have := HLT.out; omega, by go_num, HD⟩, by have := HLT.out; simp [intOf]; omega⟩
    · obtain rfl : k = 46342 := by omega
      have HF : Hid (lf n = n) := Lib.hid (lf_self n 46342 h1 (by omega) hd.out)
      clear hlt hk2
      go_wp2_with fail
      go_ret
      exact ⟨ret_int (by rw [HF.out]), rfl⟩

set_option maxHeartbeats 1000000 in
theorem next_high (adr : Nat → Addr) (n : Int) (h : 2147483648 ≤ n) (w : World) (H : Sents w adr) :
    Calls Tryd.prog 18 #[.int .i64 n] w fun e w' => e = .returned (.tuple #[.int .i64 0, errV adr 0]) ∧ ∃ k, w' = w.drewN k := by
  have c0 := H.cell 0 _ rfl
  clear H
  unfold errV
  go_enter Tryd.func18, Tryd.ntmps18
  go_wp2_with fail
  go_quiet (fail)
  go_wp2_with fail
  go_ret2
  exact ⟨rfl, _, rfl⟩
end Go.Proofs.YtifdbjombgcfcaaDoor
