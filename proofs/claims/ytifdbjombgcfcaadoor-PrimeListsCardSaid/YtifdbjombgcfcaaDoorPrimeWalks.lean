/- The walks of package prime and of its reference. -/
import Derived.Test.YtifdbjombgcfcaaDoorBase
import Derived.Test.YtifdbjombgcfcaaDoorPrimeMath
import Derived.Deep.QuietTactic
import Derived.BigQuiet
namespace Go.Proofs.YtifdbjombgcfcaaDoor
open Go.RowKit PrimeMath
set_option linter.unusedVariables false

set_option maxRecDepth 100000 in
set_option maxHeartbeats 1000000 in
theorem least_any (n : Nat) (h1 : 2 ≤ n) (h2 : n ≤ 2147483648) (w : World) :
    Calls Tryd.prog 17 #[.int .i64 (n : Int)] w fun e w' => e = .returned (.int .i64 ((lf n : Nat) : Int)) ∧ w = w' := by
  go_enter Tryd.func17, Tryd.ntmps17
  go_wp2_with fail
  go_loop [3] (fun d => ∃ k : Nat, 2 ≤ k ∧ k ≤ 46342 ∧ d = .int .i64 k ∧ Hid (∀ e, 2 ≤ e → e < k → n % e ≠ 0)) (fun d => 50000 - (intOf d).toNat)
  case atStart => exact ⟨2, by omega, by omega, rfl, (fun e h1 h2 => by omega)⟩
  case round =>
    obtain ⟨k, hk1, hk2, rfl, hd⟩ := hrel
    have hkk : (k : Int) * (k : Int) ≤ 2147580964 := by
      have : k * k ≤ 46342 * 46342 := Nat.mul_le_mul hk2 hk2
      rw [← Int.natCast_mul]
      omega
    have hk0 : (0 : Int) ≤ (k : Int) * (k : Int) := by rw [← Int.natCast_mul]; omega
    by_cases hle : k * k ≤ n
    · have hle' : (k : Int) * (k : Int) ≤ (n : Int) := by rw [← Int.natCast_mul]; omega
      have hk3 : k < 46342 := by
        rcases Nat.lt_or_ge k 46342 with h | h
        · exact h
        · have := Nat.mul_le_mul h h; omega
      by_cases hm : n % k = 0
      · have hm' : ((n : Int) % (k : Int) == 0) = true := by
          rw [beq_iff_eq, ← Int.natCast_emod]; omega
        have HF : Hid (lf n = k) := Lib.hid (lf_unique n k h1 hk1 hm hd.out)
        clear hm
        go_wp2_with fail
        go_ret
        exact ⟨ret_int (by rw [HF.out]), rfl⟩
      · have hm' : ((n : Int) % (k : Int) == 0) = false := by
          rw [beq_eq_false_iff_ne, ← Int.natCast_emod]; omega
        have HD : Hid (∀ e, 2 ≤ e → e < k + 1 → n % e ≠ 0) := Lib.hid fun e e1 e2 => by
          by_cases he : e = k
          · rw [he]; exact hm
          · exact hd.out e e1 (by omega)
        clear hm
        go_wp2_with fail
        exact ⟨⟨k + 1, by omega, by omega, by go_num, HD⟩, by simp [intOf]; omega⟩
    · have hle' : ¬ (k : Int) * (k : Int) ≤ (n : Int) := by rw [← Int.natCast_mul]; omega
      have HF : Hid (lf n = n) := Lib.hid (lf_self n k h1 (by omega) hd.out)
      clear hle
      go_wp2_with fail
      go_ret
      exact ⟨ret_int (by rw [HF.out]), rfl⟩

/-- Is a number prime, by the program's word: up to 2^31. -/
def pI (n : Int) : Bool := decide (n ≤ 2147483648) && isP n.toNat
theorem pI_nat (n : Nat) (h : n ≤ 2147483648) : pI (n : Int) = isP n := by
  have : (n : Int) ≤ 2147483648 := by omega
  simp [pI, this]
theorem pI_low (n : Int) (h : n < 2) : pI n = false := by
  have : ¬ 2 ≤ n.toNat := by omega
  simp [pI, isP, this]
theorem pI_high (n : Int) (h : 2147483648 < n) : pI n = false := by
  have : ¬ n ≤ 2147483648 := by omega
  simp [pI, this]

set_option maxRecDepth 100000 in
set_option maxHeartbeats 1000000 in
theorem least_low (n : Int) (h1 : n < 2) (w : World) :
    Calls Tryd.prog 17 #[.int .i64 n] w fun e w' => e = .returned (.int .i64 0) ∧ w = w' := by
  go_enter Tryd.func17, Tryd.ntmps17
  go_wp2_with fail
  go_ret
  exact ⟨rfl, rfl⟩
set_option maxRecDepth 100000 in
set_option maxHeartbeats 1000000 in
theorem least_high (n : Int) (h1 : 2147483648 < n) (w : World) :
    Calls Tryd.prog 17 #[.int .i64 n] w fun e w' => e = .returned (.int .i64 0) ∧ w = w' := by
  have h2 : 2 ≤ n := by omega
  go_enter Tryd.func17, Tryd.ntmps17
  go_wp2_with fail
  go_ret
  exact ⟨rfl, rfl⟩
set_option maxRecDepth 100000 in
set_option maxHeartbeats 1000000 in
theorem is_any (n : Int) (w : World) :
    Calls Tryd.prog 15 #[.int .i64 n] w fun e w' => e = .returned (.bool (pI n)) ∧ w = w' := by
  by_cases h1 : n < 2
  · have HP := Lib.hid (pI_low n h1)
    go_enter Tryd.func15, Tryd.ntmps15
    go_wp2_with fail
    go_ret
    exact ⟨ret_bool HP.out.symm, rfl⟩
  · by_cases h2 : 2147483648 < n
    · have HP := Lib.hid (pI_high n h2)
      have hne : ((0 : Int) == n) = false := by simp; omega
      have h3 : 2 ≤ n := by omega
      go_enter Tryd.func15, Tryd.ntmps15
      go_wp2_with (go_at_call 17; refine (least_high _ h2 _).mono ?_; rintro e w' ⟨rfl, rfl⟩)
      go_ret
      exact ⟨ret_bool HP.out.symm, rfl⟩
    · obtain ⟨m, rfl⟩ := Int.eq_ofNat_of_zero_le (show 0 ≤ n by omega)
      have h3 : 2 ≤ m := by omega
      have h4 : m ≤ 2147483648 := by omega
      have h5 : (2 : Int) ≤ (m : Int) := by omega
      have h6 : (m : Int) ≤ 2147483648 := by omega
      have HP := Lib.hid (pI_nat m h4)
      have HI : Hid ((((lf m : Nat) : Int) == (m : Int)) = isP m) := Lib.hid (by
        rw [Bool.eq_iff_iff, beq_iff_eq, isP_iff]; omega)
      clear h1 h2
      go_enter Tryd.func15, Tryd.ntmps15
      go_wp2_with (go_at_call 17; refine (least_any m h3 h4 _).mono ?_; rintro e w' ⟨rfl, rfl⟩)
      go_ret
      exact ⟨ret_bool (by rw [HP.out, ← HI.out]), rfl⟩

def NextPost (n : Int) (w : World) (e : Ending) (w' : World) : Prop :=
  ∃ p : Nat, e = .returned (.tuple #[.int .i64 (p : Int), .nilIface]) ∧ w = w' ∧ n ≤ p ∧ 2 ≤ p ∧ p ≤ 2147483647 ∧ isP p = true ∧ ∀ k : Nat, 2 ≤ k → n ≤ k → k < p → isP k = false
set_option maxRecDepth 100000 in
set_option maxHeartbeats 1000000 in
theorem next_any (n : Int) (h : n < 2147483648) (w : World) :
    Calls Tryd.prog 18 #[.int .i64 n] w (NextPost n w) := by
  by_cases h2 : n < 2
  · go_enter Tryd.func18, Tryd.ntmps18
    go_wp2_with fail
    go_loop [0] (fun v => ∃ m : Nat, v = .int .i64 m ∧ n ≤ m ∧ 2 ≤ m ∧ m ≤ 2147483647 ∧ Hid (∀ k : Nat, 2 ≤ k → n ≤ k → k < m → isP k = false)) (fun v => 2147483648 - (intOf v).toNat)
    case atStart => exact ⟨2, rfl, by omega, by omega, by omega, (fun k h1 h2 h3 => by omega)⟩
    case round =>
      obtain ⟨m, rfl, hnm, h2m, hm, hk⟩ := hrel
      have HP := Lib.hid (pI_nat m (by omega))
      cases hv : isP m with
      | true =>
        have hv' : pI (m : Int) = true := by rw [HP.out, hv]
        have HV := Lib.hid hv; clear hv
        go_wp2_with (go_at_call 15; refine (is_any _ _).mono ?_; rintro e w' ⟨rfl, rfl⟩)
        go_ret2
        exact ⟨m, rfl, rfl, hnm, h2m, hm, HV.out, hk.out⟩
      | false =>
        have hv' : pI (m : Int) = false := by rw [HP.out, hv]
        have hm2 : m < 2147483647 := by
          rcases Nat.lt_or_ge m 2147483647 with h | h
          · exact h
          · have : m = 2147483647 := by omega
            rw [this, mersenne] at hv
            cases hv
        have HV : Hid (∀ k : Nat, 2 ≤ k → n ≤ k → k < m + 1 → isP k = false) := Lib.hid fun k k1 k2 k3 => by
          by_cases he : k = m
          · rw [he]; exact hv
          · exact hk.out k k1 k2 (by omega)
        clear hv
        go_wp2_with (go_at_call 15; refine (is_any _ _).mono ?_; rintro e w' ⟨rfl, rfl⟩)
        exact ⟨⟨m + 1, by go_num, by omega, by omega, by omega, HV⟩, by simp [intOf]; omega⟩
  · have hn2 : 2 ≤ n := by omega
    clear h2
    go_enter Tryd.func18, Tryd.ntmps18
    go_wp2_with fail
    go_loop [0] (fun v => ∃ m : Nat, v = .int .i64 m ∧ n ≤ m ∧ m ≤ 2147483647 ∧ Hid (∀ k : Nat, 2 ≤ k → n ≤ k → k < m → isP k = false)) (fun v => 2147483648 - (intOf v).toNat)
    case atStart => exact ⟨n.toNat, by rw [Int.toNat_of_nonneg (by omega)], by omega, by omega, (fun k h1 h2 h3 => by omega)⟩
    case round =>
      obtain ⟨m, rfl, hnm, hm, hk⟩ := hrel
      have HP := Lib.hid (pI_nat m (by omega))
      cases hv : isP m with
      | true =>
        have hv' : pI (m : Int) = true := by rw [HP.out, hv]
        have HV := Lib.hid hv; clear hv
        go_wp2_with (go_at_call 15; refine (is_any _ _).mono ?_; rintro e w' ⟨rfl, rfl⟩)
        go_ret2
        exact ⟨m, rfl, rfl, by omega, by omega, hm, HV.out, fun k k1 k2 k3 => hk.out k k1 (by omega) k3⟩
      | false =>
        have hv' : pI (m : Int) = false := by rw [HP.out, hv]
        have hm2 : m < 2147483647 := by
          rcases Nat.lt_or_ge m 2147483647 with h | h
          · exact h
          · have : m = 2147483647 := by omega
            rw [this, mersenne] at hv
            cases hv
        have HV : Hid (∀ k : Nat, 2 ≤ k → n ≤ k → k < m + 1 → isP k = false) := Lib.hid fun k k1 k2 k3 => by
          by_cases he : k = m
          · rw [he]; exact hv
          · exact hk.out k k1 k2 (by omega)
        clear hv
        go_wp2_with (go_at_call 15; refine (is_any _ _).mono ?_; rintro e w' ⟨rfl, rfl⟩)
        exact ⟨⟨m + 1, by go_num, by omega, by omega, HV⟩, by simp [intOf]; omega⟩

set_option maxRecDepth 100000 in
set_option maxHeartbeats 1000000 in
theorem alive08_any (w : World) :
    Calls Tryd.prog 10 #[] w fun e w' => e = .returned (.bool true) ∧ w = w' := by
  go_enter Tryd.func10, Tryd.ntmps10
  go_wp2_with fail
  refine (next_any 8 (by omega) _).mono ?_
  rintro e w' ⟨p, rfl, rfl, h1, h2, h3, h4, h5⟩
  have hp : p = 11 := by
    rcases Nat.lt_trichotomy p 11 with h | h | h
    · have h8 : p = 8 ∨ p = 9 ∨ p = 10 := by omega
      rcases h8 with rfl | rfl | rfl
      · exact absurd h4 (by decide)
      · exact absurd h4 (by decide)
      · exact absurd h4 (by decide)
    · exact h
    · exact absurd (h5 11 (by omega) (by omega) h) (by decide)
  subst hp
  clear h1 h2 h3 h4 h5
  have hp2 : pI 2 = true := by decide
  go_wp2_with (go_at_call 15; refine (is_any _ _).mono ?_; rintro e w' ⟨rfl, rfl⟩)
  go_ret
  exact ⟨rfl, rfl⟩
end Go.Proofs.YtifdbjombgcfcaaDoor
