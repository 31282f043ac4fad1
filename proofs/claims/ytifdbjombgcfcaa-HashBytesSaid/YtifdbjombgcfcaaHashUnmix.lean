/- The walks of hash.inverse, hash.Unmix and of the reference's Mix. -/
import Derived.Test.YtifdbjombgcfcaaHashMix
namespace Go.Proofs.Ytifdbjombgcfcaa
open Go.RowKit HashMath
set_option linter.unusedVariables false

set_option maxRecDepth 100000 in
set_option maxHeartbeats 1000000 in
theorem refmix_any (x : BitVec 64) (w : World) :
    Calls Try.prog 16 #[.int .u64 (x.toNat : Int)] w fun e w' => e = .returned (.int .u64 ((mixB x).toNat : Int)) ∧ w = w' := by
  obtain ⟨y, hy⟩ : ∃ y, hx x * c1 = y := ⟨_, rfl⟩
  obtain ⟨z, hz⟩ : ∃ z, hx y * c2 = z := ⟨_, rfl⟩
  have e1 := mul_c1 x
  have e2 := mul_c2 y
  have HM : Hid (hx z = mixB x) := Lib.hid (by rw [mixB, hy, hz])
  rw [hy] at e1
  rw [hz] at e2
  clear hy hz
  go_enter Try.func16, Try.ntmps16
  go_wp2
  go_ret
  refine ⟨ret_int ?_, rfl⟩
  rw [← HM.out]
  exact hx_int _

set_option maxRecDepth 100000 in
set_option maxHeartbeats 1000000 in
theorem inverse_any (x : BitVec 64) (w : World) :
    Calls Try.prog 21 #[.int .u64 (x.toNat : Int)] w fun e w' => e = .returned (.int .u64 ((invB x).toNat : Int)) ∧ w = w' := by
  go_enter Try.func21, Try.ntmps21
  go_wp2
  go_loop [3, 5] (fun g i => ∃ k : Nat, k ≤ 5 ∧ i = .int .i64 k ∧ g = .int .u64 ((invSt x k).toNat : Int)) (fun _ i => 5 - (intOf i).toNat)
  case atStart => exact ⟨0, Nat.zero_le _, rfl, rfl⟩
  case round =>
    obtain ⟨k, hk, rfl, rfl⟩ := hrel
    have HS : Hid (inv1 x (invSt x k) = invSt x (k + 1)) := Lib.hid rfl
    by_cases hlt : k < 5
    · have e := inv1_int x (invSt x k)
      go_wp2
      exact ⟨⟨k + 1, by omega, by go_num, by rw [HS.out]⟩, by simp [intOf]; omega⟩
    · go_wp2
      go_ret
      obtain rfl : k = 5 := by omega
      exact ⟨rfl, rfl⟩

theorem inverse_c1 (w : World) : Calls Try.prog 21 #[.int .u64 18397679294719823053] w fun e w' => e = .returned (.int .u64 ((invB c1).toNat : Int)) ∧ w = w' := by
  have h := inverse_any c1 w
  rw [show (c1.toNat : Int) = 18397679294719823053 from by decide +kernel] at h
  exact h
theorem inverse_c2 (w : World) : Calls Try.prog 21 #[.int .u64 14181476777654086739] w fun e w' => e = .returned (.int .u64 ((invB c2).toNat : Int)) ∧ w = w' := by
  have h := inverse_any c2 w
  rw [show (c2.toNat : Int) = 14181476777654086739 from by decide +kernel] at h
  exact h

def unSt (x : BitVec 64) : Nat → BitVec 64
  | 0 => hx x
  | 1 => hx (hx x * invB c2)
  | _ => hx (hx (hx x * invB c2) * invB c1)
theorem unSt_0 (x : BitVec 64) : unSt x 0 = hx x := rfl
theorem unSt_1 (x : BitVec 64) : unSt x 1 = hx (unSt x 0 * invB c2) := rfl
theorem unSt_2 (x : BitVec 64) : unSt x 2 = hx (unSt x 1 * invB c1) := rfl
theorem unSt_un (x : BitVec 64) : unSt x 2 = unmixB x := rfl

set_option maxRecDepth 100000 in
set_option maxHeartbeats 1000000 in
theorem unmix_any (x : BitVec 64) (w : World) :
    Calls Try.prog 17 #[.int .u64 (x.toNat : Int)] w fun e w' => e = .returned (.int .u64 ((unmixB x).toNat : Int)) ∧ w = w' := by
  have i0 : ∀ w : World, (Instr.index 42 (.agg #[.int .u64 14181476777654086739, .int .u64 18397679294719823053]) (.int .i64 0)).run Try.prog w = .ok (.int .u64 14181476777654086739) w := fun _ => by kernel_rfl
  have i1 : ∀ w : World, (Instr.index 42 (.agg #[.int .u64 14181476777654086739, .int .u64 18397679294719823053]) (.int .i64 1)).run Try.prog w = .ok (.int .u64 18397679294719823053) w := fun _ => by kernel_rfl
  go_enter Try.func17, Try.ntmps17
  have e0 := hx_int x
  go_wp2
  go_loop [0, 10] (fun h i => ∃ k : Nat, k ≤ 2 ∧ i = .int .i64 k ∧ h = .int .u64 ((unSt x k).toNat : Int)) (fun _ i => 2 - (intOf i).toNat)
  case atStart => exact ⟨0, by omega, rfl, rfl⟩
  case round =>
    obtain ⟨k, hk, rfl, rfl⟩ := hrel
    clear e0
    have hk5 : k = 0 ∨ k = 1 ∨ k = 2 := by omega
    rcases hk5 with rfl | rfl | rfl
    · obtain ⟨z, hz⟩ : ∃ z, unSt x 0 * invB c2 = z := ⟨_, rfl⟩
      have e1 := unhx_int (unSt x 0) (invB c2)
      rw [hz] at e1
      have e2 := hx_int z
      have H1 := Lib.hid (unSt_1 x)
      have HZ := Lib.hid hz
      clear hz
      go_wp2_with (go_at_call 21; refine (inverse_c2 _).mono ?_; rintro e w' ⟨rfl, rfl⟩)
      exact ⟨⟨1, by omega, rfl, by rw [H1.out, HZ.out]⟩, by simp [intOf]⟩
    · obtain ⟨z, hz⟩ : ∃ z, unSt x 1 * invB c1 = z := ⟨_, rfl⟩
      have e1 := unhx_int (unSt x 1) (invB c1)
      rw [hz] at e1
      have e2 := hx_int z
      have H1 := Lib.hid (unSt_2 x)
      have HZ := Lib.hid hz
      clear hz
      go_wp2_with (go_at_call 21; refine (inverse_c1 _).mono ?_; rintro e w' ⟨rfl, rfl⟩)
      exact ⟨⟨2, by omega, rfl, by rw [H1.out, HZ.out]⟩, by simp [intOf]⟩
    · go_wp2
      go_ret
      exact ⟨ret_int (by rw [unSt_un]), rfl⟩
end Go.Proofs.Ytifdbjombgcfcaa
