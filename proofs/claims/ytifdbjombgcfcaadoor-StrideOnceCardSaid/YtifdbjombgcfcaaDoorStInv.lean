/- prime.Inverse of a number that has one. -/
import Derived.Test.YtifdbjombgcfcaaDoorPrimeRef
namespace Go.Proofs.YtifdbjombgcfcaaDoor
open Go.RowKit PrimeMath
set_option linter.unusedVariables false

set_option maxRecDepth 100000 in
set_option maxHeartbeats 1000000 in
theorem inv_ok (a : Int) (p q y : Nat) (hq : p - 2 = q) (hy : pw (rb a p) q p = y) (h : pI (p : Int) = true) (h1 : 2 ≤ p) (h2 : p ≤ 2147483648) (h0 : rb a p ≠ 0) (w : World) :
    Calls Tryd.prog 20 #[.int .i64 a, .int .i64 (p : Int)] w fun e w' => e = .returned (.tuple #[.int .i64 (y : Int), .nilIface]) ∧ w = w' := by
  have H1 : Hid (1 ≤ p) := Lib.hid (by omega)
  have H2 := Lib.hid h2
  have t1 : (2 : Int) ≤ (p : Int) := by omega
  have t2 : (p : Int) ≤ 2147483648 := by omega
  have hp3 : (p : Int) - 2 = (q : Int) := by omega
  have HQ : Hid (q < 9223372036854775808) := Lib.hid (by omega)
  obtain ⟨r, hr⟩ : ∃ r, rb a p = r := ⟨_, rfl⟩
  have hr0 : ((r : Int) == 0) = false := by rw [beq_eq_false_iff_ne]; omega
  have HRR : Hid (∀ w, Calls Tryd.prog 36 #[.int .i64 a, .int .i64 (p : Int)] w fun e w' => e = .returned (.int .i64 (r : Int)) ∧ w = w') := Lib.hid fun w => by have := rest_any a p (by omega) h2 w; rwa [hr] at this
  have HPW : Hid (∀ w, Calls Tryd.prog 11 #[.int .i64 a, .int .i64 (q : Int), .int .i64 (p : Int)] w fun e w' => e = .returned (.int .i64 ((pw (rb a p) q p : Nat) : Int)) ∧ w = w') := Lib.hid fun w => power_any a q p (by omega) h2 HQ w
  rw [hy] at HPW
  clear h1 h2 h0 hr hq hy
  go_enter Tryd.func20, Tryd.ntmps20
  go_wp2_with (first | (go_at_call 15; refine (is_any _ _).mono ?_; rintro e w' ⟨rfl, rfl⟩; rw [h]) | (go_at_call 36; refine (HRR.out _).mono ?_; rintro e w' ⟨rfl, rfl⟩) | (go_at_call 11; refine (HPW.out _).mono ?_; rintro e w' ⟨rfl, rfl⟩))
  go_ret2
  exact ⟨rfl, rfl⟩
end Go.Proofs.YtifdbjombgcfcaaDoor
