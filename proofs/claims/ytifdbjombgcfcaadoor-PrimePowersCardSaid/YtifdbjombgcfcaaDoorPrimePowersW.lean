/- The walk of the law PrimePowers. -/
import Derived.Test.YtifdbjombgcfcaaDoorPrimePow
namespace Go.Proofs.YtifdbjombgcfcaaDoor.primePowers
open Go.RowKit PrimeMath
set_option linter.unusedVariables false

set_option maxRecDepth 100000 in
set_option maxHeartbeats 1000000 in
theorem walk (a0 : Int) (a1 : Int) (a2 : Int) (w : World) (w0 : (Lit.int .i64 a0).wf = true) (w1 : (Lit.int .i64 a1).wf = true) (w2 : (Lit.int .i64 a2).wf = true) :
    Calls Tryd.prog 3 #[.int .i64 a0, .int .i64 a1, .int .i64 a2] w fun e w' => e = .returned (.bool true) ∧ Below w.heap.size w w' := by
  have K1 : Hid (a1 < 9223372036854775808) := Lib.hid (by
    simp [Lit.wf, IntKind.min, IntKind.max, IntKind.signed, IntKind.bits] at w1
    omega)
  clear w0 w1 w2
  by_cases h : a2 < 1 ∨ 2147483648 < a2 ∨ a1 < 0
  · have hp := fun w => power_out a0 a1 a2 h w
    have HP := Lib.hid hp; clear hp
    by_cases h1 : a2 < 1
    · clear h
      go_enter Tryd.func3, Tryd.ntmps3
      go_wp2_with (first | (go_at_call 10; refine (alive08_any _).mono ?_; rintro e w' ⟨rfl, rfl⟩) | (go_at_call 11; refine (HP.out _).mono ?_; rintro e w' ⟨rfl, rfl⟩))
      go_ret
      exact ⟨rfl, Below.refl _ _⟩
    by_cases h2 : 2147483648 < a2
    · have h3 : 1 ≤ a2 := by omega
      clear h h1
      go_enter Tryd.func3, Tryd.ntmps3
      go_wp2_with (first | (go_at_call 10; refine (alive08_any _).mono ?_; rintro e w' ⟨rfl, rfl⟩) | (go_at_call 11; refine (HP.out _).mono ?_; rintro e w' ⟨rfl, rfl⟩))
      go_ret
      exact ⟨rfl, Below.refl _ _⟩
    · have h3 : 1 ≤ a2 := by omega
      have h4 : a2 ≤ 2147483648 := by omega
      have h5 : a1 < 0 := by omega
      clear h h1 h2
      go_enter Tryd.func3, Tryd.ntmps3
      go_wp2_with (first | (go_at_call 10; refine (alive08_any _).mono ?_; rintro e w' ⟨rfl, rfl⟩) | (go_at_call 11; refine (HP.out _).mono ?_; rintro e w' ⟨rfl, rfl⟩))
      go_ret
      exact ⟨rfl, Below.refl _ _⟩
  · obtain ⟨p, rfl⟩ := Int.eq_ofNat_of_zero_le (show 0 ≤ a2 by omega)
    obtain ⟨k, rfl⟩ := Int.eq_ofNat_of_zero_le (show 0 ≤ a1 by omega)
    have h1 : 1 ≤ p := by omega
    have h2 : p ≤ 2147483648 := by omega
    have hk : Hid (k < 9223372036854775808) := Lib.hid (by have := K1.out; omega)
    have g1 : decide ((p : Int) < 1) = false := by simp; omega
    have g2 : decide (2147483648 < (p : Int)) = false := by simp; omega
    have g3 : decide ((k : Int) < 0) = false := by simp
    clear h K1
    go_enter Tryd.func3, Tryd.ntmps3
    go_wp2_with (first | (go_at_call 10; refine (alive08_any _).mono ?_; rintro e w' ⟨rfl, rfl⟩) | (go_at_call 11; refine (power_any a0 k p h1 h2 hk _).mono ?_; rintro e w' ⟨rfl, rfl⟩) | (go_at_call 12; refine (refpower_any a0 p h1 h2 k k _ (Nat.le_refl _) hk).mono ?_; rintro e w' ⟨rfl, rfl⟩))
    go_ret
    exact ⟨rfl, Below.refl _ _⟩
end Go.Proofs.YtifdbjombgcfcaaDoor.primePowers
