/- The walks of hash.inverse, hash.Unmix and of the reference's Mix. -/
import Derived.Test.YtifdbjombgcfcaaDoorStMix
namespace Go.Proofs.YtifdbjombgcfcaaDoor
open Go.RowKit HashMath
set_option linter.unusedVariables false

set_option maxRecDepth 100000 in
set_option maxHeartbeats 1000000 in
theorem refmix_any (x : BitVec 64) (w : World) :
    Calls Tryd.prog 50 #[.int .u64 (x.toNat : Int)] w fun e w' => e = .returned (.int .u64 ((mixB x).toNat : Int)) ∧ w = w' := by
  obtain ⟨y, hy⟩ : ∃ y, hx x * c1 = y := ⟨_, rfl⟩
  obtain ⟨z, hz⟩ : ∃ z, hx y * c2 = z := ⟨_, rfl⟩
  have e1 := mul_c1 x
  have e2 := mul_c2 y
  have HM : Hid (hx z = mixB x) := Lib.hid (by rw [mixB, hy, hz])
  rw [hy] at e1
  rw [hz] at e2
  clear hy hz
  go_enter Tryd.func50, Tryd.ntmps50
  go_wp2
  go_ret
  refine ⟨ret_int ?_, rfl⟩
  rw [← HM.out]
  exact hx_int _

end Go.Proofs.YtifdbjombgcfcaaDoor
