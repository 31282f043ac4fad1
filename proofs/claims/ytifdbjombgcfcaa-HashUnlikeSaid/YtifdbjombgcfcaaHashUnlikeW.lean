/- The walk of the law HashUnlike. -/
import Derived.Test.YtifdbjombgcfcaaHashMix
import Derived.RowKit3
import Derived.Deep.QuietTactic
import Derived.BigQuiet
namespace Go.Proofs.Ytifdbjombgcfcaa.hashUnlike
open Go.RowKit HashMath

set_option maxHeartbeats 1000000 in
theorem walk (a0 : Int) (a1 : Int) (w0 : (Lit.int .u64 a0).wf = true) (w1 : (Lit.int .u64 a1).wf = true) (w : World) :
    Calls Try.prog 3 #[.int .u64 a0, .int .u64 a1] w fun e w' => e = .returned (.bool true) ∧ Grown w w' := by
  obtain ⟨x, rfl⟩ := of_wf w0
  obtain ⟨y, rfl⟩ := of_wf w1
  go_enter Try.func3, Try.ntmps3
  go_wp2_with (first | (go_at_call 7; refine (alive_any _).mono ?_; rintro e w' ⟨rfl, rfl⟩) | (go_at_call 8; refine (mix_any _ _).mono ?_; rintro e w' ⟨rfl, rfl⟩))
  go_ret
  exact ⟨ret_bool (unlike x y), Grown.refl _⟩
end Go.Proofs.Ytifdbjombgcfcaa.hashUnlike
