/- The walk of the law SumsChange. -/
import Derived.Test.YtilhioiocfllhaaSumsChange
namespace Go.Proofs.Ytilhioiocfllhaa.sumsChange
open Go.RowKit SumsMath
set_option linter.unusedVariables false

set_option maxHeartbeats 2000000 in
theorem walk (a0 : Int) (a1 : Int) (a2 : Int) (w : World) (w0 : (Lit.int .i64 a0).wf = true) (w1 : (Lit.int .i64 a1).wf = true) (w2 : (Lit.int .i64 a2).wf = true) :
    Calls Try.prog 4 #[.int .i64 a0, .int .i64 a1, .int .i64 a2] w fun e w' => e = .returned (.bool true) ∧ Below w.heap.size w w' := by
  clear w0 w1 w2
  go_enter Try.func4, Try.ntmps4
  go_wp2_with (first | (go_at_call 7; refine (alive06_any _).mono ?_; rintro e w0 ⟨rfl, hb0⟩) | (go_at_call 16; refine (change_any _ _ _ _).mono ?_; rintro e w' ⟨rfl, rfl⟩) | (go_at_call 17; refine (refchange_any _ _ _ _).mono ?_; rintro e w' ⟨rfl, rfl⟩) | (go_at_call 18; refine (same_any _ _ _).mono ?_; rintro e w' ⟨rfl, rfl⟩) | (go_at_call 19; refine (refsame_any _ _ _).mono ?_; rintro e w' ⟨rfl, rfl⟩))
  go_ret
  exact ⟨ret_bool (by simp), hb0⟩
end Go.Proofs.Ytilhioiocfllhaa.sumsChange
