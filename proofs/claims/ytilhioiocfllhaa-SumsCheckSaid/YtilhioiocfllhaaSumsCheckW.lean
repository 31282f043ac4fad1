/- The walk of the law SumsCheck. -/
import Derived.Test.YtilhioiocfllhaaSumsFold
import Derived.Test.YtilhioiocfllhaaNum
namespace Go.Proofs.Ytilhioiocfllhaa.sumsCheck
open Go.RowKit SumsMath
set_option linter.unusedVariables false

set_option maxRecDepth 100000 in
set_option maxHeartbeats 2000000 in
theorem walk (a0 : Option Addr) (len0 cap0 : Nat) (z0 : List Int) (a1 : Int) (w : World) (w0 : IsRow .u8 w a0 len0 cap0 z0) (w1 : (Lit.int .i64 a1).wf = true) :
    Calls Try.prog 3 #[.slice a0 len0 cap0, .int .i64 a1] w fun e w' => e = .returned (.bool true) ∧ Below w.heap.size w w' := by
  obtain ⟨l, hn, hc, hnone, hlc, hcm⟩ := bytes_of_row w0
  have K2 : Hid (a1 < 9223372036854775808) := Lib.hid (by
    simp [Lit.wf, IntKind.min, IntKind.max, IntKind.signed, IntKind.bits] at w1
    omega)
  have HN := Lib.hid hn
  have hl : l.length ≤ len0 := by omega
  clear hn w0 w1 hcm
  by_cases hlen : 2000 < len0
  · go_enter Try.func3, Try.ntmps3
    go_wp2_with (go_at_call 7; refine (alive06_any _).mono ?_; rintro e w0 ⟨rfl, hb0⟩)
    go_ret
    exact ⟨rfl, hb0⟩
  · have htb := tot_bd l
    by_cases h1 : a1 < 0
    · have hcl : cl a1 = 0 := by unfold cl; rw [if_pos h1]
      go_enter Try.func3, Try.ntmps3
      go_wp2_with (first | (go_at_call 7; refine (alive06_any _).mono ?_; rintro e w0 ⟨rfl, hb0⟩; have hc0 := Lib.hid (hc.below hb0 rfl)) | (go_at_call 8; refine (numBytes_any a0 len0 cap0 l _ HN.out (by omega) hnone hc0.out).mono ?_; rintro e w1 ⟨b, rfl, hbb, hb1, hcm1⟩; have hc1 := Lib.hid (hc0.out.below hb1 rfl); have HM1 := Lib.hid hcm1; clear hcm1) | (go_at_call 9; refine (check_cells _ len0 (len0 + 6) l _ HN.out (by omega) (by omega) (by omega) HM1.out.left).mono ?_; rintro e w2 ⟨rfl, hb2⟩; have hc2 := Lib.hid (hc1.out.below hb2 rfl); have HM2 := Lib.hid (HM1.out.below hb2 rfl)) | (go_at_call 10; refine (refcheck_cells _ _ _ l _ HN.out (by omega) hc2.out).mono ?_; rintro e w' ⟨rfl, rfl⟩) | (go_at_call 11; refine (add_cells _ _ len0 (len0 + 6) l _ HN.out (by omega) (by omega) (by omega) HM2.out.left).mono ?_; rintro e w3 ⟨rfl, hb3⟩; have hc3 := Lib.hid (hc2.out.below hb3 rfl); have HM3 := Lib.hid (HM2.out.below hb3 rfl)) | (go_at_call 12; refine (reftotal_cells _ _ _ l _ HN.out (by omega) hc3.out).mono ?_; rintro e w' ⟨rfl, rfl⟩) | (go_at_call 13; refine (fold_any _ K2 _).mono ?_; rintro e w' ⟨rfl, rfl⟩) | (go_at_call 14; refine (reffold_any _ K2 _).mono ?_; rintro e w' ⟨rfl, rfl⟩) | (go_at_call 15; refine (kept_any b len0 cap0 a0 l _ HN.out (by omega) hnone hc3.out HM3.out).mono ?_; rintro e w4 ⟨rfl, nk, rfl⟩))
      go_ret
      exact ⟨rfl, hb0.trans ((hb1.mono hb0.size).trans ((hb2.mono (Nat.le_trans hb0.size hb1.size)).trans ((hb3.mono (Nat.le_trans hb0.size (Nat.le_trans hb1.size hb2.size))).trans (drewN_below _ _ _))))⟩
    by_cases h2 : 1099511627776 < a1
    · have hcl : cl a1 = 1099511627776 := by unfold cl; rw [if_neg (by omega), if_pos h2]
      go_enter Try.func3, Try.ntmps3
      go_wp2_with (first | (go_at_call 7; refine (alive06_any _).mono ?_; rintro e w0 ⟨rfl, hb0⟩; have hc0 := Lib.hid (hc.below hb0 rfl)) | (go_at_call 8; refine (numBytes_any a0 len0 cap0 l _ HN.out (by omega) hnone hc0.out).mono ?_; rintro e w1 ⟨b, rfl, hbb, hb1, hcm1⟩; have hc1 := Lib.hid (hc0.out.below hb1 rfl); have HM1 := Lib.hid hcm1; clear hcm1) | (go_at_call 9; refine (check_cells _ len0 (len0 + 6) l _ HN.out (by omega) (by omega) (by omega) HM1.out.left).mono ?_; rintro e w2 ⟨rfl, hb2⟩; have hc2 := Lib.hid (hc1.out.below hb2 rfl); have HM2 := Lib.hid (HM1.out.below hb2 rfl)) | (go_at_call 10; refine (refcheck_cells _ _ _ l _ HN.out (by omega) hc2.out).mono ?_; rintro e w' ⟨rfl, rfl⟩) | (go_at_call 11; refine (add_cells _ _ len0 (len0 + 6) l _ HN.out (by omega) (by omega) (by omega) HM2.out.left).mono ?_; rintro e w3 ⟨rfl, hb3⟩; have hc3 := Lib.hid (hc2.out.below hb3 rfl); have HM3 := Lib.hid (HM2.out.below hb3 rfl)) | (go_at_call 12; refine (reftotal_cells _ _ _ l _ HN.out (by omega) hc3.out).mono ?_; rintro e w' ⟨rfl, rfl⟩) | (go_at_call 13; refine (fold_any _ K2 _).mono ?_; rintro e w' ⟨rfl, rfl⟩) | (go_at_call 14; refine (reffold_any _ K2 _).mono ?_; rintro e w' ⟨rfl, rfl⟩) | (go_at_call 15; refine (kept_any b len0 cap0 a0 l _ HN.out (by omega) hnone hc3.out HM3.out).mono ?_; rintro e w4 ⟨rfl, nk, rfl⟩))
      go_ret
      exact ⟨rfl, hb0.trans ((hb1.mono hb0.size).trans ((hb2.mono (Nat.le_trans hb0.size hb1.size)).trans ((hb3.mono (Nat.le_trans hb0.size (Nat.le_trans hb1.size hb2.size))).trans (drewN_below _ _ _))))⟩
    · have hcl : cl a1 = a1 := by unfold cl; rw [if_neg (by omega), if_neg (by omega)]
      have h3 : 0 ≤ a1 := by omega
      have h4 : a1 ≤ 1099511627776 := by omega
      go_enter Try.func3, Try.ntmps3
      go_wp2_with (first | (go_at_call 7; refine (alive06_any _).mono ?_; rintro e w0 ⟨rfl, hb0⟩; have hc0 := Lib.hid (hc.below hb0 rfl)) | (go_at_call 8; refine (numBytes_any a0 len0 cap0 l _ HN.out (by omega) hnone hc0.out).mono ?_; rintro e w1 ⟨b, rfl, hbb, hb1, hcm1⟩; have hc1 := Lib.hid (hc0.out.below hb1 rfl); have HM1 := Lib.hid hcm1; clear hcm1) | (go_at_call 9; refine (check_cells _ len0 (len0 + 6) l _ HN.out (by omega) (by omega) (by omega) HM1.out.left).mono ?_; rintro e w2 ⟨rfl, hb2⟩; have hc2 := Lib.hid (hc1.out.below hb2 rfl); have HM2 := Lib.hid (HM1.out.below hb2 rfl)) | (go_at_call 10; refine (refcheck_cells _ _ _ l _ HN.out (by omega) hc2.out).mono ?_; rintro e w' ⟨rfl, rfl⟩) | (go_at_call 11; refine (add_cells _ _ len0 (len0 + 6) l _ HN.out (by omega) (by omega) (by omega) HM2.out.left).mono ?_; rintro e w3 ⟨rfl, hb3⟩; have hc3 := Lib.hid (hc2.out.below hb3 rfl); have HM3 := Lib.hid (HM2.out.below hb3 rfl)) | (go_at_call 12; refine (reftotal_cells _ _ _ l _ HN.out (by omega) hc3.out).mono ?_; rintro e w' ⟨rfl, rfl⟩) | (go_at_call 13; refine (fold_any _ K2 _).mono ?_; rintro e w' ⟨rfl, rfl⟩) | (go_at_call 14; refine (reffold_any _ K2 _).mono ?_; rintro e w' ⟨rfl, rfl⟩) | (go_at_call 15; refine (kept_any b len0 cap0 a0 l _ HN.out (by omega) hnone hc3.out HM3.out).mono ?_; rintro e w4 ⟨rfl, nk, rfl⟩))
      go_ret
      exact ⟨rfl, hb0.trans ((hb1.mono hb0.size).trans ((hb2.mono (Nat.le_trans hb0.size hb1.size)).trans ((hb3.mono (Nat.le_trans hb0.size (Nat.le_trans hb1.size hb2.size))).trans (drewN_below _ _ _))))⟩
end Go.Proofs.Ytilhioiocfllhaa.sumsCheck
