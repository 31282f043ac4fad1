/- The walk of the law HashBytes. -/
import Derived.Test.YtifdbjombgcfcaaHashOf
import Derived.Test.YtifdbjombgcfcaaNum
namespace Go.Proofs.Ytifdbjombgcfcaa.hashBytes
open Go.RowKit HashMath
set_option linter.unusedVariables false

set_option maxRecDepth 100000 in
set_option maxHeartbeats 1000000 in
theorem walk (a0 : Option Addr) (len0 cap0 : Nat) (z0 : List Int) (a1 : Int) (a2 : Int) (w : World) (w0 : IsRow .u8 w a0 len0 cap0 z0) (w1 : (Lit.int .u64 a1).wf = true) (w2 : (Lit.int .i64 a2).wf = true) :
    Calls Try.prog 4 #[.slice a0 len0 cap0, .int .u64 a1, .int .i64 a2] w fun e w' => e = .returned (.bool true) ∧ Below w.heap.size w w' := by
  obtain ⟨l, hn, hc, hnone, hlc, hcm⟩ := bytes_of_row w0
  obtain ⟨x, rfl⟩ := of_wf w1
  have hb2 : -9223372036854775808 ≤ a2 ∧ a2 < 9223372036854775808 := by
    simp [Lit.wf, IntKind.min, IntKind.max, IntKind.signed, IntKind.bits] at w2
    omega
  obtain ⟨k1, k2⟩ := hb2
  unfold maxLen at hcm
  have HN := Lib.hid hn; clear hn w0 w1 w2
  by_cases hlen : 1000 < len0
  · go_enter Try.func4, Try.ntmps4
    go_wp2_with (go_at_call 7; refine (alive_any _).mono ?_; rintro e w' ⟨rfl, rfl⟩)
    go_ret
    exact ⟨rfl, Below.refl _ _⟩
  · obtain ⟨H, hH⟩ : ∃ H, mixB (fnv (fnv 14695981039346656037#64 (seedBytes x)) l) = H := ⟨_, rfl⟩
    have HH := Lib.hid hH; clear hH
    have K1 := Lib.hid k1
    have K2 := Lib.hid k2
    clear k1 k2
    by_cases hn1 : a2 < 1
    · go_enter Try.func4, Try.ntmps4
      go_wp2_with (first | (go_at_call 7; refine (alive_any _).mono ?_; rintro e w' ⟨rfl, rfl⟩) | (go_at_call 9; refine (numBytes_any a0 len0 cap0 l _ HN.out (by omega) hnone hc).mono ?_; rintro e w1 ⟨b, rfl, hb0, hb1, hcm1⟩; have hc1 := Lib.hid (hc.below hb1 rfl); have HM1 := Lib.hid hcm1; clear hcm1) | (go_at_call 10; refine (of_opaque x H _ _ _ l _ HH HN.out (by omega) HM1.out.left).mono ?_; rintro e w2 ⟨rfl, hb2⟩; have hc2 := Lib.hid (hc1.out.below hb2 rfl); have HM2 := Lib.hid (HM1.out.below hb2 rfl)) | (go_at_call 11; refine (belowB_lt H _ hn1 _).mono ?_; rintro e w' ⟨rfl, rfl⟩) | (go_at_call 12; refine (plain_cells _ _ _ l _ HN.out (by omega) HM2.out.left).mono ?_; rintro e w' ⟨rfl, rfl⟩) | (go_at_call 13; refine (refplain_cells _ _ _ l _ HN.out (by omega) hc2.out).mono ?_; rintro e w' ⟨rfl, rfl⟩) | (go_at_call 14; refine (refof_opaque x H _ _ _ l _ HH HN.out (by omega) hnone hc2.out).mono ?_; rintro e w3 ⟨rfl, hb3⟩; have hc3 := Lib.hid (hc2.out.below hb3 rfl); have HM3 := Lib.hid (HM2.out.below hb3 rfl)) | (go_at_call 15; refine (kept_any b len0 cap0 a0 l _ HN.out (by omega) hnone hc3.out HM3.out).mono ?_; rintro e w4 ⟨rfl, nk, rfl⟩))
      go_ret
      exact ⟨rfl, hb1.trans ((hb2.mono hb1.size).trans (((hb3.mono (Nat.le_trans hb1.size hb2.size))).trans (drewN_below _ _ _)))⟩
    · have h1 : 0 ≤ (H.toNat : Int) % a2 := Int.emod_nonneg _ (by omega)
      have h2 : (H.toNat : Int) % a2 < a2 := Int.emod_lt_of_pos _ (by omega)
      have hn2 : 1 ≤ a2 := by omega
      have e1 : IntKind.u64.wrap a2 = a2 := by rw [wrap_u64]; exact Int.emod_eq_of_lt (by omega) (by have := K2.out; omega)
      have e2 : IntKind.u64.wrap ((H.toNat : Int) % a2) = (H.toNat : Int) % a2 := by rw [wrap_u64]; exact Int.emod_eq_of_lt h1 (by have := K2.out; omega)
      have e3 : decide ((H.toNat : Int) % a2 < 0) = false := by simp; omega
      have e4 : decide (a2 ≤ (H.toNat : Int) % a2) = false := by simp; omega
      go_enter Try.func4, Try.ntmps4
      go_wp2_with (first | (go_at_call 7; refine (alive_any _).mono ?_; rintro e w' ⟨rfl, rfl⟩) | (go_at_call 9; refine (numBytes_any a0 len0 cap0 l _ HN.out (by omega) hnone hc).mono ?_; rintro e w1 ⟨b, rfl, hb0, hb1, hcm1⟩; have hc1 := Lib.hid (hc.below hb1 rfl); have HM1 := Lib.hid hcm1; clear hcm1) | (go_at_call 10; refine (of_opaque x H _ _ _ l _ HH HN.out (by omega) HM1.out.left).mono ?_; rintro e w2 ⟨rfl, hb2⟩; have hc2 := Lib.hid (hc1.out.below hb2 rfl); have HM2 := Lib.hid (HM1.out.below hb2 rfl)) | (go_at_call 11; refine (belowB_ge H _ hn2 K2 _).mono ?_; rintro e w' ⟨rfl, rfl⟩) | (go_at_call 12; refine (plain_cells _ _ _ l _ HN.out (by omega) HM2.out.left).mono ?_; rintro e w' ⟨rfl, rfl⟩) | (go_at_call 13; refine (refplain_cells _ _ _ l _ HN.out (by omega) hc2.out).mono ?_; rintro e w' ⟨rfl, rfl⟩) | (go_at_call 14; refine (refof_opaque x H _ _ _ l _ HH HN.out (by omega) hnone hc2.out).mono ?_; rintro e w3 ⟨rfl, hb3⟩; have hc3 := Lib.hid (hc2.out.below hb3 rfl); have HM3 := Lib.hid (HM2.out.below hb3 rfl)) | (go_at_call 15; refine (kept_any b len0 cap0 a0 l _ HN.out (by omega) hnone hc3.out HM3.out).mono ?_; rintro e w4 ⟨rfl, nk, rfl⟩))
      go_ret
      exact ⟨rfl, hb1.trans ((hb2.mono hb1.size).trans (((hb3.mono (Nat.le_trans hb1.size hb2.size))).trans (drewN_below _ _ _)))⟩
end Go.Proofs.Ytifdbjombgcfcaa.hashBytes
