/- The walk of the law PrimeIs. -/
import Derived.Test.YtifdbjombgcfcaaDoorPrimeRef
import Derived.Test.YtifdbjombgcfcaaDoorLaid
namespace Go.Proofs.YtifdbjombgcfcaaDoor.primeIs
open Go.RowKit PrimeMath
set_option linter.unusedVariables false

set_option maxRecDepth 100000 in
theorem sents {w : World} (hL : laidMetH Tryd.prog Rows.primeIsRow.laid w) : ∃ adr, Sents w adr := by
  refine sents_of_laid hL (by kernel_rfl) (fun k => [0, 1, 2, 3, 4, 5, 6, 7, 8, 9, 10, 11, 12, 13, 14, 15, 16, 17].getD k 0) ?_ ?_
  · intro i j hi hj h
    have : ∀ i : Fin 18, ∀ j : Fin 18, [0, 1, 2, 3, 4, 5, 6, 7, 8, 9, 10, 11, 12, 13, 14, 15, 16, 17].getD i.1 0 = [0, 1, 2, 3, 4, 5, 6, 7, 8, 9, 10, 11, 12, 13, 14, 15, 16, 17].getD j.1 0 → i.1 = j.1 := by decide
    exact this ⟨i, hi⟩ ⟨j, hj⟩ h
  · intro k hk
    match k, hk with
    | 0, _ => exact ⟨_, _, 0, rfl, by kernel_rfl, by kernel_rfl, rfl⟩
    | 1, _ => exact ⟨_, _, 1, rfl, by kernel_rfl, by kernel_rfl, rfl⟩
    | 2, _ => exact ⟨_, _, 2, rfl, by kernel_rfl, by kernel_rfl, rfl⟩
    | 3, _ => exact ⟨_, _, 3, rfl, by kernel_rfl, by kernel_rfl, rfl⟩
    | 4, _ => exact ⟨_, _, 4, rfl, by kernel_rfl, by kernel_rfl, rfl⟩
    | 5, _ => exact ⟨_, _, 5, rfl, by kernel_rfl, by kernel_rfl, rfl⟩
    | 6, _ => exact ⟨_, _, 6, rfl, by kernel_rfl, by kernel_rfl, rfl⟩
    | 7, _ => exact ⟨_, _, 7, rfl, by kernel_rfl, by kernel_rfl, rfl⟩
    | 8, _ => exact ⟨_, _, 8, rfl, by kernel_rfl, by kernel_rfl, rfl⟩
    | 9, _ => exact ⟨_, _, 9, rfl, by kernel_rfl, by kernel_rfl, rfl⟩
    | 10, _ => exact ⟨_, _, 10, rfl, by kernel_rfl, by kernel_rfl, rfl⟩
    | 11, _ => exact ⟨_, _, 11, rfl, by kernel_rfl, by kernel_rfl, rfl⟩
    | 12, _ => exact ⟨_, _, 12, rfl, by kernel_rfl, by kernel_rfl, rfl⟩
    | 13, _ => exact ⟨_, _, 13, rfl, by kernel_rfl, by kernel_rfl, rfl⟩
    | 14, _ => exact ⟨_, _, 14, rfl, by kernel_rfl, by kernel_rfl, rfl⟩
    | 15, _ => exact ⟨_, _, 15, rfl, by kernel_rfl, by kernel_rfl, rfl⟩
    | 16, _ => exact ⟨_, _, 16, rfl, by kernel_rfl, by kernel_rfl, rfl⟩
    | 17, _ => exact ⟨_, _, 17, rfl, by kernel_rfl, by kernel_rfl, rfl⟩
    | n + 18, h => exact absurd h (by omega)

theorem pI_of {p : Nat} (h : isP p = true) (hp : p ≤ 2147483647) : pI (p : Int) = true := by rw [pI_nat p (by omega)]; exact h
theorem pI_of_not {p : Nat} (h : isP p = false) (hp : p ≤ 2147483647) : pI (p : Int) = false := by rw [pI_nat p (by omega)]; exact h

set_option maxRecDepth 100000 in
set_option maxHeartbeats 4000000 in
theorem walk (n : Int) (w : World) (w0 : (Lit.int .i64 n).wf = true) (hL : laidMetH Tryd.prog Rows.primeIsRow.laid w) :
    Calls Tryd.prog 5 #[.int .i64 n] w fun e w' => e = .returned (.bool true) ∧ Below w.heap.size w w' := by
  obtain ⟨adr, H⟩ := sents hL
  have HS := Lib.hid H
  clear H hL w0
  have HN : Hid (∀ w, Sents w adr → Calls Tryd.prog 19 #[errV adr 0] w fun e w' => e = .returned (.int .i64 1) ∧ Below w.heap.size w w') := Lib.hid fun w H => num_sent adr 0 (by decide) w H
  by_cases h1 : n < 2
  · have HL := Lib.hid fun w => least_low n h1 w
    have HX := Lib.hid fun w => next_any n (by omega) w
    have h2 : n < 2147483648 := by omega
    go_enter Tryd.func5, Tryd.ntmps5
    go_wp2_with (first | (go_at_call 10; refine (alive08_any _).mono ?_; rintro e w' ⟨rfl, rfl⟩) | (go_at_call 15; refine (is_any _ _).mono ?_; rintro e w' ⟨rfl, rfl⟩) | (go_at_call 14; refine (refis_any _ _).mono ?_; rintro e w' ⟨rfl, rfl⟩) | (go_at_call 17; refine (HL.out _).mono ?_; rintro e w' ⟨rfl, rfl⟩) | (go_at_call 18; refine (HX.out _).mono ?_; rintro e w' ⟨p, rfl, rfl, hp1, hp2, hp3, hpP, hpk⟩; have HPP := Lib.hid hpP; have HPK := Lib.hid hpk; have hpI := pI_of hpP hp3; clear hpP hpk))
    go_loop [7] (fun v => ∃ m : Nat, v = .int .i64 (m : Int) ∧ 2 ≤ m ∧ n ≤ (m : Int) ∧ m ≤ p) (fun v => p - (intOf v).toNat)
    case atStart => exact ⟨2, rfl, by omega, by omega, by omega⟩
    case round =>
      obtain ⟨m, rfl, hm2, hnm, hmp⟩ := hrel
      by_cases hlt : m < p
      · have hlt' : (m : Int) < (p : Int) := by omega
        have hmI : pI (m : Int) = false := pI_of_not (HPK.out m hm2 hnm hlt) (by omega)
        go_wp2_with (go_at_call 14; refine (refis_any _ _).mono ?_; rintro e w' ⟨rfl, rfl⟩)
        exact ⟨⟨m + 1, by go_num, by omega, by omega, by omega⟩, by simp [intOf]; omega⟩
      · obtain rfl : m = p := by omega
        clear hlt
        go_wp2_with fail
        go_ret
        exact ⟨rfl, Below.refl _ _⟩
  by_cases h3 : n ≤ 2147483648
  · obtain ⟨l, hl⟩ := Int.eq_ofNat_of_zero_le (show 0 ≤ n by omega)
    have k1 : 2 ≤ l := by omega
    have k2 : l ≤ 2147483648 := by omega
    obtain ⟨L, hL⟩ : ∃ L, lf l = L := ⟨_, rfl⟩
    have HL : Hid (∀ w, Calls Tryd.prog 17 #[.int .i64 n] w fun e w' => e = .returned (.int .i64 (L : Int)) ∧ w = w') := Lib.hid fun w => by rw [hl, ← hL]; exact least_any l k1 k2 w
    have HR : Hid (∀ w, Calls Tryd.prog 16 #[.int .i64 n] w fun e w' => e = .returned (.int .i64 (L : Int)) ∧ w = w') := Lib.hid fun w => by rw [hl, ← hL]; exact refleast_any l k1 k2 w
    by_cases h4 : n < 2147483648
    · have HX := Lib.hid fun w => next_any n h4 w
      have t1 : 2 ≤ n := by omega
      have t3 : 1 < n := by omega
      have HLN := Lib.hid hl
      have K1 := Lib.hid k1
      clear h1 hL hl k1 k2
      go_enter Tryd.func5, Tryd.ntmps5
      go_wp2_with (first | (go_at_call 10; refine (alive08_any _).mono ?_; rintro e w' ⟨rfl, rfl⟩) | (go_at_call 15; refine (is_any _ _).mono ?_; rintro e w' ⟨rfl, rfl⟩) | (go_at_call 14; refine (refis_any _ _).mono ?_; rintro e w' ⟨rfl, rfl⟩) | (go_at_call 17; refine (HL.out _).mono ?_; rintro e w' ⟨rfl, rfl⟩) | (go_at_call 16; refine (HR.out _).mono ?_; rintro e w' ⟨rfl, rfl⟩) | (go_at_call 18; refine (HX.out _).mono ?_; rintro e w' ⟨p, rfl, rfl, hp1, hp2, hp3, hpP, hpk⟩; have HPP := Lib.hid hpP; have HPK := Lib.hid hpk; have hpI := pI_of hpP hp3; clear hpP hpk))
      go_loop [7] (fun v => ∃ m : Nat, v = .int .i64 (m : Int) ∧ 2 ≤ m ∧ n ≤ (m : Int) ∧ m ≤ p) (fun v => p - (intOf v).toNat)
      case atStart => exact ⟨l, by rw [HLN.out], K1.out, by rw [HLN.out]; exact Int.le_refl _, by have := HLN.out; omega⟩
      case round =>
        obtain ⟨m, rfl, hm2, hnm, hmp⟩ := hrel
        by_cases hlt : m < p
        · have hlt' : (m : Int) < (p : Int) := by omega
          have hmI : pI (m : Int) = false := pI_of_not (HPK.out m hm2 hnm hlt) (by omega)
          go_wp2_with (go_at_call 14; refine (refis_any _ _).mono ?_; rintro e w' ⟨rfl, rfl⟩)
          exact ⟨⟨m + 1, by go_num, by omega, by omega, by omega⟩, by simp [intOf]; omega⟩
        · obtain rfl : m = p := by omega
          clear hlt
          go_wp2_with fail
          go_ret
          exact ⟨rfl, Below.refl _ _⟩
    · have HX := Lib.hid fun w H => next_high adr n (by omega) w H
      obtain rfl : n = 2147483648 := by omega
      clear h1 h3 h4 hL hl k1 k2
      go_enter Tryd.func5, Tryd.ntmps5
      go_wp2_with (first | (go_at_call 10; refine (alive08_any _).mono ?_; rintro e w' ⟨rfl, rfl⟩) | (go_at_call 15; refine (is_any _ _).mono ?_; rintro e w' ⟨rfl, rfl⟩) | (go_at_call 14; refine (refis_any _ _).mono ?_; rintro e w' ⟨rfl, rfl⟩) | (go_at_call 17; refine (HL.out _).mono ?_; rintro e w' ⟨rfl, rfl⟩) | (go_at_call 16; refine (HR.out _).mono ?_; rintro e w' ⟨rfl, rfl⟩) | (go_at_call 18; refine (HX.out _ HS.out).mono ?_; rintro e w' ⟨rfl, k, rfl⟩) | (go_at_call 19; refine (HN.out _ (HS.out.drewN k)).mono ?_; rintro e w2 ⟨rfl, hb2⟩))
      go_ret
      exact ⟨rfl, (drewN_below _ _ _).trans (hb2.mono (Nat.le_refl _))⟩
  · have HX := Lib.hid fun w H => next_high adr n (by omega) w H
    have HL := Lib.hid fun w => least_high n (by omega) w
    have t1 : 2147483648 < n := by omega
    have g2 : decide (n ≤ 2147483648) = false := by simp; omega
    clear h1 h3
    go_enter Tryd.func5, Tryd.ntmps5
    go_wp2_with (first | (go_at_call 10; refine (alive08_any _).mono ?_; rintro e w' ⟨rfl, rfl⟩) | (go_at_call 15; refine (is_any _ _).mono ?_; rintro e w' ⟨rfl, rfl⟩) | (go_at_call 14; refine (refis_any _ _).mono ?_; rintro e w' ⟨rfl, rfl⟩) | (go_at_call 17; refine (HL.out _).mono ?_; rintro e w' ⟨rfl, rfl⟩) | (go_at_call 18; refine (HX.out _ HS.out).mono ?_; rintro e w' ⟨rfl, k, rfl⟩) | (go_at_call 19; refine (HN.out _ (HS.out.drewN k)).mono ?_; rintro e w2 ⟨rfl, hb2⟩))
    go_ret
    exact ⟨rfl, (drewN_below _ _ _).trans (hb2.mono (Nat.le_refl _))⟩
end Go.Proofs.YtifdbjombgcfcaaDoor.primeIs
