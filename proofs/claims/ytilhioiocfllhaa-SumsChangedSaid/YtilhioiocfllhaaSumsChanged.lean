/- The walks of sums.Changed and of the reference's. -/
import Derived.Test.YtilhioiocfllhaaSumsChange
namespace Go.Proofs.Ytilhioiocfllhaa
open Go.RowKit SumsMath
set_option linter.unusedVariables false

theorem Cells.drop {w : World} {b off : Nat} {l : List UInt8} (h : Cells w (some ⟨b, off, none⟩) l) (k : Nat) : Cells w (some ⟨b, off + k, none⟩) (l.drop k) := by
  refine .inr ⟨b, off + k, rfl, fun i hi => ?_⟩
  have h1 := h.at (k + i) (by simp at hi; omega)
  rw [← Nat.add_assoc] at h1
  rw [h1]
  simp [List.getD]

theorem quiet_shift {P : Program} {f : Nat} {args : Array Value} {w : World} {q x : Nat} {v : Value} (h : Calls P f args (w.drewN (q + x)) fun e w' => e = .returned v ∧ w' = w.drewN (q + x)) :
    Calls P f args (w.drewN (q + x)) fun e w' => e = .returned v ∧ ∃ n, w' = w.drewN (q + n) := h.mono fun _ _ ⟨he, hw⟩ => ⟨he, x, hw⟩
set_option maxRecDepth 100000 in
set_option maxHeartbeats 2000000 in
theorem changed_some (c : Int) (b1 o1 c1 b2 o2 c2 n : Nat) (l1 l2 : List UInt8) (w : World) (h1 : l1.length = n) (h2 : l2.length = n) (hn : n ≤ 1000000) (hc1 : n ≤ c1) (hc2 : n ≤ c2) (hM1 : c1 ≤ 9223372036854775807) (hM2 : c2 ≤ 9223372036854775807) (hC1 : Cells w (some ⟨b1, o1, none⟩) l1) (hC2 : Cells w (some ⟨b2, o2, none⟩) l2) :
    Calls Try.prog 20 #[.int .i64 c, .slice (some ⟨b1, o1, none⟩) n c1, .slice (some ⟨b2, o2, none⟩) n c2] w fun e w' => e = .returned (.int .i64 (chgs c l1 l2 ((n + 1) / 2))) ∧ ∃ k, w' = w.drewN k := by
  have e1 := and_any c
  have H1 := Lib.hid h1
  have H2 := Lib.hid h2
  have HC1 := Lib.hid hC1
  have HC2 := Lib.hid hC2
  clear h1 h2 hC1 hC2
  go_enter Try.func20, Try.ntmps20
  go_wp2_with fail
  go_loopw [0, 7] (fun g i wr => ∃ k : Nat, 2 * k ≤ n + 1 ∧ i = .int .i64 (2 * (k : Int)) ∧ g = .int .i64 (chgs c l1 l2 k) ∧ ∃ q, wr = w.drewN q) (fun _ i _ => (n + 2 - (intOf i).toNat))
  case atStart => exact ⟨0, by omega, rfl, rfl, 0, rfl⟩
  case round =>
    obtain ⟨k, hk, rfl, rfl, q, rfl⟩ := hrel
    clear e1
    by_cases hlt : 2 * k < n
    · have t1 : 2 * (k : Int) < (n : Int) := by omega
      have t2 : 2 * (k : Int) ≤ (n : Int) := by omega
      have n1 : ¬ c1 = 2 * k := by omega
      have n2 : ¬ c2 = 2 * k := by omega
      have HP1 : Hid (∀ w' : World, (∃ q, w' = w.drewN q) → Calls Try.prog 25 #[.slice (some ⟨b1, o1 + 2 * k, none⟩) (n - 2 * k) (c1 - 2 * k)] w' fun e w'' => e = .returned (.int .i64 (pairV (l1.drop (2 * k)))) ∧ w'' = w') := Lib.hid fun w' ⟨q, hq⟩ => by
        subst hq
        exact (pair_cells b1 (o1 + 2 * k) (n - 2 * k) (c1 - 2 * k) (l1.drop (2 * k)) _ (by rw [List.length_drop, H1.out]) (by omega) ((HC1.out.drewN q).drop (2 * k))).mono fun _ _ ⟨he, hw⟩ => ⟨he, hw.symm⟩
      have HP2 : Hid (∀ w' : World, (∃ q, w' = w.drewN q) → Calls Try.prog 25 #[.slice (some ⟨b2, o2 + 2 * k, none⟩) (n - 2 * k) (c2 - 2 * k)] w' fun e w'' => e = .returned (.int .i64 (pairV (l2.drop (2 * k)))) ∧ w'' = w') := Lib.hid fun w' ⟨q, hq⟩ => by
        subst hq
        exact (pair_cells b2 (o2 + 2 * k) (n - 2 * k) (c2 - 2 * k) (l2.drop (2 * k)) _ (by rw [List.length_drop, H2.out]) (by omega) ((HC2.out.drewN q).drop (2 * k))).mono fun _ _ ⟨he, hw⟩ => ⟨he, hw.symm⟩
      have HG : Hid (chg (chgs c l1 l2 k) (pairV (l1.drop (2 * k))) (pairV (l2.drop (2 * k))) = chgs c l1 l2 (k + 1)) := rfl
      go_wp2_with fail
      go_quiet ((first | (go_at_call 25; with_reducible refine quiet_shift (HP1.out _ ?_); exact ⟨_, rfl⟩) | (go_at_call 25; with_reducible refine quiet_shift (HP2.out _ ?_); exact ⟨_, rfl⟩) | (go_at_call 16; with_reducible refine quiet_shift ((change_any _ _ _ _).mono fun _ _ ⟨he, hw⟩ => ⟨he, hw.symm⟩))))
      go_wp2_with fail
      exact ⟨⟨k + 1, by omega, by go_num, by rw [← HG.out], _, rfl⟩, by simp [intOf]; omega⟩
    · obtain rfl : k = (n + 1) / 2 := by omega
      have t1 : ¬ 2 * (((n + 1) / 2 : Nat) : Int) < (n : Int) := by omega
      go_wp2_with fail
      go_ret
      exact ⟨rfl, q, rfl⟩

set_option maxRecDepth 100000 in
set_option maxHeartbeats 2000000 in
theorem changed_zero (c : Int) (a1 a2 : Option Addr) (c1 c2 : Nat) (l1 l2 : List UInt8) (w : World) :
    Calls Try.prog 20 #[.int .i64 c, .slice a1 0 c1, .slice a2 0 c2] w fun e w' => e = .returned (.int .i64 (chgs c l1 l2 0)) ∧ ∃ k, w' = w.drewN k := by
  have e1 := and_any c
  go_enter Try.func20, Try.ntmps20
  go_wp2_with fail
  go_loopw [0, 7] (fun g i wr => i = .int .i64 0 ∧ g = .int .i64 (low c) ∧ wr = w) (fun _ i _ => 0)
  case atStart => exact ⟨rfl, rfl, rfl⟩
  case round =>
    obtain ⟨rfl, rfl, rfl⟩ := hrel
    clear e1
    go_wp2_with fail
    go_ret
    exact ⟨rfl, 0, rfl⟩
theorem changed_any (c : Int) (a1 a2 : Option Addr) (c1 c2 n : Nat) (l1 l2 : List UInt8) (w : World) (h1 : l1.length = n) (h2 : l2.length = n) (hn : n ≤ 1000000) (hc1 : n ≤ c1) (hc2 : n ≤ c2) (hM1 : c1 ≤ 9223372036854775807) (hM2 : c2 ≤ 9223372036854775807) (hC1 : Cells w a1 l1) (hC2 : Cells w a2 l2) :
    Calls Try.prog 20 #[.int .i64 c, .slice a1 n c1, .slice a2 n c2] w fun e w' => e = .returned (.int .i64 (chgs c l1 l2 ((n + 1) / 2))) ∧ ∃ k, w' = w.drewN k := by
  rcases Nat.eq_zero_or_pos n with hz | hz
  · subst hz
    exact changed_zero c a1 a2 c1 c2 l1 l2 w
  · rcases hC1 with hn1 | ⟨b1, o1, rfl, hb1⟩
    · rw [hn1] at h1; simp at h1; omega
    · rcases hC2 with hn2 | ⟨b2, o2, rfl, hb2⟩
      · rw [hn2] at h2; simp at h2; omega
      · exact changed_some c b1 o1 c1 b2 o2 c2 n l1 l2 w h1 h2 hn hc1 hc2 hM1 hM2 (.inr ⟨b1, o1, rfl, hb1⟩) (.inr ⟨b2, o2, rfl, hb2⟩)

set_option maxHeartbeats 1000000 in
theorem refpair_some (b off n c i : Nat) (l : List UInt8) (w : World) (hn : l.length = n) (hnm : n ≤ 1000000) (hi : i < n) (hc : Cells w (some ⟨b, off, none⟩) l) :
    Calls Try.prog 27 #[.slice (some ⟨b, off, none⟩) n c, .int .i64 (i : Int)] w fun e w' => e = .returned (.int .i64 (pairV (l.drop i))) ∧ w = w' := by
  have h0 := hc.at i (by omega)
  have hp := pairV_drop l i
  rw [hn, if_pos hi] at hp
  have ht1 : (i : Int) < (n : Int) := by omega
  by_cases h : i + 1 < n
  · have h1 := hc.at (i + 1) (by omega)
    rw [if_pos h] at hp
    have ht2 : (i : Int) + 1 < (n : Int) := by omega
    have HP := Lib.hid hp
    have hb1 := (l.getD i 0).toNat_lt
    have hb2 := (l.getD (i + 1) 0).toNat_lt
    obtain ⟨x, hx⟩ : ∃ x, (l.getD i 0).toNat = x := ⟨_, rfl⟩
    obtain ⟨y, hy⟩ : ∃ x, (l.getD (i + 1) 0).toNat = x := ⟨_, rfl⟩
    rw [hx] at h0 hb1
    rw [hy] at h1 hb2
    have HX := Lib.hid hx
    have HY := Lib.hid hy
    clear hx hy hp hc hn
    go_enter Try.func27, Try.ntmps27
    go_wp2_with fail
    go_ret
    exact ⟨ret_int (by rw [HP.out, HX.out, HY.out]), rfl⟩
  · rw [if_neg h] at hp
    have ht2 : ¬ (i : Int) + 1 < (n : Int) := by omega
    have HP := Lib.hid hp
    have hb1 := (l.getD i 0).toNat_lt
    obtain ⟨x, hx⟩ : ∃ x, (l.getD i 0).toNat = x := ⟨_, rfl⟩
    rw [hx] at h0 hb1
    have HX := Lib.hid hx
    clear hx hp hc hn
    go_enter Try.func27, Try.ntmps27
    go_wp2_with fail
    go_ret
    exact ⟨ret_int (by rw [HP.out, HX.out]; simp), rfl⟩

set_option maxRecDepth 100000 in
set_option maxHeartbeats 2000000 in
theorem refchanged_some (c : Int) (b1 o1 c1 b2 o2 c2 n : Nat) (l1 l2 : List UInt8) (w : World) (h1 : l1.length = n) (h2 : l2.length = n) (hn : n ≤ 1000000) (hC1 : Cells w (some ⟨b1, o1, none⟩) l1) (hC2 : Cells w (some ⟨b2, o2, none⟩) l2) :
    Calls Try.prog 21 #[.int .i64 c, .slice (some ⟨b1, o1, none⟩) n c1, .slice (some ⟨b2, o2, none⟩) n c2] w fun e w' => e = .returned (.int .i64 (chgs c l1 l2 ((n + 1) / 2))) ∧ ∃ k, w' = w.drewN k := by
  have H1 := Lib.hid h1
  have H2 := Lib.hid h2
  have HC1 := Lib.hid hC1
  have HC2 := Lib.hid hC2
  clear h1 h2 hC1 hC2
  go_enter Try.func21, Try.ntmps21
  go_wp2_with (go_at_call 26; refine (reflow_any _ _).mono ?_; rintro e w' ⟨rfl, rfl⟩)
  go_loopw [7, 8] (fun g i wr => ∃ k : Nat, 2 * k ≤ n + 1 ∧ i = .int .i64 (2 * (k : Int)) ∧ g = .int .i64 (chgs c l1 l2 k) ∧ ∃ q, wr = w.drewN q) (fun _ i _ => (n + 2 - (intOf i).toNat))
  case atStart => exact ⟨0, by omega, rfl, rfl, 0, rfl⟩
  case round =>
    obtain ⟨k, hk, rfl, rfl, q, rfl⟩ := hrel
    by_cases hlt : 2 * k < n
    · have t1 : 2 * (k : Int) < (n : Int) := by omega
      have HP1 : Hid (∀ w' : World, (∃ q, w' = w.drewN q) → Calls Try.prog 27 #[.slice (some ⟨b1, o1, none⟩) n c1, .int .i64 (2 * (k : Int))] w' fun e w'' => e = .returned (.int .i64 (pairV (l1.drop (2 * k)))) ∧ w'' = w') := Lib.hid fun w' ⟨q, hq⟩ => by
        subst hq
        exact (refpair_some b1 o1 n c1 (2 * k) l1 _ H1.out hn hlt (HC1.out.drewN q)).mono fun _ _ ⟨he, hw⟩ => ⟨he, hw.symm⟩
      have HP2 : Hid (∀ w' : World, (∃ q, w' = w.drewN q) → Calls Try.prog 27 #[.slice (some ⟨b2, o2, none⟩) n c2, .int .i64 (2 * (k : Int))] w' fun e w'' => e = .returned (.int .i64 (pairV (l2.drop (2 * k)))) ∧ w'' = w') := Lib.hid fun w' ⟨q, hq⟩ => by
        subst hq
        exact (refpair_some b2 o2 n c2 (2 * k) l2 _ H2.out hn hlt (HC2.out.drewN q)).mono fun _ _ ⟨he, hw⟩ => ⟨he, hw.symm⟩
      have HG : Hid (chg (chgs c l1 l2 k) (pairV (l1.drop (2 * k))) (pairV (l2.drop (2 * k))) = chgs c l1 l2 (k + 1)) := rfl
      go_wp2_with (first | (go_at_call 27; with_reducible refine (HP1.out _ ⟨_, rfl⟩).mono ?_; rintro e w' ⟨rfl, rfl⟩) | (go_at_call 27; with_reducible refine (HP2.out _ ⟨_, rfl⟩).mono ?_; rintro e w' ⟨rfl, rfl⟩) | (go_at_call 17; with_reducible refine (refchange_any _ _ _ _).mono ?_; rintro e w' ⟨rfl, rfl⟩))
      exact ⟨⟨k + 1, by omega, by go_num, by rw [← HG.out], _, rfl⟩, by simp [intOf]; omega⟩
    · obtain rfl : k = (n + 1) / 2 := by omega
      have t1 : ¬ 2 * (((n + 1) / 2 : Nat) : Int) < (n : Int) := by omega
      go_wp2_with fail
      go_ret
      exact ⟨rfl, q, rfl⟩
set_option maxRecDepth 100000 in
set_option maxHeartbeats 2000000 in
theorem refchanged_zero (c : Int) (a1 a2 : Option Addr) (c1 c2 : Nat) (l1 l2 : List UInt8) (w : World) :
    Calls Try.prog 21 #[.int .i64 c, .slice a1 0 c1, .slice a2 0 c2] w fun e w' => e = .returned (.int .i64 (chgs c l1 l2 0)) ∧ ∃ k, w' = w.drewN k := by
  go_enter Try.func21, Try.ntmps21
  go_wp2_with (go_at_call 26; refine (reflow_any _ _).mono ?_; rintro e w' ⟨rfl, rfl⟩)
  go_loopw [7, 8] (fun g i wr => i = .int .i64 0 ∧ g = .int .i64 (low c) ∧ wr = w) (fun _ i _ => 0)
  case atStart => exact ⟨rfl, rfl, rfl⟩
  case round =>
    obtain ⟨rfl, rfl, rfl⟩ := hrel
    go_wp2_with fail
    go_ret
    exact ⟨rfl, 0, rfl⟩
theorem refchanged_any (c : Int) (a1 a2 : Option Addr) (c1 c2 n : Nat) (l1 l2 : List UInt8) (w : World) (h1 : l1.length = n) (h2 : l2.length = n) (hn : n ≤ 1000000) (hC1 : Cells w a1 l1) (hC2 : Cells w a2 l2) :
    Calls Try.prog 21 #[.int .i64 c, .slice a1 n c1, .slice a2 n c2] w fun e w' => e = .returned (.int .i64 (chgs c l1 l2 ((n + 1) / 2))) ∧ ∃ k, w' = w.drewN k := by
  rcases Nat.eq_zero_or_pos n with hz | hz
  · subst hz
    exact refchanged_zero c a1 a2 c1 c2 l1 l2 w
  · rcases hC1 with hn1 | ⟨b1, o1, rfl, hb1⟩
    · rw [hn1] at h1; simp at h1; omega
    · rcases hC2 with hn2 | ⟨b2, o2, rfl, hb2⟩
      · rw [hn2] at h2; simp at h2; omega
      · exact refchanged_some c b1 o1 c1 b2 o2 c2 n l1 l2 w h1 h2 hn (.inr ⟨b1, o1, rfl, hb1⟩) (.inr ⟨b2, o2, rfl, hb2⟩)
end Go.Proofs.Ytilhioiocfllhaa
