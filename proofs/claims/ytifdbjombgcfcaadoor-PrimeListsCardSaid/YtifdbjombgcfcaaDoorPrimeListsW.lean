/- The walk of the law PrimeLists. -/
import Derived.Test.YtifdbjombgcfcaaDoorList
import Derived.Test.YtifdbjombgcfcaaDoorPrimeRef
namespace Go.Proofs.YtifdbjombgcfcaaDoor.primeLists
open Go.RowKit PrimeMath
set_option linter.unusedVariables false

theorem pl_at (k : Nat) (hk : 1 ≤ k) (hP : isP k = true) : ∀ T, k ≤ T → ∃ r, pl T = pl (k - 1) ++ k :: r := by
  intro T
  induction T with
  | zero => intro h; omega
  | succ T ih =>
    intro h
    by_cases he : k = T + 1
    · subst he
      refine ⟨[], ?_⟩
      rw [pl_succ, if_pos hP, Nat.add_sub_cancel]
    · obtain ⟨r, hr⟩ := ih (by omega)
      rw [pl_succ, hr]
      by_cases hp : isP (T + 1) = true
      · rw [if_pos hp]; exact ⟨r ++ [T + 1], by simp⟩
      · rw [if_neg hp]; exact ⟨r, rfl⟩
theorem pl_get (k T : Nat) (hk : 1 ≤ k) (hkT : k ≤ T) (hP : isP k = true) : (pl (k - 1)).length < (pl T).length ∧ (zs (pl T)).getD (pl (k - 1)).length 0 = (k : Int) := by
  obtain ⟨r, hr⟩ := pl_at k hk hP T hkT
  rw [hr]
  constructor
  · simp
  · simp [zs, List.getD]

theorem list_at (m : Int) (w : World) :
    Calls Tryd.prog 13 #[.int .i64 m] w fun e W' => ∃ ao cap, e = .returned (.slice ao (pl (top m)).length cap) ∧ Below w.heap.size w W' ∧ IntsAt W' ao (zs (pl (top m))) := by
  refine (list_any m w).mono ?_
  rintro e W' ⟨v, rfl, hb, hown⟩
  obtain ⟨ao, cap, rfl, hc, _, _⟩ := ints_own hown
  exact ⟨ao, cap, rfl, hb, hc⟩
theorem refis_pl (k : Nat) (h : k ≤ 10000) (w : World) : Calls Tryd.prog 14 #[.int .i64 (k : Int)] w fun e w' => e = .returned (.bool (isP k)) ∧ w = w' := by
  have := refis_any (k : Int) w
  rw [pI_nat k (by omega)] at this
  exact this

set_option maxRecDepth 100000 in
set_option maxHeartbeats 4000000 in
theorem walk_mid (m : Nat) (h2 : 2 ≤ m) (hm : m ≤ 10000) (w : World) :
    Calls Tryd.prog 4 #[.int .i64 (m : Int)] w fun e w' => e = .returned (.bool true) ∧ Below w.heap.size w w' := by
  have HL := Lib.hid (list_at (m : Int))
  rw [show top (m : Int) = m by unfold top; rw [if_neg (by omega), if_neg (by omega)]; omega] at HL
  have hm1 : (m : Int) ≤ 10000 := by omega
  have hbig := pl_length m
  obtain ⟨ln, hln⟩ : ∃ ln, (pl m).length = ln := ⟨_, rfl⟩
  rw [hln] at hbig HL
  have hln1 : (ln : Int) ≤ 10000 := by omega
  have HLN := Lib.hid hln
  clear hln hbig
  go_enter Tryd.func4, Tryd.ntmps4
  go_wp2_with (first | (go_at_call 10; refine (alive08_any _).mono ?_; rintro e w' ⟨rfl, rfl⟩) | (go_at_call 13; refine (HL.out _).mono ?_; rintro e w5 ⟨ao, cap, rfl, hB, hI⟩; have HI := Lib.hid hI; have HB := Lib.hid hB; clear hI hB))
  go_loopw [5, 6] (fun v i wr => ∃ k : Nat, i = .int .i64 (k : Int) ∧ 2 ≤ k ∧ (k ≤ m + 1 ∨ k = 2) ∧ (∃ j : Nat, v = .int .i64 (j : Int) ∧ Hid (j = (pl (k - 1)).length)) ∧ ∃ d, wr = w5.drewN d) (fun _ i _ => m + 2 - (intOf i).toNat)
  case atStart => exact ⟨2, rfl, by omega, .inr rfl, ⟨0, rfl, Lib.hid (by rw [show 2 - 1 = 1 from rfl, pl_one]; rfl)⟩, 0, rfl⟩
  case round =>
    obtain ⟨k, rfl, hk2, hk3, ⟨j, rfl, HJ⟩, d, rfl⟩ := hrel
    by_cases hlt : k ≤ m
    · have hlt' : (k : Int) ≤ (m : Int) := by omega
      have hk0 : (2 : Int) ≤ (k : Int) := by omega
      have HR := Lib.hid (refis_pl k (by omega))
      have HK3 := Lib.hid hk3
      clear hk3
      cases hP : isP k with
      | false =>
        rw [hP] at HR
        have HP := Lib.hid hP
        clear hP
        go_wp2_with (go_at_call 14; refine (HR.out _).mono ?_; rintro e w' ⟨rfl, rfl⟩)
        refine ⟨⟨k + 1, by go_num, by omega, .inl (by omega), ⟨j, rfl, Lib.hid (by
          have := pl_succ (k - 1)
          rw [show k - 1 + 1 = k by omega, HP.out, if_neg (by simp)] at this
          rw [Nat.add_sub_cancel, this]; exact HJ.out)⟩, d, rfl⟩, by simp [intOf]; omega⟩
      | true =>
        rw [hP] at HR
        obtain ⟨hg1, hg2⟩ := pl_get k m (by omega) hlt hP
        rw [← HJ.out] at hg1 hg2
        rw [HLN.out] at hg1
        have HP := Lib.hid hP
        clear hP
        have hne : zs (pl m) ≠ [] := by
          intro e
          have := zs_length (pl m)
          rw [e, HLN.out] at this
          simp at this
          omega
        obtain ⟨b, off, rfl, hc⟩ := HI.out.resolve_left hne
        have hcj := hc j (by rw [zs_length, HLN.out]; exact hg1)
        rw [hg2] at hcj
        have hjl : (j : Int) < (ln : Int) := by omega
        have hj0 : (0 : Int) ≤ (j : Int) := by omega
        clear hne hc hg1 hg2
        go_wp2_with (go_at_call 14; refine (HR.out _).mono ?_; rintro e w' ⟨rfl, rfl⟩)
        refine ⟨⟨k + 1, by go_num, by omega, .inl (by omega), ⟨j + 1, by go_num, Lib.hid (by
          have := pl_succ (k - 1)
          rw [show k - 1 + 1 = k by omega, HP.out, if_pos rfl] at this
          rw [Nat.add_sub_cancel, this, List.length_append, ← HJ.out]; rfl)⟩, d, rfl⟩, by simp [intOf]; omega⟩
    · obtain rfl : j = ln := by
        have h := HJ.out
        rw [show k - 1 = m by omega, HLN.out] at h
        exact h
      have hlt' : ¬ (k : Int) ≤ (m : Int) := by omega
      clear hk3
      go_wp2_with fail
      go_ret
      exact ⟨rfl, by have := HB.out; have hd : Below w.heap.size w5 (w5.drewN d) := ⟨rfl, rfl, rfl, Nat.le_refl _, fun _ _ => rfl⟩; exact this.trans hd⟩

set_option maxRecDepth 100000 in
set_option maxHeartbeats 4000000 in
theorem walk_high (M : Int) (T : Nat) (hT : (T : Int) = 10000) (hM : 10000 < M) (w : World) :
    Calls Tryd.prog 4 #[.int .i64 M] w fun e w' => e = .returned (.bool true) ∧ Below w.heap.size w w' := by
  have HL := Lib.hid (list_at M)
  rw [show top M = T by unfold top; rw [if_neg (by omega), if_pos hM]; omega] at HL

  have hbig := pl_length T
  obtain ⟨ln, hln⟩ : ∃ ln, (pl T).length = ln := ⟨_, rfl⟩
  rw [hln] at hbig HL
  have hln1 : (ln : Int) ≤ 10000 := by omega
  have HLN := Lib.hid hln
  clear hln hbig
  go_enter Tryd.func4, Tryd.ntmps4
  go_wp2_with (first | (go_at_call 10; refine (alive08_any _).mono ?_; rintro e w' ⟨rfl, rfl⟩) | (go_at_call 13; refine (HL.out _).mono ?_; rintro e w5 ⟨ao, cap, rfl, hB, hI⟩; have HI := Lib.hid hI; have HB := Lib.hid hB; clear hI hB))
  go_loopw [5, 6] (fun v i wr => ∃ k : Nat, i = .int .i64 (k : Int) ∧ 2 ≤ k ∧ (k ≤ T + 1 ∨ k = 2) ∧ (∃ j : Nat, v = .int .i64 (j : Int) ∧ Hid (j = (pl (k - 1)).length)) ∧ ∃ d, wr = w5.drewN d) (fun _ i _ => T + 2 - (intOf i).toNat)
  case atStart => exact ⟨2, rfl, by omega, .inr rfl, ⟨0, rfl, Lib.hid (by rw [show 2 - 1 = 1 from rfl, pl_one]; rfl)⟩, 0, rfl⟩
  case round =>
    obtain ⟨k, rfl, hk2, hk3, ⟨j, rfl, HJ⟩, d, rfl⟩ := hrel
    by_cases hlt : k ≤ T
    · have hlt' : (k : Int) ≤ (T : Int) := by omega
      have hk0 : (2 : Int) ≤ (k : Int) := by omega
      have HR := Lib.hid (refis_pl k (by omega))
      have HK3 := Lib.hid hk3
      clear hk3
      cases hP : isP k with
      | false =>
        rw [hP] at HR
        have HP := Lib.hid hP
        clear hP
        go_wp2_with (go_at_call 14; refine (HR.out _).mono ?_; rintro e w' ⟨rfl, rfl⟩)
        refine ⟨⟨k + 1, by go_num, by omega, .inl (by omega), ⟨j, rfl, Lib.hid (by
          have := pl_succ (k - 1)
          rw [show k - 1 + 1 = k by omega, HP.out, if_neg (by simp)] at this
          rw [Nat.add_sub_cancel, this]; exact HJ.out)⟩, d, rfl⟩, by simp [intOf]; omega⟩
      | true =>
        rw [hP] at HR
        obtain ⟨hg1, hg2⟩ := pl_get k T (by omega) hlt hP
        rw [← HJ.out] at hg1 hg2
        rw [HLN.out] at hg1
        have HP := Lib.hid hP
        clear hP
        have hne : zs (pl T) ≠ [] := by
          intro e
          have := zs_length (pl T)
          rw [e, HLN.out] at this
          simp at this
          omega
        obtain ⟨b, off, rfl, hc⟩ := HI.out.resolve_left hne
        have hcj := hc j (by rw [zs_length, HLN.out]; exact hg1)
        rw [hg2] at hcj
        have hjl : (j : Int) < (ln : Int) := by omega
        have hj0 : (0 : Int) ≤ (j : Int) := by omega
        clear hne hc hg1 hg2
        go_wp2_with (go_at_call 14; refine (HR.out _).mono ?_; rintro e w' ⟨rfl, rfl⟩)
        refine ⟨⟨k + 1, by go_num, by omega, .inl (by omega), ⟨j + 1, by go_num, Lib.hid (by
          have := pl_succ (k - 1)
          rw [show k - 1 + 1 = k by omega, HP.out, if_pos rfl] at this
          rw [Nat.add_sub_cancel, this, List.length_append, ← HJ.out]; rfl)⟩, d, rfl⟩, by simp [intOf]; omega⟩
    · obtain rfl : j = ln := by
        have h := HJ.out
        rw [show k - 1 = T by omega, HLN.out] at h
        exact h
      have hlt' : ¬ (k : Int) ≤ (T : Int) := by omega
      clear hk3
      go_wp2_with fail
      go_ret
      exact ⟨rfl, by have := HB.out; have hd : Below w.heap.size w5 (w5.drewN d) := ⟨rfl, rfl, rfl, Nat.le_refl _, fun _ _ => rfl⟩; exact this.trans hd⟩

set_option maxRecDepth 100000 in
set_option maxHeartbeats 4000000 in
theorem walk_low (M : Int) (hM : M < 2) (w : World) :
    Calls Tryd.prog 4 #[.int .i64 M] w fun e w' => e = .returned (.bool true) ∧ Below w.heap.size w w' := by
  have HL := Lib.hid (list_at M)
  rw [show (pl (top M)).length = 0 by
    unfold top
    split
    · rw [pl_zero]; rfl
    · rw [if_neg (by omega)]
      rcases (show M.toNat = 0 ∨ M.toNat = 1 by omega) with h | h
      · rw [h, pl_zero]; rfl
      · rw [h, pl_one]; rfl] at HL
  go_enter Tryd.func4, Tryd.ntmps4
  go_wp2_with (first | (go_at_call 10; refine (alive08_any _).mono ?_; rintro e w' ⟨rfl, rfl⟩) | (go_at_call 13; refine (HL.out _).mono ?_; rintro e w5 ⟨ao, cap, rfl, hB, hI⟩; have HI := Lib.hid hI; have HB := Lib.hid hB; clear hI hB))
  go_loopw [5, 6] (fun v i wr => i = .int .i64 2 ∧ v = .int .i64 0 ∧ wr = w5) (fun _ _ _ => 0)
  case atStart => exact ⟨rfl, rfl, rfl⟩
  case round =>
    obtain ⟨rfl, rfl, rfl⟩ := hrel
    have hlt' : ¬ (2 : Int) ≤ M := by omega
    go_wp2_with fail
    go_ret
    exact ⟨rfl, HB.out⟩

theorem walk (m : Int) (w : World) (w0 : (Lit.int .i64 m).wf = true) :
    Calls Tryd.prog 4 #[.int .i64 m] w fun e w' => e = .returned (.bool true) ∧ Below w.heap.size w w' := by
  by_cases h0 : m < 2
  · exact walk_low m h0 w
  · by_cases h1 : 10000 < m
    · exact walk_high m 10000 rfl h1 w
    · obtain ⟨k, rfl⟩ : ∃ k : Nat, m = (k : Int) := ⟨m.toNat, by omega⟩
      exact walk_mid k (by omega) (by omega) w
end Go.Proofs.YtifdbjombgcfcaaDoor.primeLists
