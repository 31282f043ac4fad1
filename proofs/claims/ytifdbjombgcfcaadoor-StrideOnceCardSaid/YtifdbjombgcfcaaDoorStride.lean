/- The walks of stride's functions. -/
import Derived.Test.YtifdbjombgcfcaaDoorStMath
import Derived.Test.YtifdbjombgcfcaaDoorInts
import Derived.Test.YtifdbjombgcfcaaDoorStInv
import Derived.Maps.AppendAt
namespace Go.Proofs.YtifdbjombgcfcaaDoor
open Go.RowKit StMath PrimeMath
set_option linter.unusedVariables false

/-- May a table have so many places? -/
def szB (n : Int) : Bool := decide (n ≤ 251) && pI n
/-- Is a stride right? -/
def rtB (n o k : Int) : Bool := szB n && (decide (0 ≤ o) && (decide (o < n) && (decide (1 ≤ k) && decide (k < n))))
theorem rtB_nat {n o k : Int} (h : rtB n o k = true) : ∃ n' o' k' : Nat, n = (n' : Int) ∧ o = (o' : Int) ∧ k = (k' : Int) ∧ isP n' = true ∧ n' ≤ 251 ∧ o' < n' ∧ 1 ≤ k' ∧ k' < n' := by
  simp only [rtB, szB, Bool.and_eq_true, decide_eq_true_eq] at h
  obtain ⟨⟨h1, h2⟩, h3, h4, h5, h6⟩ := h
  obtain ⟨n', rfl⟩ := Int.eq_ofNat_of_zero_le (show 0 ≤ n by omega)
  obtain ⟨o', rfl⟩ := Int.eq_ofNat_of_zero_le (show 0 ≤ o by omega)
  obtain ⟨k', rfl⟩ := Int.eq_ofNat_of_zero_le (show 0 ≤ k by omega)
  rw [pI_nat n' (by omega)] at h2
  exact ⟨n', o', k', rfl, rfl, rfl, h2, by omega, by omega, by omega, by omega⟩
set_option maxHeartbeats 1000000 in
theorem sized_any (n : Int) (w : World) : Calls Tryd.prog 41 #[.int .i64 n] w fun e w' => e = .returned (.bool (szB n)) ∧ w = w' := by
  by_cases h : n ≤ 251
  · have e : szB n = pI n := by simp [szB, h]
    rw [e]
    go_enter Tryd.func41, Tryd.ntmps41
    go_wp2_with (go_at_call 15; refine (is_any _ _).mono ?_; rintro e w' ⟨rfl, rfl⟩)
    go_ret
    exact ⟨rfl, rfl⟩
  · have h' : decide (n ≤ 251) = false := by simp; omega
    have e : szB n = false := by simp [szB, h]
    rw [e]
    clear h e
    go_enter Tryd.func41, Tryd.ntmps41
    go_wp2_with fail
    go_ret
    exact ⟨rfl, rfl⟩
set_option maxHeartbeats 1000000 in
theorem refsized_any (n : Int) (w : World) : Calls Tryd.prog 34 #[.int .i64 n] w fun e w' => e = .returned (.bool (szB n)) ∧ w = w' := by
  by_cases h : n ≤ 251
  · have e : szB n = pI n := by simp [szB, h]
    rw [e]
    go_enter Tryd.func34, Tryd.ntmps34
    go_wp2_with (go_at_call 14; refine (refis_any _ _).mono ?_; rintro e w' ⟨rfl, rfl⟩)
    go_ret
    exact ⟨rfl, rfl⟩
  · have h' : decide (n ≤ 251) = false := by simp; omega
    have e : szB n = false := by simp [szB, h]
    rw [e]
    clear h e
    go_enter Tryd.func34, Tryd.ntmps34
    go_wp2_with fail
    go_ret
    exact ⟨rfl, rfl⟩
/-- A stride, as a value. -/
def sv (n o k : Int) : Value := .agg #[.int .i64 n, .int .i64 o, .int .i64 k]
/-- Which of the tests decides. -/
theorem rt_cases (n o k : Int) : (szB n = false ∧ rtB n o k = false) ∨ (szB n = true ∧ ((o < 0 ∧ rtB n o k = false) ∨ (0 ≤ o ∧ ((n ≤ o ∧ rtB n o k = false) ∨ (o < n ∧ ((k < 1 ∧ rtB n o k = false) ∨ (1 ≤ k ∧ ((n ≤ k ∧ rtB n o k = false) ∨ (k < n ∧ rtB n o k = true))))))))) := by
  unfold rtB
  cases szB n
  · exact .inl ⟨rfl, rfl⟩
  · refine .inr ⟨rfl, ?_⟩
    by_cases h1 : 0 ≤ o
    · refine .inr ⟨h1, ?_⟩
      by_cases h2 : o < n
      · refine .inr ⟨h2, ?_⟩
        by_cases h3 : 1 ≤ k
        · refine .inr ⟨h3, ?_⟩
          by_cases h4 : k < n
          · exact .inr ⟨h4, by simp [h1, h2, h3, h4]⟩
          · exact .inl ⟨by omega, by simp [h4]⟩
        · exact .inl ⟨by omega, by simp [h3]⟩
      · exact .inl ⟨by omega, by simp [h2]⟩
    · exact .inl ⟨by omega, by simp [h1]⟩
set_option maxRecDepth 100000 in
set_option maxHeartbeats 2000000 in
theorem right_any (n o k : Int) (w : World) : Calls Tryd.prog 25 #[sv n o k] w fun e w' => e = .returned (.bool (rtB n o k)) ∧ Below w.heap.size w w' := by
  have HB := Lib.hid ((Below.refl _ w).alloc (Nat.le_refl _) (.cells #[.int .i64 n, .int .i64 o, .int .i64 k] 38))
  have HZ := Lib.hid (fun W => sized_any n W)
  unfold sv
  rcases rt_cases n o k with ⟨h, e⟩ | ⟨h0, ⟨h, e⟩ | ⟨h1, ⟨h, e⟩ | ⟨h2, ⟨h, e⟩ | ⟨h3, ⟨h, e⟩ | ⟨h4, e⟩⟩⟩⟩⟩
  · rw [e]
    rw [h] at HZ
    clear e h
    go_enter Tryd.func25, Tryd.ntmps25
    go_wp2_with (go_at_call 41; refine (HZ.out _).mono ?_; rintro e w' ⟨rfl, rfl⟩)
    go_ret
    exact ⟨rfl, HB.out⟩
  · rw [e]
    rw [h0] at HZ
    have d : decide (0 ≤ o) = false := by simp; omega
    clear e h0 h
    go_enter Tryd.func25, Tryd.ntmps25
    go_wp2_with (go_at_call 41; refine (HZ.out _).mono ?_; rintro e w' ⟨rfl, rfl⟩)
    go_ret
    exact ⟨rfl, HB.out⟩
  · rw [e]
    rw [h0] at HZ
    have d : decide (o < n) = false := by simp; omega
    clear e h0 h
    go_enter Tryd.func25, Tryd.ntmps25
    go_wp2_with (go_at_call 41; refine (HZ.out _).mono ?_; rintro e w' ⟨rfl, rfl⟩)
    go_ret
    exact ⟨rfl, HB.out⟩
  · rw [e]
    rw [h0] at HZ
    have d : decide (1 ≤ k) = false := by simp; omega
    clear e h0 h
    go_enter Tryd.func25, Tryd.ntmps25
    go_wp2_with (go_at_call 41; refine (HZ.out _).mono ?_; rintro e w' ⟨rfl, rfl⟩)
    go_ret
    exact ⟨rfl, HB.out⟩
  · rw [e]
    rw [h0] at HZ
    have d : decide (k < n) = false := by simp; omega
    clear e h0 h
    go_enter Tryd.func25, Tryd.ntmps25
    go_wp2_with (go_at_call 41; refine (HZ.out _).mono ?_; rintro e w' ⟨rfl, rfl⟩)
    go_ret
    exact ⟨rfl, HB.out⟩
  · rw [e]
    rw [h0] at HZ
    clear e h0
    go_enter Tryd.func25, Tryd.ntmps25
    go_wp2_with (go_at_call 41; refine (HZ.out _).mono ?_; rintro e w' ⟨rfl, rfl⟩)
    go_ret
    exact ⟨rfl, HB.out⟩
set_option maxRecDepth 100000 in
set_option maxHeartbeats 2000000 in
theorem refright_any (n o k : Int) (w : World) : Calls Tryd.prog 23 #[.int .i64 n, .int .i64 o, .int .i64 k] w fun e w' => e = .returned (.bool (rtB n o k)) ∧ w = w' := by
  have HZ := Lib.hid (fun W => refsized_any n W)
  rcases rt_cases n o k with ⟨h, e⟩ | ⟨h0, ⟨h, e⟩ | ⟨h1, ⟨h, e⟩ | ⟨h2, ⟨h, e⟩ | ⟨h3, ⟨h, e⟩ | ⟨h4, e⟩⟩⟩⟩⟩
  · rw [e]
    rw [h] at HZ
    clear e h
    go_enter Tryd.func23, Tryd.ntmps23
    go_wp2_with (go_at_call 34; refine (HZ.out _).mono ?_; rintro e w' ⟨rfl, rfl⟩)
    go_ret
    exact ⟨rfl, rfl⟩
  · rw [e]
    rw [h0] at HZ
    have d : decide (0 ≤ o) = false := by simp; omega
    clear e h0 h
    go_enter Tryd.func23, Tryd.ntmps23
    go_wp2_with (go_at_call 34; refine (HZ.out _).mono ?_; rintro e w' ⟨rfl, rfl⟩)
    go_ret
    exact ⟨rfl, rfl⟩
  · rw [e]
    rw [h0] at HZ
    have d : decide (o < n) = false := by simp; omega
    clear e h0 h
    go_enter Tryd.func23, Tryd.ntmps23
    go_wp2_with (go_at_call 34; refine (HZ.out _).mono ?_; rintro e w' ⟨rfl, rfl⟩)
    go_ret
    exact ⟨rfl, rfl⟩
  · rw [e]
    rw [h0] at HZ
    have d : decide (0 < k) = false := by simp; omega
    clear e h0 h
    go_enter Tryd.func23, Tryd.ntmps23
    go_wp2_with (go_at_call 34; refine (HZ.out _).mono ?_; rintro e w' ⟨rfl, rfl⟩)
    go_ret
    exact ⟨rfl, rfl⟩
  · rw [e]
    rw [h0] at HZ
    have d : decide (k < n) = false := by simp; omega
    clear e h0 h
    go_enter Tryd.func23, Tryd.ntmps23
    go_wp2_with (go_at_call 34; refine (HZ.out _).mono ?_; rintro e w' ⟨rfl, rfl⟩)
    go_ret
    exact ⟨rfl, rfl⟩
  · rw [e]
    rw [h0] at HZ
    have d : 0 < k := by omega
    clear e h0
    go_enter Tryd.func23, Tryd.ntmps23
    go_wp2_with (go_at_call 34; refine (HZ.out _).mono ?_; rintro e w' ⟨rfl, rfl⟩)
    go_ret
    exact ⟨rfl, rfl⟩
end Go.Proofs.YtifdbjombgcfcaaDoor
