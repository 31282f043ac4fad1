/- The walks of a stride's Place, When, Cursor, Next, Done. -/
import Derived.Test.YtifdbjombgcfcaaDoorStride
namespace Go.Proofs.YtifdbjombgcfcaaDoor
open Go.RowKit StMath PrimeMath
set_option linter.unusedVariables false

/-- A stride, boxed. -/
structure B3 (b : Nat) (n o k : Int) (W : World) : Prop where
  c0 : W.cell? ⟨b, 0, none⟩ = some (.int .i64 n)
  c1 : W.cell? ⟨b, 1, none⟩ = some (.int .i64 o)
  c2 : W.cell? ⟨b, 2, none⟩ = some (.int .i64 k)
theorem B3.below {b : Nat} {n o k : Int} {W W' : World} (h : B3 b n o k W) (hb : Below W.heap.size W W') : B3 b n o k W' where
  c0 := (hb.cell (p := ⟨b, 0, none⟩) (World.block_lt_of_cell? W _ h.c0)).trans h.c0
  c1 := (hb.cell (p := ⟨b, 1, none⟩) (World.block_lt_of_cell? W _ h.c1)).trans h.c1
  c2 := (hb.cell (p := ⟨b, 2, none⟩) (World.block_lt_of_cell? W _ h.c2)).trans h.c2
theorem B3.new (w : World) (n o k : Int) (t : TypeId) : B3 w.heap.size n o k (w.alloc (.cells #[.int .i64 n, .int .i64 o, .int .i64 k] t)) :=
  ⟨by rw [World.cell?_alloc_mark]; rfl, by rw [World.cell?_alloc_mark]; rfl, by rw [World.cell?_alloc_mark]; rfl⟩
theorem B3.lt {b : Nat} {n o k : Int} {W : World} (h : B3 b n o k W) : b < W.heap.size := World.block_lt_of_cell? W _ h.c0

set_option maxRecDepth 100000 in
set_option maxHeartbeats 2000000 in
theorem place_no (n o k j : Int) (hr : rtB n o k = false) (w : World) : Calls Tryd.prog 26 #[sv n o k, .int .i64 j] w fun e w' => e = .returned (.int .i64 (-1)) ∧ Below w.heap.size w w' := by
  have HB := Lib.hid ((Below.refl _ w).alloc (Nat.le_refl _) (.cells #[.int .i64 n, .int .i64 o, .int .i64 k] 38))
  have HR := Lib.hid hr
  unfold sv
  clear hr
  go_enter Tryd.func26, Tryd.ntmps26
  go_wp2_with (go_at_call 25; refine (right_any n o k _).mono ?_; rintro e w' ⟨rfl, hb⟩; rw [HR.out]; have HB2 := Lib.hid (HB.out.trans (hb.mono HB.out.size)); clear hb)
  go_ret
  exact ⟨rfl, HB2.out⟩
set_option maxRecDepth 100000 in
set_option maxHeartbeats 2000000 in
theorem place_yes (n o k : Nat) (j : Int) (hr : rtB n o k = true) (h1 : n ≤ 251) (ho : o < n) (hk : k < n) (w : World) :
    Calls Tryd.prog 26 #[sv n o k, .int .i64 j] w fun e w' => e = .returned (.int .i64 ((pos n o k (rb j n) : Nat) : Int)) ∧ Below w.heap.size w w' := by
  have HB := Lib.hid ((Below.refl _ w).alloc (Nat.le_refl _) (.cells #[.int .i64 (n : Int), .int .i64 (o : Int), .int .i64 (k : Int)] 38))
  have HX := Lib.hid (B3.new w n o k 38)
  have HR := Lib.hid hr
  have hn : 0 < n := by omega
  have k1 := tmod_lo j n hn
  have k2 := tmod_hi j n hn
  have hrb := rb_lt j n hn
  have e1 : (j.tmod (n : Int) + (n : Int)) % (n : Int) = ((rb j n : Nat) : Int) := by rw [tmod_mod, rb_int j n hn]
  obtain ⟨r, hrr⟩ : ∃ r, rb j n = r := ⟨_, rfl⟩
  rw [hrr] at e1 hrb
  obtain ⟨m, hm⟩ : ∃ m, r * k = m := ⟨_, rfl⟩
  have e2 : (r : Int) * (k : Int) = (m : Int) := by rw [← hm, Int.natCast_mul]
  have hmb : m ≤ 62500 := by
    rw [← hm]
    have := Nat.mul_le_mul (show r ≤ 250 by omega) (show k ≤ 250 by omega)
    omega
  have HP : Hid (((pos n o k (rb j n) : Nat) : Int) = ((o : Int) + (m : Int)) % (n : Int)) := Lib.hid (by unfold pos; rw [hrr, hm, Int.natCast_emod, Int.natCast_add])
  have b1 : (n : Int) ≤ 251 := by omega
  have b2 : (0 : Int) < (n : Int) := by omega
  have b3 : (o : Int) < (n : Int) := by omega
  have b4 : (m : Int) ≤ 62500 := by omega
  unfold sv
  clear hr hrr hm hmb hrb h1 ho hk hn
  go_enter Tryd.func26, Tryd.ntmps26
  go_wp2_with (go_at_call 25; refine (right_any _ _ _ _).mono ?_; rintro e w' ⟨rfl, hb⟩; rw [HR.out]; have HB2 := Lib.hid (HB.out.trans (hb.mono HB.out.size)); obtain ⟨c0, c1, c2⟩ := HX.out.below hb; clear hb)
  go_quiet (fail)
  go_wp2_with fail
  go_ret
  exact ⟨ret_int HP.out.symm, HB2.out.trans (drewN_below _ _ _)⟩
set_option maxRecDepth 100000 in
set_option maxHeartbeats 2000000 in
theorem when_no (n o k p : Int) (hr : rtB n o k = false ∨ p < 0 ∨ n ≤ p) (w : World) : Calls Tryd.prog 27 #[sv n o k, .int .i64 p] w fun e w' => e = .returned (.int .i64 (-1)) ∧ Below w.heap.size w w' := by
  have HB := Lib.hid ((Below.refl _ w).alloc (Nat.le_refl _) (.cells #[.int .i64 n, .int .i64 o, .int .i64 k] 38))
  have HX := Lib.hid (B3.new w n o k 38)
  unfold sv
  cases hrt : rtB n o k with
  | false =>
    have HR := Lib.hid hrt
    clear hrt hr
    go_enter Tryd.func27, Tryd.ntmps27
    go_wp2_with (go_at_call 25; refine (right_any n o k _).mono ?_; rintro e w' ⟨rfl, hb⟩; rw [HR.out]; have HB2 := Lib.hid (HB.out.trans (hb.mono HB.out.size)); clear hb)
    go_ret
    exact ⟨rfl, HB2.out⟩
  | true =>
    have HR := Lib.hid hrt
    by_cases hp : p < 0
    · clear hrt hr
      go_enter Tryd.func27, Tryd.ntmps27
      go_wp2_with (go_at_call 25; refine (right_any n o k _).mono ?_; rintro e w' ⟨rfl, hb⟩; rw [HR.out]; have HB2 := Lib.hid (HB.out.trans (hb.mono HB.out.size)); clear hb)
      go_ret
      exact ⟨rfl, HB2.out⟩
    · have hp0 : decide (p < 0) = false := by simp; omega
      have hp1 : n ≤ p := by
        rcases hr with h | h | h
        · rw [hrt] at h; cases h
        · exact (hp h).elim
        · exact h
      clear hrt hr hp
      go_enter Tryd.func27, Tryd.ntmps27
      go_wp2_with (go_at_call 25; refine (right_any n o k _).mono ?_; rintro e w' ⟨rfl, hb⟩; rw [HR.out]; have HB2 := Lib.hid (HB.out.trans (hb.mono HB.out.size)); obtain ⟨c0, c1, c2⟩ := HX.out.below hb; clear hb)
      go_ret
      exact ⟨rfl, HB2.out⟩
/-- The inverse of the skip. -/
def inv (n k : Nat) : Nat := pw k (n - 2) n
theorem inv_one (n k : Nat) (h : isP n = true) (h1 : 1 ≤ k) (h2 : k < n) : inv n k * k % n = 1 := by
  have := inverse_one n k h (by rw [Nat.mod_eq_of_lt h2]; omega)
  rwa [Nat.mod_eq_of_lt h2] at this
set_option maxRecDepth 100000 in
set_option maxHeartbeats 2000000 in
theorem when_yes (n o k p : Nat) (hr : rtB n o k = true) (hP : isP n = true) (h1 : n ≤ 251) (ho : o < n) (hk1 : 1 ≤ k) (hk : k < n) (hp : p < n) (w : World) :
    Calls Tryd.prog 27 #[sv n o k, .int .i64 (p : Int)] w fun e w' => e = .returned (.int .i64 ((whn n o (inv n k) p : Nat) : Int)) ∧ Below w.heap.size w w' := by
  have HB := Lib.hid ((Below.refl _ w).alloc (Nat.le_refl _) (.cells #[.int .i64 (n : Int), .int .i64 (o : Int), .int .i64 (k : Int)] 38))
  have HX := Lib.hid (B3.new w n o k 38)
  have HR := Lib.hid hr
  have hrk : rb (k : Int) n = k := by
    have := rb_int (k : Int) n (by omega)
    rw [Int.emod_eq_of_lt (by omega) (by omega)] at this
    omega
  have hy : inv n k < n := pw_lt _ _ _ (by omega)
  obtain ⟨y, hyy⟩ : ∃ y, inv n k = y := ⟨_, rfl⟩
  have hpi : pI (n : Int) = true := by rw [pI_nat n (by omega)]; exact hP
  have HI : Hid (∀ W, Calls Tryd.prog 20 #[.int .i64 (k : Int), .int .i64 (n : Int)] W fun e w' => e = .returned (.tuple #[.int .i64 (y : Int), .nilIface]) ∧ W = w') := Lib.hid fun W => inv_ok k n (n - 2) y rfl (by rw [hrk]; exact hyy) hpi (by omega) (by omega) (by rw [hrk]; omega) W
  rw [hyy] at hy ⊢
  obtain ⟨d, hd⟩ : ∃ d, p + n - o = d := ⟨_, rfl⟩
  have e1 : (p : Int) + (n : Int) - (o : Int) = (d : Int) := by omega
  obtain ⟨m, hm⟩ : ∃ m, d * y = m := ⟨_, rfl⟩
  have e2 : (d : Int) * (y : Int) = (m : Int) := by rw [← hm, Int.natCast_mul]
  have hmb : m ≤ 125500 := by
    rw [← hm]
    have := Nat.mul_le_mul (show d ≤ 502 by omega) (show y ≤ 250 by omega)
    omega
  have HP : Hid (((whn n o y p : Nat) : Int) = (m : Int) % (n : Int)) := Lib.hid (by unfold whn; rw [hd, hm, Int.natCast_emod])
  have b1 : (n : Int) ≤ 251 := by omega
  have b2 : (0 : Int) < (n : Int) := by omega
  have b3 : (o : Int) < (n : Int) := by omega
  have b4 : (m : Int) ≤ 125500 := by omega
  have b5 : (p : Int) < (n : Int) := by omega
  unfold sv
  clear hr hrk hy hyy hpi hm hmb hd h1 ho hk hk1 hp hP
  go_enter Tryd.func27, Tryd.ntmps27
  go_wp2_with (first | (go_at_call 25; refine (right_any _ _ _ _).mono ?_; rintro e w' ⟨rfl, hb⟩; rw [HR.out]; have HB2 := Lib.hid (HB.out.trans (hb.mono HB.out.size)); obtain ⟨c0, c1, c2⟩ := HX.out.below hb; clear hb) | (go_at_call 20; refine (HI.out _).mono ?_; rintro e w' ⟨rfl, rfl⟩))
  go_ret
  exact ⟨ret_int HP.out.symm, HB2.out⟩
end Go.Proofs.YtifdbjombgcfcaaDoor
