/- The walks of a stride's Cursor, Next, Done. -/
import Derived.Test.YtifdbjombgcfcaaDoorStPlace
import Derived.Laws.OwnMore
namespace Go.Proofs.YtifdbjombgcfcaaDoor
open Go.RowKit StMath PrimeMath
set_option linter.unusedVariables false

/-- A cursor over a right stride: where it stands, how many were told. -/
structure CS (Bc Ba Bs n k p d : Nat) (W : World) : Prop where
  s0 : W.cell? ⟨Bs, 0, none⟩ = some (.int .i64 (n : Int))
  s2 : W.cell? ⟨Bs, 2, none⟩ = some (.int .i64 (k : Int))
  a0 : W.cell? ⟨Ba, 0, none⟩ = some (.int .i64 (p : Int))
  fa : W.frozen? ⟨Ba, 0, none⟩ = false
  c3 : W.cell? ⟨Bc, 3, none⟩ = some (.int .i64 (d : Int))
  fc : W.frozen? ⟨Bc, 3, none⟩ = false
  c4 : W.cell? ⟨Bc, 4, none⟩ = some (.func (.func 39) #[] #[.pointer (some ⟨Ba, 0, none⟩), .pointer (some ⟨Bs, 0, none⟩)])
  ne1 : Ba ≠ Bc
  ne2 : Bs ≠ Bc
  ne3 : Bs ≠ Ba
theorem CS.below {Bc Ba Bs n k p d : Nat} {W W' : World} (h : CS Bc Ba Bs n k p d W) (hb : Below W.heap.size W W') : CS Bc Ba Bs n k p d W' where
  s0 := (hb.cell (p := ⟨Bs, 0, none⟩) (World.block_lt_of_cell? W _ h.s0)).trans h.s0
  s2 := (hb.cell (p := ⟨Bs, 2, none⟩) (World.block_lt_of_cell? W _ h.s2)).trans h.s2
  a0 := (hb.cell (p := ⟨Ba, 0, none⟩) (World.block_lt_of_cell? W _ h.a0)).trans h.a0
  fa := (hb.frozen (p := ⟨Ba, 0, none⟩) (World.block_lt_of_cell? W _ h.a0)).trans h.fa
  c3 := (hb.cell (p := ⟨Bc, 3, none⟩) (World.block_lt_of_cell? W _ h.c3)).trans h.c3
  fc := (hb.frozen (p := ⟨Bc, 3, none⟩) (World.block_lt_of_cell? W _ h.c3)).trans h.fc
  c4 := (hb.cell (p := ⟨Bc, 4, none⟩) (World.block_lt_of_cell? W _ h.c4)).trans h.c4
  ne1 := h.ne1
  ne2 := h.ne2
  ne3 := h.ne3
/-- The world behind one Next. -/
def stepW (Bc Ba : Nat) (p d : Nat) (W : World) : World := (W.setCell ⟨Bc, 3, none⟩ (.int .i64 (d : Int))).setCell ⟨Ba, 0, none⟩ (.int .i64 (p : Int))
theorem CS.step {Bc Ba Bs n k p d : Nat} {W : World} (h : CS Bc Ba Bs n k p d W) (p' d' : Nat) : CS Bc Ba Bs n k p' d' (stepW Bc Ba p' d' W) := by
  have n1 := h.ne1
  have n2 := h.ne2
  have n3 := h.ne3
  have o : ∀ (a b : Addr) (V : World) (v : Value), a ≠ b → (V.setCell b v).cell? a = V.cell? a := fun a b V v hab => World.cell?_setCell_other _ _ _ _ (Ne.symm hab)
  have q1 : (⟨Bs, 0, none⟩ : Addr) ≠ ⟨Ba, 0, none⟩ := fun e => n3 (congrArg Addr.block e)
  have q2 : (⟨Bs, 0, none⟩ : Addr) ≠ ⟨Bc, 3, none⟩ := fun e => n2 (congrArg Addr.block e)
  have q3 : (⟨Bs, 2, none⟩ : Addr) ≠ ⟨Ba, 0, none⟩ := fun e => n3 (congrArg Addr.block e)
  have q4 : (⟨Bs, 2, none⟩ : Addr) ≠ ⟨Bc, 3, none⟩ := fun e => n2 (congrArg Addr.block e)
  have q5 : (⟨Ba, 0, none⟩ : Addr) ≠ ⟨Bc, 3, none⟩ := fun e => n1 (congrArg Addr.block e)
  have q6 : (⟨Bc, 3, none⟩ : Addr) ≠ ⟨Ba, 0, none⟩ := fun e => n1 (congrArg Addr.block e).symm
  have q7 : (⟨Bc, 4, none⟩ : Addr) ≠ ⟨Ba, 0, none⟩ := fun e => n1 (congrArg Addr.block e).symm
  have q8 : (⟨Bc, 4, none⟩ : Addr) ≠ ⟨Bc, 3, none⟩ := fun e => by have := congrArg Addr.off e; simp at this
  refine ⟨?_, ?_, ?_, ?_, ?_, ?_, ?_, n1, n2, n3⟩ <;> unfold stepW
  · rw [o _ _ _ _ q1, o _ _ _ _ q2]; exact h.s0
  · rw [o _ _ _ _ q3, o _ _ _ _ q4]; exact h.s2
  · exact World.cell?_setCell_same' _ _ _ (by rw [o _ _ _ _ q5, h.a0]; rfl)
  · rw [World.frozen?_setCell, World.frozen?_setCell]; exact h.fa
  · rw [o _ _ _ _ q6]
    exact World.cell?_setCell_same' _ _ _ (by rw [h.c3]; rfl)
  · rw [World.frozen?_setCell, World.frozen?_setCell]; exact h.fc
  · rw [o _ _ _ _ q7, o _ _ _ _ q8]; exact h.c4
theorem stepW_below {B Bc Ba : Nat} {w W : World} (h : Below B w W) (h1 : B ≤ Bc) (h2 : B ≤ Ba) (p d : Nat) : Below B w (stepW Bc Ba p d W) := (h.setCell (p := ⟨Bc, 3, none⟩) h1 _).setCell (p := ⟨Ba, 0, none⟩) h2 _
theorem stepW_own {Bc Ba base : Nat} {e : TypeId} {size n : Nat} {v : Value} {xs : List Value} {W : World} (h : W.ownsRow base e size v n xs) (h1 : Bc < base) (h2 : Ba < base) (p d : Nat) : (stepW Bc Ba p d W).ownsRow base e size v n xs :=
  ownsRow_setCell_below (ownsRow_setCell_below h (a := ⟨Bc, 3, none⟩) h1 _) (a := ⟨Ba, 0, none⟩) h2 _
theorem stepW_size (Bc Ba p d : Nat) (W : World) : (stepW Bc Ba p d W).heap.size = W.heap.size := by unfold stepW; simp

set_option maxHeartbeats 1000000 in
/-- The closure: the place, and on. -/
theorem tick_any (Ba Bs n k p : Nat) (w : World) (s0 : w.cell? ⟨Bs, 0, none⟩ = some (.int .i64 (n : Int))) (s2 : w.cell? ⟨Bs, 2, none⟩ = some (.int .i64 (k : Int))) (a0 : w.cell? ⟨Ba, 0, none⟩ = some (.int .i64 (p : Int))) (fa : w.frozen? ⟨Ba, 0, none⟩ = false) (hn : n ≤ 251) (hk : k < n) (hp : p < n) :
    Calls Tryd.prog 39 #[.pointer (some ⟨Ba, 0, none⟩), .pointer (some ⟨Bs, 0, none⟩)] w fun e w' => e = .returned (.int .i64 (p : Int)) ∧ w' = w.setCell ⟨Ba, 0, none⟩ (.int .i64 (((p + k) % n : Nat) : Int)) := by
  have b1 : (n : Int) ≤ 251 := by omega
  have b2 : (0 : Int) < (n : Int) := by omega
  have b3 : (k : Int) < (n : Int) := by omega
  have b4 : (p : Int) < (n : Int) := by omega
  have HE : Hid ((((p + k) % n : Nat) : Int) = ((p : Int) + (k : Int)) % (n : Int)) := Lib.hid (by rw [Int.natCast_emod, Int.natCast_add])
  clear hn hk hp
  go_enter Tryd.func39, Tryd.ntmps39
  go_wp2_with fail
  go_ret
  exact ⟨rfl, by rw [HE.out]⟩
theorem minus_any (w : World) : Calls Tryd.prog 40 #[] w fun e w' => e = .returned (.int .i64 (-1)) ∧ w = w' := by
  go_enter Tryd.func40, Tryd.ntmps40
  go_wp2_with fail
  go_ret
  exact ⟨rfl, rfl⟩
set_option maxRecDepth 100000 in
set_option maxHeartbeats 2000000 in
theorem next_yes (Bc Ba Bs n k p d : Nat) (w : World) (h : CS Bc Ba Bs n k p d w) (hn : n ≤ 251) (hk : k < n) (hp : p < n) (hd : d ≤ 1000000) :
    Calls Tryd.prog 29 #[.pointer (some ⟨Bc, 0, none⟩)] w fun e w' => e = .returned (.int .i64 (p : Int)) ∧ w' = stepW Bc Ba ((p + k) % n) (d + 1) w := by
  have o : ∀ (a b : Addr) (V : World) (v : Value), a ≠ b → (V.setCell b v).cell? a = V.cell? a := fun a b V v hab => World.cell?_setCell_other _ _ _ _ (Ne.symm hab)
  have HT := Lib.hid (tick_any Ba Bs n k p (w.setCell ⟨Bc, 3, none⟩ (.int .i64 ((d : Int) + 1))) (by rw [o _ _ _ _ (fun e => h.ne2 (congrArg Addr.block e))]; exact h.s0) (by rw [o _ _ _ _ (fun e => h.ne2 (congrArg Addr.block e))]; exact h.s2) (by rw [o _ _ _ _ (fun e => h.ne1 (congrArg Addr.block e))]; exact h.a0) (by rw [World.frozen?_setCell]; exact h.fa) hn hk hp)
  obtain ⟨s0, s2, a0, fa, c3, fc, c4, n1, n2, n3⟩ := h
  have b5 : (d : Int) ≤ 1000000 := by omega
  clear hn hk hp hd n1 n2 n3 s0 s2 a0 fa o
  go_enter Tryd.func29, Tryd.ntmps29
  go_wp2_with fail
  refine HT.out.mono ?_
  rintro e w' ⟨rfl, hw⟩
  have HW := Lib.hid hw
  clear hw
  go_wp2_with fail
  go_ret
  exact ⟨rfl, HW.out⟩
/-- A cursor over a stride that is not right. -/
structure CN (Bc d : Nat) (W : World) : Prop where
  c3 : W.cell? ⟨Bc, 3, none⟩ = some (.int .i64 (d : Int))
  fc : W.frozen? ⟨Bc, 3, none⟩ = false
  c4 : W.cell? ⟨Bc, 4, none⟩ = some (.func (.func 40) #[] #[])
theorem CN.below {Bc d : Nat} {W W' : World} (h : CN Bc d W) (hb : Below W.heap.size W W') : CN Bc d W' where
  c3 := (hb.cell (p := ⟨Bc, 3, none⟩) (World.block_lt_of_cell? W _ h.c3)).trans h.c3
  fc := (hb.frozen (p := ⟨Bc, 3, none⟩) (World.block_lt_of_cell? W _ h.c3)).trans h.fc
  c4 := (hb.cell (p := ⟨Bc, 4, none⟩) (World.block_lt_of_cell? W _ h.c4)).trans h.c4
theorem CN.step {Bc d : Nat} {W : World} (h : CN Bc d W) (d' : Nat) : CN Bc d' (W.setCell ⟨Bc, 3, none⟩ (.int .i64 (d' : Int))) where
  c3 := World.cell?_setCell_same' _ _ _ (by rw [h.c3]; rfl)
  fc := by rw [World.frozen?_setCell]; exact h.fc
  c4 := by rw [World.cell?_setCell_other _ _ _ _ (by simp)]; exact h.c4
set_option maxRecDepth 100000 in
set_option maxHeartbeats 2000000 in
theorem next_no (Bc d : Nat) (w : World) (h : CN Bc d w) (hd : d ≤ 1000000) :
    Calls Tryd.prog 29 #[.pointer (some ⟨Bc, 0, none⟩)] w fun e w' => e = .returned (.int .i64 (-1)) ∧ w' = w.setCell ⟨Bc, 3, none⟩ (.int .i64 ((d + 1 : Nat) : Int)) := by
  obtain ⟨c3, fc, c4⟩ := h
  have b5 : (d : Int) ≤ 1000000 := by omega
  clear hd
  go_enter Tryd.func29, Tryd.ntmps29
  go_wp2_with fail
  refine (minus_any _).mono ?_
  rintro e w' ⟨rfl, rfl⟩
  go_wp2_with fail
  go_ret
  exact ⟨rfl, rfl⟩
theorem done_any (Bc d : Nat) (w : World) (h : w.cell? ⟨Bc, 3, none⟩ = some (.int .i64 (d : Int))) :
    Calls Tryd.prog 30 #[.pointer (some ⟨Bc, 0, none⟩)] w fun e w' => e = .returned (.int .i64 (d : Int)) ∧ w = w' := by
  go_enter Tryd.func30, Tryd.ntmps30
  go_wp2_with fail
  go_ret
  exact ⟨rfl, rfl⟩
/-! ### the cursor's making -/
def CurP (n o k : Nat) (w : World) (e : Ending) (w' : World) : Prop :=
  ∃ Bc Ba Bs, e = .returned (.pointer (some ⟨Bc, 0, none⟩)) ∧ CS Bc Ba Bs n k o 0 w' ∧ Below w.heap.size w w' ∧ w.heap.size ≤ Bc ∧ w.heap.size ≤ Ba ∧ Bc < w'.heap.size ∧ Ba < w'.heap.size
set_option maxRecDepth 100000 in
set_option maxHeartbeats 4000000 in
theorem cursor_yes (n o k : Nat) (hr : rtB n o k = true) (h1 : n ≤ 251) (ho : o < n) (hk : k < n) (w : World) :
    Calls Tryd.prog 24 #[sv n o k] w (CurP n o k w) := by
  have HB := Lib.hid ((Below.refl _ w).alloc (Nat.le_refl _) (.cells #[.int .i64 (n : Int), .int .i64 (o : Int), .int .i64 (k : Int)] 38))
  have HX := Lib.hid (B3.new w n o k 38)
  have HP : Hid (∀ W, Calls Tryd.prog 26 #[sv n o k, .int .i64 0] W fun e w' => e = .returned (.int .i64 (o : Int)) ∧ Below W.heap.size W w') := Lib.hid fun W => by
    have := place_yes n o k 0 hr h1 ho hk W
    have e : rb 0 n = 0 := by
      have := rb_int 0 n (by omega)
      rw [Int.zero_emod] at this
      omega
    rwa [e, pos_zero n o k ho] at this
  have HR := Lib.hid hr
  unfold sv at HP ⊢
  clear hr h1 ho hk
  go_enter Tryd.func24, Tryd.ntmps24
  go_wp2_with (first | (go_at_call 26; refine (HP.out _).mono ?_; rintro e w1 ⟨rfl, hb⟩; have HX1 := Lib.hid (HX.out.below hb); have HB1 := Lib.hid (HB.out.trans (hb.mono HB.out.size)); have HA := Lib.hid ((Below.refl _ w1).alloc (Nat.le_refl _) (.cells #[.int .i64 (o : Int)] 3)); obtain ⟨c0, c1, c2⟩ := HX1.out; obtain ⟨d0, d1, d2⟩ := HX1.out.below HA.out; clear hb) | (go_at_call 25; refine (right_any _ _ _ _).mono ?_; rintro e w3 ⟨rfl, hb⟩; rw [HR.out]; have HX3 := Lib.hid ((HX1.out.below HA.out).below hb); have HB3 := Lib.hid hb; obtain ⟨e0, e1, e2⟩ := HX3.out; clear hb))
  go_ret
  have hb4 : Below w3.heap.size w3 (w3.alloc (.cells #[.int .i64 (n : Int), .int .i64 (o : Int), .int .i64 (k : Int), .int .i64 0, .func (.func 39) #[] #[.pointer (some ⟨w1.heap.size, 0, none⟩), .pointer (some ⟨w.heap.size, 0, none⟩)]] 61)) := (Below.refl _ w3).alloc (Nat.le_refl _) _
  have hs1 : w.heap.size < w1.heap.size := HX1.out.lt
  have hs3 : w1.heap.size < w3.heap.size := by
    have := HB3.out.size
    rw [World.size_alloc] at this
    omega
  have h4 := HX3.out.below hb4
  have ha0 : (w1.alloc (.cells #[.int .i64 (o : Int)] 3)).cell? ⟨w1.heap.size, 0, none⟩ = some (.int .i64 (o : Int)) := by rw [World.cell?_alloc_mark]; rfl
  have hf0 : (w1.alloc (.cells #[.int .i64 (o : Int)] 3)).frozen? ⟨w1.heap.size, 0, none⟩ = false := frozen_of_row _ _ _ _ _ (heap_alloc_new w1 _)
  have hlt : w1.heap.size < (w1.alloc (.cells #[.int .i64 (o : Int)] 3)).heap.size := by simp
  refine ⟨w3.heap.size, w1.heap.size, w.heap.size, rfl, ⟨h4.c0, h4.c2, ?_, ?_, by rw [World.cell?_alloc_mark]; rfl, frozen_of_row _ _ _ _ _ (heap_alloc_new w3 _), by rw [World.cell?_alloc_mark]; rfl, by omega, by omega, by omega⟩, ?_, by omega, by omega, by simp, by simp; omega⟩
  · rw [hb4.cell (p := ⟨w1.heap.size, 0, none⟩) hs3, HB3.out.cell (p := ⟨w1.heap.size, 0, none⟩) hlt]; exact ha0
  · rw [hb4.frozen (p := ⟨w1.heap.size, 0, none⟩) hs3, HB3.out.frozen (p := ⟨w1.heap.size, 0, none⟩) hlt]; exact hf0
  · have hB := HB1.out.alloc HB1.out.size (.cells #[.int .i64 (o : Int)] 3)
    exact (hB.trans (HB3.out.mono hB.size)).alloc (by omega) _
def CurN (w : World) (e : Ending) (w' : World) : Prop := ∃ Bc, e = .returned (.pointer (some ⟨Bc, 0, none⟩)) ∧ CN Bc 0 w' ∧ Below w.heap.size w w' ∧ w.heap.size ≤ Bc
set_option maxRecDepth 100000 in
set_option maxHeartbeats 4000000 in
theorem cursor_no (n o k : Int) (hr : rtB n o k = false) (w : World) :
    Calls Tryd.prog 24 #[sv n o k] w (CurN w) := by
  have HB := Lib.hid ((Below.refl _ w).alloc (Nat.le_refl _) (.cells #[.int .i64 n, .int .i64 o, .int .i64 k] 38))
  have HX := Lib.hid (B3.new w n o k 38)
  have HR := Lib.hid hr
  have HP : Hid (∀ W, Calls Tryd.prog 26 #[sv n o k, .int .i64 0] W fun e w' => e = .returned (.int .i64 (-1)) ∧ Below W.heap.size W w') := Lib.hid fun W => place_no n o k 0 HR.out W
  unfold sv at HP ⊢
  clear hr
  go_enter Tryd.func24, Tryd.ntmps24
  go_wp2_with (first | (go_at_call 26; refine (HP.out _).mono ?_; rintro e w1 ⟨rfl, hb⟩; have HX1 := Lib.hid (HX.out.below hb); have HB1 := Lib.hid (HB.out.trans (hb.mono HB.out.size)); have HA := Lib.hid ((Below.refl _ w1).alloc (Nat.le_refl _) (.cells #[.int .i64 (-1)] 3)); obtain ⟨c0, c1, c2⟩ := HX1.out; obtain ⟨d0, d1, d2⟩ := HX1.out.below HA.out; clear hb) | (go_at_call 25; refine (right_any _ _ _ _).mono ?_; rintro e w3 ⟨rfl, hb⟩; rw [HR.out]; have HX3 := Lib.hid ((HX1.out.below HA.out).below hb); have HB3 := Lib.hid hb; obtain ⟨e0, e1, e2⟩ := HX3.out; clear hb))
  go_ret
  have hB := HB1.out.alloc HB1.out.size (.cells #[.int .i64 (-1)] 3)
  have hB3 := hB.trans (HB3.out.mono hB.size)
  exact ⟨w3.heap.size, rfl, ⟨by rw [World.cell?_alloc_mark]; rfl, frozen_of_row _ _ _ _ _ (heap_alloc_new w3 _), by rw [World.cell?_alloc_mark]; rfl⟩, hB3.alloc hB3.size _, hB3.size⟩
/-! ### all places -/
set_option maxRecDepth 100000 in
set_option maxHeartbeats 2000000 in
theorem all_no (n o k : Int) (hr : rtB n o k = false) (w : World) : Calls Tryd.prog 28 #[sv n o k] w fun e w' => e = .returned (.slice none 0 0) ∧ Below w.heap.size w w' := by
  have HB := Lib.hid ((Below.refl _ w).alloc (Nat.le_refl _) (.cells #[.int .i64 n, .int .i64 o, .int .i64 k] 38))
  have HR := Lib.hid hr
  unfold sv
  clear hr
  go_enter Tryd.func28, Tryd.ntmps28
  go_wp2_with (go_at_call 25; refine (right_any n o k _).mono ?_; rintro e w' ⟨rfl, hb⟩; rw [HR.out]; have HB2 := Lib.hid (HB.out.trans (hb.mono HB.out.size)); clear hb)
  go_ret
  exact ⟨rfl, HB2.out⟩
def AllP (n o k : Nat) (w : World) (e : Ending) (w' : World) : Prop := ∃ v, e = .returned v ∧ w'.ownsRow w.heap.size 3 1 v n ((ps n o k n).map iv) ∧ Below w.heap.size w w'
set_option maxRecDepth 100000 in
set_option maxHeartbeats 4000000 in
theorem all_yes (n o k : Nat) (hr : rtB n o k = true) (h1 : n ≤ 251) (ho : o < n) (hk : k < n) (w : World) :
    Calls Tryd.prog 28 #[sv n o k] w (AllP n o k w) := by
  have HB := Lib.hid ((Below.refl _ w).alloc (Nat.le_refl _) (.cells #[.int .i64 (n : Int), .int .i64 (o : Int), .int .i64 (k : Int)] 38))
  have HX := Lib.hid (B3.new w n o k 38)
  have HCU : Hid (∀ W, Calls Tryd.prog 24 #[sv n o k] W (CurP n o k W)) := Lib.hid fun W => cursor_yes n o k hr h1 ho hk W
  have HR := Lib.hid hr
  have HN : Hid (n ≤ 251 ∧ o < n ∧ k < n) := Lib.hid ⟨h1, ho, hk⟩
  have b1 : (n : Int) ≤ 251 := by omega
  unfold sv at HCU ⊢
  clear hr h1 ho hk
  go_enter Tryd.func28, Tryd.ntmps28
  go_wp2_with (first | (go_at_call 25; refine (right_any _ _ _ _).mono ?_; rintro e w1 ⟨rfl, hb⟩; rw [HR.out]; have HX1 := Lib.hid (HX.out.below hb); have HB1 := Lib.hid (HB.out.trans (hb.mono HB.out.size)); obtain ⟨c0, c1, c2⟩ := HX1.out; clear hb) | (go_at_call 24; refine (HCU.out _).mono ?_; rintro e w2 ⟨Bc, Ba, Bs, rfl, hcs, hb, hBc, hBa, hBc', hBa'⟩; have HCS := Lib.hid hcs; have HB2 := Lib.hid (HB1.out.trans (hb.mono HB1.out.size)); have HLE : Hid (w.heap.size ≤ Bc ∧ w.heap.size ≤ Ba ∧ Bc < w2.heap.size ∧ Ba < w2.heap.size) := Lib.hid ⟨Nat.le_trans HB1.out.size hBc, Nat.le_trans HB1.out.size hBa, hBc', hBa'⟩; obtain ⟨d0, d1, d2⟩ := HX1.out.below hb; clear hb hcs hBc hBa hBc' hBa'))
  go_loopw [3, 12] (fun v i wr => ∃ j : Nat, j ≤ n ∧ i = .int .i64 (j : Int) ∧ wr.ownsRow w2.heap.size 3 1 v j ((ps n o k j).map iv) ∧ CS Bc Ba Bs n k (pos n o k j) j wr ∧ Below w.heap.size w wr ∧ w2.heap.size ≤ wr.heap.size) (fun _ i _ => n - (intOf i).toNat)
  case atStart => exact ⟨0, Nat.zero_le _, rfl, World.ownsRow_nil _ _ _ _, by rw [pos_zero n o k HN.out.2.1]; exact HCS.out, HB2.out, Nat.le_refl _⟩
  case round =>
    obtain ⟨j, hj, rfl, hown, hcs, hB, hsz⟩ := hrel
    have HO := Lib.hid hown
    have HC := Lib.hid hcs
    have HBR := Lib.hid hB
    have HSZ := Lib.hid hsz
    clear hown hcs hB hsz
    by_cases hlt : j < n
    · have hlt' : (j : Int) < (n : Int) := by omega
      have HLT := Lib.hid hlt
      have HPS := Lib.hid (ps_succ n o k j)
      have HPO := Lib.hid (pos_succ n o k j)
      have HPL := Lib.hid (pos_lt n o k j (by omega))
      obtain ⟨p, hp⟩ : ∃ p, pos n o k j = p := ⟨_, rfl⟩
      rw [hp] at HPS HPO HC HPL
      clear hp hlt
      go_wp2_with (first | (go_at_call 29; refine (next_yes Bc Ba Bs n k p j _ HC.out HN.out.1 HN.out.2.2 HPL.out (by have := HLT.out; have := HN.out.1; omega)).mono ?_; rintro e w3 ⟨rfl, hw3⟩; have HO3 : Hid (w3.ownsRow w2.heap.size 3 1 u3 j ((ps n o k j).map iv) ∧ Below w.heap.size w w3 ∧ w2.heap.size ≤ w3.heap.size ∧ CS Bc Ba Bs n k ((p + k) % n) (j + 1) w3) := Lib.hid (by rw [hw3]; exact ⟨stepW_own HO.out HLE.out.2.2.1 HLE.out.2.2.2 _ _, stepW_below HBR.out HLE.out.1 HLE.out.2.1 _ _, by rw [stepW_size]; exact HSZ.out, HC.out.step _ _⟩); clear hw3) | (at_builtin; refine wpList_append_int rfl (.tmp 14) (.tmp 17) rfl w2.heap.size u3 j (ps n o k j) (by rfl) (HO3.out.1.alloc _) w3.heap.size (p : Int) (by rfl) (by rw [World.cell?_alloc_mark]; rfl) (by have := HLT.out; have := HN.out.1; omega) (Nat.le_trans HO3.out.2.2.1 (by simp)) ?_; intro v4 w4 hown4 hg4; have HO4 := Lib.hid hown4; have HB4 : Hid (Below w2.heap.size w3 w4) := Lib.hid ((((Below.refl w2.heap.size w3).alloc HO3.out.2.2.1 (.cells #[.int .i64 (p : Int)] 3))).grown hg4 (Nat.le_trans HO3.out.2.2.1 (by simp)) (fun r h => iown_ge HO3.out.1 r h)); clear hown4 hg4))
      refine ⟨⟨j + 1, by have := HLT.out; omega, by go_num, by rw [HPS.out]; exact HO4.out, ?_, ?_, ?_⟩, by have := HLT.out; simp [intOf]; omega⟩
      · rw [HPO.out]
        have h3 := HO3.out.2.2.2
        have hl := HLE.out
        have hcell : ∀ (b i : Nat) (v : Value), b < w2.heap.size → w3.cell? ⟨b, i, none⟩ = some v → w4.cell? ⟨b, i, none⟩ = some v := fun b i v hb h => (HB4.out.cell (p := ⟨b, i, none⟩) hb).trans h
        have hs2 : Bs < w2.heap.size := World.block_lt_of_cell? w2 _ HCS.out.s0
        exact ⟨hcell _ _ _ hs2 h3.s0, hcell _ _ _ hs2 h3.s2, hcell _ _ _ hl.2.2.2 h3.a0, (HB4.out.frozen (p := ⟨Ba, 0, none⟩) hl.2.2.2).trans h3.fa, hcell _ _ _ hl.2.2.1 h3.c3, (HB4.out.frozen (p := ⟨Bc, 3, none⟩) hl.2.2.1).trans h3.fc, hcell _ _ _ hl.2.2.1 h3.c4, h3.ne1, h3.ne2, h3.ne3⟩
      · exact HO3.out.2.1.trans (HB4.out.mono HB2.out.size)
      · exact Nat.le_trans HO3.out.2.2.1 HB4.out.size
    · obtain rfl : j = n := by omega
      go_wp2_with fail
      go_ret
      obtain ⟨h1, h2⟩ := HO.out
      refine ⟨_, rfl, ⟨h1, ?_⟩, HBR.out⟩
      rcases h2 with h2 | ⟨g, cap, cur, hv, hg, r⟩
      · exact .inl h2
      · exact .inr ⟨g, cap, cur, hv, Nat.le_trans HB2.out.size hg, r⟩
end Go.Proofs.YtifdbjombgcfcaaDoor
