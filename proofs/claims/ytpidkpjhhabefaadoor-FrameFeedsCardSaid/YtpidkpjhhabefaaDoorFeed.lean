/- Streams: New, Waits, Broken, Count, Feed. -/
import Derived.Test.YtpidkpjhhabefaaDoorFrameOpen
import Derived.Test.YtpidkpjhhabefaaDoorFeedMath
import Derived.RangeFuncSeq
namespace Go.Proofs.YtpidkpjhhabefaaDoor
open Go.RowKit FrameMath
set_option linter.unusedVariables false

/-! ### Memory that has changed in some blocks alone -/
structure Off (bad : Nat → Prop) (w w' : World) : Prop where
  os : w'.os = w.os
  tape : w'.tape = w.tape
  output : w'.output = w.output
  size : w.heap.size ≤ w'.heap.size
  block : ∀ k, k < w.heap.size → ¬ bad k → w'.heap[k]? = w.heap[k]?
theorem Off.refl (bad : Nat → Prop) (w : World) : Off bad w w := ⟨rfl, rfl, rfl, Nat.le_refl _, fun _ _ _ => rfl⟩
theorem Off.trans {bad : Nat → Prop} {a b c : World} (h : Off bad a b) (k : Off bad b c) : Off bad a c :=
  ⟨k.os.trans h.os, k.tape.trans h.tape, k.output.trans h.output, Nat.le_trans h.size k.size, fun i hi hn => (k.block i (Nat.lt_of_lt_of_le hi h.size) hn).trans (h.block i hi hn)⟩
theorem Off.below {bad : Nat → Prop} {w w' : World} (h : Below w.heap.size w w') : Off bad w w' := ⟨h.os, h.tape, h.output, h.size, fun k hk _ => h.block k hk⟩
theorem Off.grown {bad : Nat → Prop} {w w' : World} {row : Option Nat} (h : w.grownBy w' row) (hr : ∀ k, row = some k → bad k) : Off bad w w' :=
  ⟨h.os, h.tape, h.output, h.size, fun k hk hn => h.block k hk (fun e => hn (hr k e.symm))⟩
theorem Off.mono {bad bad' : Nat → Prop} {w w' : World} (h : Off bad w w') (hb : ∀ k, bad k → bad' k) : Off bad' w w' := ⟨h.os, h.tape, h.output, h.size, fun k hk hn => h.block k hk (fun e => hn (hb k e))⟩
theorem Off.setCell {bad : Nat → Prop} {w w' : World} (h : Off bad w w') (b o : Nat) (v : Value) (hb : bad b) : Off bad w (w'.setCell ⟨b, o, none⟩ v) :=
  h.trans ⟨rfl, rfl, rfl, (KeepsWalks.setCell w' _ v).size, fun k _ hk => Below.heap_setCell _ _ _ k (fun e => hk (by rw [e]; exact hb))⟩
theorem Off.drewN {bad : Nat → Prop} (w : World) (k : Nat) : Off bad w (w.drewN k) := ⟨rfl, rfl, rfl, Nat.le_refl _, fun _ _ _ => rfl⟩
theorem Off.cell {bad : Nat → Prop} {w w' : World} (h : Off bad w w') {b o : Nat} {v : Value} (hc : w.cell? ⟨b, o, none⟩ = some v) (hb : ¬ bad b) : w'.cell? ⟨b, o, none⟩ = some v := by
  rw [World.cell?_of_block (a := ⟨b, o, none⟩) (h.block b (World.block_lt_of_cell? w _ hc) hb)]
  exact hc
theorem own_off {bad : Nat → Prop} {w w' : World} {base : Nat} {e : TypeId} {size n : Nat} {v : Value} {xs : List Value} (h : w.ownsRow base e size v n xs) (ho : Off bad w w') (hb : ∀ k, v.ownBlock = some k → ¬ bad k) : w'.ownsRow base e size v n xs := by
  obtain ⟨h1, h2⟩ := h
  refine ⟨h1, ?_⟩
  rcases h2 with h2 | ⟨g, cap, cur, rfl, hg, hh, r⟩
  · exact .inl h2
  · refine .inr ⟨g, cap, cur, rfl, hg, ?_, r⟩
    rw [ho.block g (Array.getElem?_eq_some_iff.1 hh).1 (hb g rfl)]
    exact hh
theorem own_lt {w : World} {base : Nat} {e : TypeId} {size n : Nat} {v : Value} {xs : List Value} (h : w.ownsRow base e size v n xs) : ∀ k, v.ownBlock = some k → k < w.heap.size := by
  intro k hk
  rcases h.2 with ⟨rfl, _⟩ | ⟨g, cap, cur, rfl, _, hb, _⟩
  · simp [Value.ownBlock] at hk
  · simp [Value.ownBlock] at hk
    subst hk
    exact (Array.getElem?_eq_some_iff.1 hb).1

/-- A stream in memory. -/
structure StreamAt (w : World) (base B : Nat) (wl : List UInt8) (vw : Value) (br : Bool) (ct : Nat) : Prop where
  c0 : w.cell? ⟨B, 0, none⟩ = some vw
  c1 : w.cell? ⟨B, 1, none⟩ = some (.bool br)
  c2 : w.cell? ⟨B, 2, none⟩ = some (.int .i64 (ct : Int))
  f0 : w.frozen? ⟨B, 0, none⟩ = false
  f1 : w.frozen? ⟨B, 1, none⟩ = false
  f2 : w.frozen? ⟨B, 2, none⟩ = false
  own : w.ownsRow base 5 1 vw wl.length (wl.map u8v)
  ne : vw.ownBlock ≠ some B
  ge : base ≤ B
theorem StreamAt.lt {w : World} {base B : Nat} {wl : List UInt8} {vw : Value} {br : Bool} {ct : Nat} (h : StreamAt w base B wl vw br ct) : B < w.heap.size := World.block_lt_of_cell? w _ h.c0
theorem StreamAt.off {bad : Nat → Prop} {w w' : World} {base B : Nat} {wl : List UInt8} {vw : Value} {br : Bool} {ct : Nat} (h : StreamAt w base B wl vw br ct) (ho : Off bad w w') (hB : ¬ bad B) (hv : ∀ k, vw.ownBlock = some k → ¬ bad k) : StreamAt w' base B wl vw br ct where
  c0 := ho.cell h.c0 hB
  c1 := ho.cell h.c1 hB
  c2 := ho.cell h.c2 hB
  f0 := by rw [World.frozen?_of_block (a := ⟨B, 0, none⟩) (ho.block B h.lt hB)]; exact h.f0
  f1 := by rw [World.frozen?_of_block (a := ⟨B, 1, none⟩) (ho.block B h.lt hB)]; exact h.f1
  f2 := by rw [World.frozen?_of_block (a := ⟨B, 2, none⟩) (ho.block B h.lt hB)]; exact h.f2
  own := own_off h.own ho hv
  ne := h.ne
  ge := h.ge

theorem new_any (w : World) : Calls Tryd.prog 14 #[] w fun e w' => e = .returned (.pointer (some ⟨w.heap.size, 0, none⟩)) ∧ w' = w.alloc (.cells #[.slice none 0 0, .bool false, .int .i64 0] 56) := by
  go_enter Tryd.func14, Tryd.ntmps14
  go_wp2_with fail
  go_ret
  exact ⟨rfl, rfl⟩
theorem broken_any (w : World) (base B : Nat) (wl : List UInt8) (vw : Value) (br : Bool) (ct : Nat) (h : StreamAt w base B wl vw br ct) : Calls Tryd.prog 16 #[.pointer (some ⟨B, 0, none⟩)] w fun e w' => e = .returned (.bool br) ∧ w = w' := by
  have c1 := h.c1
  clear h
  go_enter Tryd.func16, Tryd.ntmps16
  go_wp2_with fail
  go_ret
  exact ⟨rfl, rfl⟩
theorem count_any (w : World) (base B : Nat) (wl : List UInt8) (vw : Value) (br : Bool) (ct : Nat) (h : StreamAt w base B wl vw br ct) : Calls Tryd.prog 18 #[.pointer (some ⟨B, 0, none⟩)] w fun e w' => e = .returned (.int .i64 (ct : Int)) ∧ w = w' := by
  have c1 := h.c2
  clear h
  go_enter Tryd.func18, Tryd.ntmps18
  go_wp2_with fail
  go_ret
  exact ⟨rfl, rfl⟩
theorem waits_any (w : World) (base B : Nat) (wl : List UInt8) (vw : Value) (br : Bool) (ct : Nat) (h : StreamAt w base B wl vw br ct) : Calls Tryd.prog 17 #[.pointer (some ⟨B, 0, none⟩)] w fun e w' => e = .returned (.int .i64 (wl.length : Int)) ∧ w = w' := by
  have c1 := h.c0
  obtain ⟨ao, cap, rfl, _⟩ := own_cells h.own
  clear h
  go_enter Tryd.func17, Tryd.ntmps17
  go_wp2_with fail
  go_ret
  exact ⟨rfl, rfl⟩
set_option maxHeartbeats 1000000 in
theorem clone_own (b off n c : Nat) (l : List UInt8) (w : World) (hn : l.length = n) (hsz : n ≤ 1000000) (hc : Cells w (some ⟨b, off, none⟩) l) :
    Calls Tryd.prog 22 #[.slice (some ⟨b, off, none⟩) n c] w fun e w' => ∃ v, e = .returned v ∧ Below w.heap.size w w' ∧ w'.ownsRow w.heap.size 5 1 v n (l.map u8v) := by
  have HN := Lib.hid hn
  have HC := Lib.hid hc
  have HB1 := Lib.hid ((Below.refl w.heap.size w).alloc (Nat.le_refl _) (.cells #[] 5))
  have hq : Sem.run Tryd.prog (binOp .eql 22 (.slice (some ⟨b, off, none⟩) n c) (.slice none 0 0)) w = .ok (.bool false) w := Lib.run_eql_slice_nil w _ _ _ _ _ _ _ Tryd.underlying22
  clear hn hc
  go_enter Tryd.func22, Tryd.ntmps22
  go_wp2_with (at_builtin; refine wpList_append_u8 rfl (.tmp 5) (.tmp 6) rfl w.heap.size (.slice (some ⟨w.heap.size, 0, none⟩) 0 0) 0 [] rfl (own_fresh _ _ (Nat.le_refl _)) (some ⟨b, off, none⟩) n c l rfl HN.out (fun h => by cases h) (HC.out.below HB1.out rfl) (by omega) HB1.out.size ?_; intro v2 w2 hown2 hg2; simp only [Nat.zero_add, List.nil_append] at hown2)
  go_ret
  exact ⟨_, rfl, HB1.out.grown hg2 HB1.out.size (fun k h => by cases h; exact Nat.le_refl _), hown2⟩
theorem clone_nil (w : World) : Calls Tryd.prog 22 #[.slice none 0 0] w fun e w' => e = .returned (.slice none 0 0) ∧ w = w' := by
  have hq : Sem.run Tryd.prog (binOp .eql 22 (.slice none 0 0) (.slice none 0 0)) w = .ok (.bool true) w := Lib.run_eql_slice_nil w _ _ _ _ _ _ _ Tryd.underlying22
  go_enter Tryd.func22, Tryd.ntmps22
  go_wp2_with fail
  go_ret
  exact ⟨rfl, rfl⟩
end Go.Proofs.YtpidkpjhhabefaaDoor
