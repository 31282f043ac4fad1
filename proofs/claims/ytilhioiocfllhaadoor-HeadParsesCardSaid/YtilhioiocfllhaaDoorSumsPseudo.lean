/- The walks of ref02.Bytes, sums.Pseudo and the reference's Pseudo. -/
import Derived.Test.YtilhioiocfllhaaDoorAddr
import Derived.Test.YtilhioiocfllhaaDoorGat
namespace Go.Proofs.YtilhioiocfllhaaDoor
open Go.RowKit
set_option linter.unusedVariables false

theorem asize_le (six : Bool) : asize six ≤ 1000000 := by cases six <;> decide
set_option maxHeartbeats 1000000 in
theorem refBytes_any (A : List Value) (six : Bool) (l : List UInt8) (w : World) (h : IsAddr A six l) :
    Calls Tryd.prog 63 #[.agg A.toArray] w fun e w' => e = .returned (.slice (some ⟨w.heap.size, 1, none⟩) (asize six) 16) ∧ w' = w.alloc (.cells A.toArray 46) := by
  have h0 := h.head
  clear h
  cases six
  · go_enter Tryd.func63, Tryd.ntmps63
    go_wp2_with fail
    go_ret
    exact ⟨rfl, rfl⟩
  · go_enter Tryd.func63, Tryd.ntmps63
    go_wp2_with fail
    go_ret
    exact ⟨rfl, rfl⟩

/-- Two boxed addresses, wherever memory has grown. -/
theorem two_boxed (n1 n2 : Nat) (A1 A2 : List Value) (t : TypeId) (w : World) (h1 : A1.length = n1) (h2 : A2.length = n2) : ∀ w', Below (w.heap.size + 2) ((w.alloc (.cells A1.toArray t)).alloc (.cells A2.toArray t)) w' → gat n1 w' w.heap.size 0 = some A1 ∧ gat n2 w' (w.heap.size + 1) 0 = some A2 := by
  intro w' hb
  have g1 := gat_box n1 w A1 t h1
  have g1' := gat_below g1 ((Below.refl (w.alloc (.cells A1.toArray t)).heap.size _).alloc (Nat.le_refl _) (.cells A2.toArray t)) (by simp)
  have g2 := gat_box2 n2 w A1.toArray t t A2 h2
  exact ⟨gat_below g1' hb (by omega), gat_below g2 hb (by omega)⟩
/-- The load of an address, as one word. -/
def loadAddr (x : Value) : Sem Value := Instr.loadAt 46 x
theorem loadAddr_eq (x : Value) : Instr.loadAt 46 x = loadAddr x := rfl
theorem run_loadAddr (w : World) (b o : Nat) (h : (gat 17 w b o).isSome = true) : Sem.run Tryd.prog (loadAddr (.pointer (some ⟨b, o, none⟩))) w = .ok (.agg ((gat 17 w b o).getD []).toArray) w :=
  load_gat 17 _ _ Tryd.underlying46 rfl (by kernel_rfl) w b o h
attribute [local go_sem ↓] loadAddr_eq
attribute [local go_sem] run_loadAddr

/-- The bytes of a number. -/
def byteAt (n : Int) (d : Int) : UInt8 := UInt8.ofNat ((n / d) % 256).toNat
theorem byteAt_val (n d : Int) : n / d % 256 = ((byteAt n d).toNat : Int) := by
  have h0 : 0 ≤ n / d % 256 := Int.emod_nonneg _ (by decide)
  have h1 : n / d % 256 < 256 := Int.emod_lt_of_pos _ (by decide)
  unfold byteAt
  rw [UInt8.toNat_ofNat']
  omega
theorem byteAt_one (n : Int) : n % 256 = ((byteAt n 1).toNat : Int) := by rw [← byteAt_val, Int.ediv_one]
def tsize (six : Bool) : Nat := if six then 8 else 4
def pseudo (six : Bool) (a b : List UInt8) (p n : Int) : List UInt8 :=
  (a ++ b) ++ (if six then [byteAt n 16777216, byteAt n 65536, byteAt n 256, byteAt n 1, 0, 0, 0, byteAt p 1] else [0, byteAt p 1, byteAt n 256, byteAt n 1])

set_option maxRecDepth 100000 in
set_option maxHeartbeats 4000000 in
theorem pseudo_any (A1 A2 : List Value) (six1 six2 : Bool) (l1 l2 : List UInt8) (p n : Int) (w : World) (h1 : IsAddr A1 six1 l1) (h2 : IsAddr A2 six2 l2) (wp : (Lit.int .i64 p).wf = true) (wn : (Lit.int .i64 n).wf = true) :
    Calls Tryd.prog 77 #[.agg A1.toArray, .agg A2.toArray, .int .i64 p, .int .i64 n] w
      (OwnPost (asize six1 + asize six2 + tsize six1) (pseudo six1 (l1.take (asize six1)) (l2.take (asize six2)) p n) w) := by
  have HL1 := Lib.hid h1
  have HL2 := Lib.hid h2
  have HR := Lib.hid (two_boxed 17 17 A1 A2 46 w h1.length h2.length)
  have HB0 : Hid (Below (w.heap.size + 2) ((w.alloc (.cells A1.toArray 46)).alloc (.cells A2.toArray 46)) ((w.alloc (.cells A1.toArray 46)).alloc (.cells A2.toArray 46))) := Lib.hid (Below.refl _ _)
  clear h1 h2
  go_enter Tryd.func77, Tryd.ntmps77
  go_wp2_with fail
  obtain ⟨g1, g2⟩ := HR.out _ HB0.out
  have HS0 : Hid (w.heap.size + 2 ≤ ((w.alloc (.cells A1.toArray 46)).alloc (.cells A2.toArray 46)).heap.size) := Lib.hid (by simp)
  go_region_held3 (fun w' => gat 17 w' w.heap.size 0 = some A1 ∧ gat 17 w' (w.heap.size + 1) 0 = some A2) (first | exact HR.out _ HB3.out | exact HR.out _ HB2.out | exact HR.out _ (HB2.out.alloc HS2.out _) | exact HR.out _ HB1.out | exact HR.out _ HB0.out | exact HR.out _ HB0.out.drew) (first | ((go_at_call 84; refine (addrBytes_any A1 six1 l1 _ HL1.out).mono ?_; rintro e w1 ⟨v1, rfl, hb1, hO1⟩; have HB1 := Lib.hid (HB0.out.drew.trans (hb1.mono HS0.out)); have HS1 := Lib.hid (Nat.le_trans HS0.out HB1.out.size); obtain ⟨ao1, c1, rfl, hc1, hl1, hn1, _, _⟩ := own_cells hO1; have HP1 := Lib.hid (show Piece.ok w1 ⟨ao1, asize six1, c1, l1.take (asize six1)⟩ from ⟨hl1, asize_le six1, hn1, hc1⟩); clear hb1 hO1 hc1 hl1 hn1)) | ((go_at_call 84; refine (addrBytes_any A2 six2 l2 _ HL2.out).mono ?_; rintro e w2 ⟨v2, rfl, hb2, hO2⟩; have HB2 := Lib.hid (HB1.out.trans (hb2.mono HS1.out)); have HS2 := Lib.hid (Nat.le_trans HS0.out HB2.out.size); obtain ⟨ao2, c2, rfl, hc2, hl2, hn2, _, _⟩ := own_cells hO2; have HP2 := Lib.hid (show Piece.ok w2 ⟨ao2, asize six2, c2, l2.take (asize six2)⟩ from ⟨hl2, asize_le six2, hn2, hc2⟩); have HP1' := Lib.hid (HP1.out.below hb2 rfl); clear hb2 hO2 hc2 hl2 hn2)) | ((go_at_call 59; refine (concat2 ⟨ao1, asize six1, c1, l1.take (asize six1)⟩ ⟨ao2, asize six2, c2, l2.take (asize six2)⟩ _ w2 HP1'.out HP2.out).mono ?_; rintro e w3 ⟨v3, rfl, hb3, hO3⟩; have HB2' := HB2.out.alloc HS2.out (.cells #[Piece.val ⟨ao1, asize six1, c1, l1.take (asize six1)⟩, Piece.val ⟨ao2, asize six2, c2, l2.take (asize six2)⟩] 23); have HS2' := Nat.le_trans HS0.out HB2'.size; have HB3 := Lib.hid (HB2'.trans (hb3.mono HS2')); have HO3 := Lib.hid (own_weaken' hO3 HS2'); clear hb3 hO3 HB2' HS2')))
  obtain ⟨g1', g2'⟩ := HR.out _ HB3.out
  have hsix := cell_of_gat g1' 0 _ HL1.out.head
  rw [Nat.zero_add] at hsix
  clear g1 g2 g1' g2'
  have HS3 := Lib.hid (Nat.le_trans HS0.out HB3.out.size)
  have HS4 : Hid (∀ o, w.heap.size + 2 ≤ (w3.alloc o).heap.size) := Lib.hid fun o => by simp; have := HS3.out; omega
  have HZ : Hid (∀ k, k ≤ 8 → asize six1 + asize six2 + k ≤ 100000000000000) := Lib.hid fun k hk => by have := asize_le six1; have := asize_le six2; omega
  have HF : Hid (∀ o w4, (w3.alloc o).grownBy w4 v3.ownBlock → Below w.heap.size w w4) := Lib.hid fun o w4 hg => by
    have h0 : Below w.heap.size w ((w.alloc (.cells A1.toArray 46)).alloc (.cells A2.toArray 46)) := ((Below.refl _ _).alloc (Nat.le_refl _) _).alloc (by simp) _
    have h1 := (HB3.out.alloc HS3.out o).grown hg (HS4.out o) (fun k h => own_ge HO3.out k h)
    exact h0.trans (h1.mono (by omega))
  have q1 := byteAt_one p
  have q2 := byteAt_one n
  have q3 := byteAt_val n 256
  have q4 := byteAt_val n 65536
  have q5 := byteAt_val n 16777216
  obtain ⟨y1, hy1⟩ : ∃ y, byteAt p 1 = y := ⟨_, rfl⟩
  obtain ⟨y2, hy2⟩ : ∃ y, byteAt n 1 = y := ⟨_, rfl⟩
  obtain ⟨y3, hy3⟩ : ∃ y, byteAt n 256 = y := ⟨_, rfl⟩
  obtain ⟨y4, hy4⟩ : ∃ y, byteAt n 65536 = y := ⟨_, rfl⟩
  obtain ⟨y5, hy5⟩ : ∃ y, byteAt n 16777216 = y := ⟨_, rfl⟩
  have HPS : Hid (∀ a b : List UInt8, pseudo six1 a b p n = (a ++ b) ++ (if six1 then [y5, y4, y3, y2, 0, 0, 0, y1] else [0, y1, y3, y2])) := Lib.hid fun a b => by rw [← hy1, ← hy2, ← hy3, ← hy4, ← hy5]; rfl
  rw [hy1] at q1
  rw [hy2] at q2
  rw [hy3] at q3
  rw [hy4] at q4
  rw [hy5] at q5
  clear hy1 hy2 hy3 hy4 hy5
  cases six1
  · go_wp2_with (at_builtin; refine wpList_append_u8 rfl (.tmp 34) (.tmp 42) rfl (w.heap.size + 2) v3 (asize false + asize six2) _ rfl (HO3.out.alloc _) (some ⟨w3.heap.size, 0, none⟩) 4 4 [0, y1, y3, y2] rfl rfl (fun h => by cases h) (Cells.new w3 _ _ _ rfl) (HZ.out _ (by decide)) (HS4.out _) ?_; intro v4 w4 hown4 hg4)
    go_ret
    exact ⟨v4, rfl, HF.out _ w4 hg4, by rw [HPS.out]; exact own_weaken' hown4 (Nat.le_add_right w.heap.size 2)⟩
  · go_wp2_with (at_builtin; refine wpList_append_u8 rfl (.tmp 18) (.tmp 32) rfl (w.heap.size + 2) v3 (asize true + asize six2) _ rfl (HO3.out.alloc _) (some ⟨w3.heap.size, 0, none⟩) 8 8 [y5, y4, y3, y2, 0, 0, 0, y1] rfl rfl (fun h => by cases h) (Cells.new w3 _ _ _ rfl) (HZ.out _ (by decide)) (HS4.out _) ?_; intro v4 w4 hown4 hg4)
    go_ret
    exact ⟨v4, rfl, HF.out _ w4 hg4, by rw [HPS.out]; exact own_weaken' hown4 (Nat.le_add_right w.heap.size 2)⟩

/-- A boxed address's bytes. -/
theorem box_cells (A : List Value) (six : Bool) (l : List UInt8) (t : TypeId) (w : World) (h : IsAddr A six l) (n : Nat) : Cells (w.alloc (.cells A.toArray t)) (some ⟨w.heap.size, 1, none⟩) (l.take n) :=
  (h.cells_of (range_of_gat (gat_box 17 w A t h.length)).1).left' n
set_option maxRecDepth 100000 in
set_option maxHeartbeats 4000000 in
theorem refpseudo_any (A1 A2 : List Value) (six1 six2 : Bool) (l1 l2 : List UInt8) (p n : Int) (w : World) (h1 : IsAddr A1 six1 l1) (h2 : IsAddr A2 six2 l2) :
    Calls Tryd.prog 55 #[.agg A1.toArray, .agg A2.toArray, .int .i64 p, .int .i64 n] w
      (OwnPost (asize six1 + asize six2 + tsize six1) (pseudo six1 (l1.take (asize six1)) (l2.take (asize six2)) p n) w) := by
  have HL1 := Lib.hid h1
  have HL2 := Lib.hid h2
  have HR := Lib.hid (two_boxed 17 17 A1 A2 46 w h1.length h2.length)
  have HB0 : Hid (Below (w.heap.size + 2) ((w.alloc (.cells A1.toArray 46)).alloc (.cells A2.toArray 46)) ((w.alloc (.cells A1.toArray 46)).alloc (.cells A2.toArray 46))) := Lib.hid (Below.refl _ _)
  clear h1 h2
  obtain ⟨W0, hW0⟩ : ∃ W, ((w.alloc (.cells A1.toArray 46)).alloc (.cells A2.toArray 46)) = W := ⟨_, rfl⟩
  have hs0 : W0.heap.size = w.heap.size + 2 := by rw [← hW0]; simp
  have HBW := Lib.hid (show Below w.heap.size w W0 from by rw [← hW0]; exact ((Below.refl _ _).alloc (Nat.le_refl _) _).alloc (by simp) _)
  rw [hW0] at HR HB0
  go_enter Tryd.func55, Tryd.ntmps55
  go_wp2_with fail
  obtain ⟨g1, g2⟩ := HR.out _ HB0.out
  have hs0' : w.heap.size + 2 ≤ W0.heap.size := by omega
  have hBA := Lib.hid ((HB0.out.alloc hs0' (.cells #[] 5)).drew)
  have hBB := Lib.hid (((HB0.out.alloc hs0' (.cells #[] 5)).alloc (by simp; omega) (.cells A1.toArray 46)).drew)
  have hBC := Lib.hid ((HB0.out.alloc hs0' (.cells A1.toArray 46)).drew)
  have hBD := Lib.hid (((HB0.out.alloc hs0' (.cells A1.toArray 46)).alloc (by simp; omega) (.cells #[] 5)).drew)
  have HA2 : Hid (asize six1 + asize six2 + 100 ≤ 100000000000000) := Lib.hid (by have := asize_le six1; have := asize_le six2; omega)
  have HT1 : Hid ((l1.take (asize six1)).length = asize six1) := Lib.hid (by rw [List.length_take, HL1.out.1]; cases six1 <;> decide)
  have HT2 : Hid ((l2.take (asize six2)).length = asize six2) := Lib.hid (by rw [List.length_take, HL2.out.1]; cases six2 <;> decide)
  have HOA : Hid (((W0.alloc (.cells #[] 5)).alloc (.cells A1.toArray 46)).ownsRow (w.heap.size + 2) 5 1 (.slice (some ⟨w.heap.size + 2, 0, none⟩) 0 0) 0 (([] : List UInt8).map u8v)) := Lib.hid (by
    have := (own_fresh (w.heap.size + 2) W0 hs0').alloc (.cells A1.toArray 46)
    rwa [hs0] at this)
  have HCA : Hid (Cells ((W0.alloc (.cells #[] 5)).alloc (.cells A1.toArray 46)) (some ⟨w.heap.size + 2 + 1, 1, none⟩) (l1.take (asize six1))) := Lib.hid (by
    have := box_cells A1 six1 l1 46 (W0.alloc (.cells #[] 5)) HL1.out (asize six1)
    rwa [show (W0.alloc (.cells #[] 5)).heap.size = w.heap.size + 2 + 1 by simp [hs0]] at this)
  have HOB : Hid (((W0.alloc (.cells A1.toArray 46)).alloc (.cells #[] 5)).ownsRow (w.heap.size + 2) 5 1 (.slice (some ⟨w.heap.size + 2 + 1, 0, none⟩) 0 0) 0 (([] : List UInt8).map u8v)) := Lib.hid (by
    have := own_fresh (w.heap.size + 2) (W0.alloc (.cells A1.toArray 46)) (by simp; omega)
    rwa [show (W0.alloc (.cells A1.toArray 46)).heap.size = w.heap.size + 2 + 1 by simp [hs0]] at this)
  have HCB : Hid (Cells ((W0.alloc (.cells A1.toArray 46)).alloc (.cells #[] 5)) (some ⟨w.heap.size + 2, 1, none⟩) (l1.take (asize six1))) := Lib.hid (by
    have := (box_cells A1 six1 l1 46 W0 HL1.out (asize six1)).below ((Below.refl _ _).alloc (Nat.le_refl _) (.cells #[] 5)) rfl
    rwa [hs0] at this)
  have HZ : Hid (∀ k, k ≤ 8 → asize six1 + asize six2 + k ≤ 100000000000000) := Lib.hid fun k hk => by have := asize_le six1; have := asize_le six2; omega
  have q1 := byteAt_one p
  have q2 := byteAt_one n
  have q3 := byteAt_val n 256
  have q4 := byteAt_val n 65536
  have q5 := byteAt_val n 16777216
  obtain ⟨y1, hy1⟩ : ∃ y, byteAt p 1 = y := ⟨_, rfl⟩
  obtain ⟨y2, hy2⟩ : ∃ y, byteAt n 1 = y := ⟨_, rfl⟩
  obtain ⟨y3, hy3⟩ : ∃ y, byteAt n 256 = y := ⟨_, rfl⟩
  obtain ⟨y4, hy4⟩ : ∃ y, byteAt n 65536 = y := ⟨_, rfl⟩
  obtain ⟨y5, hy5⟩ : ∃ y, byteAt n 16777216 = y := ⟨_, rfl⟩
  have HPS : Hid (∀ a b : List UInt8, pseudo six1 a b p n = (a ++ b) ++ (if six1 then [y5, y4, y3, y2, 0, 0, 0, y1] else [0, y1, y3, y2])) := Lib.hid fun a b => by rw [← hy1, ← hy2, ← hy3, ← hy4, ← hy5]; rfl
  rw [hy1] at q1
  rw [hy2] at q2
  rw [hy3] at q3
  rw [hy4] at q4
  rw [hy5] at q5
  clear hy1 hy2 hy3 hy4 hy5
  have eu : ∀ n : Int, IntKind.u64.wrap n = n % 18446744073709551616 := fun n => by simp [IntKind.wrap, IntKind.bits, IntKind.signed]
  have hn0 : 0 ≤ IntKind.u64.wrap n := by rw [eu]; omega
  have hp0 : 0 ≤ IntKind.u64.wrap p := by rw [eu]; omega
  obtain ⟨K, hK⟩ : ∃ K, IntKind.u64.wrap n % 4294967296 = K := ⟨_, rfl⟩
  have eK : K = n % 4294967296 := by rw [← hK, eu]; omega
  have hK0 : 0 ≤ K := by omega
  have r1 : IntKind.u64.wrap p % 256 = (y1.toNat : Int) := by rw [← q1, eu]; omega
  have r2 : K % 256 = (y2.toNat : Int) := by rw [← q2]; omega
  have r3 : K / 256 % 256 = (y3.toNat : Int) := by rw [← q3]; omega
  have r4 : K / 65536 % 256 = (y4.toNat : Int) := by rw [← q4]; omega
  have r5 : K / 16777216 = (y5.toNat : Int) := by rw [← q5]; omega
  have b1 : (y1.toNat : Int) < 256 := by have := y1.toNat_lt; omega
  have b2 : (y2.toNat : Int) < 256 := by have := y2.toNat_lt; omega
  have b3 : (y3.toNat : Int) < 256 := by have := y3.toNat_lt; omega
  have b4 : (y4.toNat : Int) < 256 := by have := y4.toNat_lt; omega
  have b5 : (y5.toNat : Int) < 256 := by have := y5.toNat_lt; omega
  clear q1 q2 q3 q4 q5 eK eu
  go_region_held3 (fun w' => gat 17 w' w.heap.size 0 = some A1 ∧ gat 17 w' (w.heap.size + 1) 0 = some A2) (first | exact HR.out _ HB5.out | exact HR.out _ (HB4.out.alloc HS4.out _) | exact HR.out _ HB4.out | exact HR.out _ hBB.out | exact HR.out _ hBA.out | exact HR.out _ hBD.out | exact HR.out _ hBC.out | exact HR.out _ HB0.out | exact HR.out _ HB0.out.drew) (first | (go_at_call 63; refine (refBytes_any A1 six1 l1 _ HL1.out).mono ?_; rintro e w1 ⟨rfl, rfl⟩) | (go_at_call 63; refine (refBytes_any A2 six2 l2 _ HL2.out).mono ?_; rintro e w1 ⟨rfl, rfl⟩) | ((refine step_append_u8 ?_ (.tmp 12) (.tmp 14) ?_ (w.heap.size + 2) (.slice (some ⟨w.heap.size + 2, 0, none⟩) 0 0) 0 [] ?_ ?_ (some ⟨w.heap.size + 2 + 1, 1, none⟩) (asize six1) 16 (l1.take (asize six1)) ?_ ?_ ?_ ?_ ?_ ?_ ?_; rfl; rfl; rfl; exact HOA.out; rfl; exact HT1.out; (intro h; cases h); exact HCA.out; (have := HA2.out; omega); exact (Nat.le_trans hs0' hBB.out.size); intro v4 w4 hown4 hg4; simp only [Nat.zero_add, List.nil_append] at hown4; have HO4 := Lib.hid hown4; have HB4 := Lib.hid (hBB.out.grown hg4 (Nat.le_trans hs0' hBB.out.size) (fun k h => own_ge HOA.out k h)); have HS4 := Lib.hid (Nat.le_trans hs0' HB4.out.size); clear hown4 hg4)) | ((refine step_append_u8 ?_ (.tmp 12) (.tmp 14) ?_ (w.heap.size + 2) (.slice (some ⟨w.heap.size + 2 + 1, 0, none⟩) 0 0) 0 [] ?_ ?_ (some ⟨w.heap.size + 2, 1, none⟩) (asize six1) 16 (l1.take (asize six1)) ?_ ?_ ?_ ?_ ?_ ?_ ?_; rfl; rfl; rfl; exact HOB.out; rfl; exact HT1.out; (intro h; cases h); exact HCB.out; (have := HA2.out; omega); exact (Nat.le_trans hs0' hBD.out.size); intro v4 w4 hown4 hg4; simp only [Nat.zero_add, List.nil_append] at hown4; have HO4 := Lib.hid hown4; have HB4 := Lib.hid (hBD.out.grown hg4 (Nat.le_trans hs0' hBD.out.size) (fun k h => own_ge HOB.out k h)); have HS4 := Lib.hid (Nat.le_trans hs0' HB4.out.size); clear hown4 hg4)) | ((refine step_append_u8 ?_ (.tmp 15) (.tmp 17) ?_ (w.heap.size + 2) v4 (asize six1) (l1.take (asize six1)) ?_ ?_ (some ⟨w4.heap.size, 1, none⟩) (asize six2) 16 (l2.take (asize six2)) ?_ ?_ ?_ ?_ ?_ ?_ ?_; rfl; rfl; rfl; exact (HO4.out.alloc _); rfl; exact HT2.out; (intro h; cases h); exact (box_cells A2 six2 l2 _ w4 HL2.out _); (have := HA2.out; omega); exact (Nat.le_trans HS4.out (by simp)); intro v5 w5 hown5 hg5; have HO5 := Lib.hid hown5; have HB5 := Lib.hid ((HB4.out.alloc HS4.out _).grown hg5 (Nat.le_trans HS4.out (by simp)) (fun k h => own_ge HO4.out k h)); have HS5 := Lib.hid (Nat.le_trans hs0' HB5.out.size); clear hown5 hg5)))
  all_goals
    obtain ⟨g1', g2'⟩ := HR.out _ HB5.out
    have hsix := cell_of_gat g1' 0 _ HL1.out.head
    rw [Nat.zero_add] at hsix
    clear g1 g2 g1' g2'
    cases six1
    · go_wp2_with (at_builtin; refine wpList_append_u8 rfl (.tmp 46) (.tmp 55) rfl (w.heap.size + 2) v5 (asize false + asize six2) _ rfl (HO5.out.alloc _) (some ⟨w5.heap.size, 0, none⟩) 4 4 [0, y1, y3, y2] rfl rfl (fun h => by cases h) (Cells.new w5 _ _ _ rfl) (HZ.out _ (by decide)) (Nat.le_trans HS5.out (by simp)) ?_; intro v6 w6 hown6 hg6)
      go_ret
      exact ⟨v6, rfl, HBW.out.trans (((HB5.out.alloc HS5.out _).grown hg6 (Nat.le_trans HS5.out (by simp)) (fun k h => own_ge HO5.out k h)).mono (Nat.le_add_right w.heap.size 2)), by rw [HPS.out]; exact own_weaken' hown6 (Nat.le_add_right w.heap.size 2)⟩
    · go_wp2_with (at_builtin; refine wpList_append_u8 rfl (.tmp 28) (.tmp 44) rfl (w.heap.size + 2) v5 (asize true + asize six2) _ rfl (HO5.out.alloc _) (some ⟨w5.heap.size, 0, none⟩) 8 8 [y5, y4, y3, y2, 0, 0, 0, y1] rfl rfl (fun h => by cases h) (Cells.new w5 _ _ _ rfl) (HZ.out _ (by decide)) (Nat.le_trans HS5.out (by simp)) ?_; intro v6 w6 hown6 hg6)
      go_ret
      exact ⟨v6, rfl, HBW.out.trans (((HB5.out.alloc HS5.out _).grown hg6 (Nat.le_trans HS5.out (by simp)) (fun k h => own_ge HO5.out k h)).mono (Nat.le_add_right w.heap.size 2)), by rw [HPS.out]; exact own_weaken' hown6 (Nat.le_add_right w.heap.size 2)⟩
end Go.Proofs.YtilhioiocfllhaaDoor
