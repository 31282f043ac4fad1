/- The walks of the reference's ports.Put, hash.Tuple and the reference's Tuple. -/
import Derived.Test.YtifdbjombgcfcaaHashPut
namespace Go.Proofs.Ytifdbjombgcfcaa
open Go.RowKit
set_option linter.unusedVariables false
attribute [local go_sem ↓] loadAddr_eq
attribute [local go_sem] run_loadAddr
/-- The load of a point, as one word. -/
def loadPoint (x : Value) : Sem Value := Instr.loadAt 38 x
theorem loadPoint_eq (x : Value) : Instr.loadAt 38 x = loadPoint x := rfl
theorem run_loadPoint (w : World) (b o : Nat) (h : (gat 18 w b o).isSome = true) : Sem.run Try.prog (loadPoint (.pointer (some ⟨b, o, none⟩))) w = .ok (.agg ((gat 18 w b o).getD []).toArray) w :=
  load_gat 18 _ _ Try.underlying38 rfl (by kernel_rfl) w b o h
attribute [local go_sem ↓] loadPoint_eq
attribute [local go_sem] run_loadPoint
theorem u8_wrap (n : Int) : IntKind.u8.wrap n = ((byteAt n 1).toNat : Int) := by rw [← byteAt_one]; simp [IntKind.wrap, IntKind.bits, IntKind.signed]
theorem u64_wrap (n : Int) : IntKind.u64.wrap n = n % 18446744073709551616 := by simp [IntKind.wrap, IntKind.bits, IntKind.signed]

set_option maxRecDepth 100000 in
set_option maxHeartbeats 4000000 in
theorem refportsPut_any (P A : List Value) (six : Bool) (l : List UInt8) (port : Int) (w : World) (h : IsPoint P A six l port) :
    Calls Try.prog 24 #[.agg P.toArray] w (OwnPost (1 + asize six + 2) (portB six l port) w) := by
  have HL := Lib.hid h.2
  have HG := Lib.hid fun w' => point_boxed h 38 w w' (B := w.heap.size + 1)
  obtain ⟨W1, hW1⟩ : ∃ W, w.alloc (.cells P.toArray 38) = W := ⟨_, rfl⟩
  have hs1 : W1.heap.size = w.heap.size + 1 := by rw [← hW1]; simp
  have HBW := Lib.hid (show Below w.heap.size w W1 from by rw [← hW1]; exact (Below.refl _ _).alloc (Nat.le_refl _) _)
  rw [hW1] at HG
  have HB1 := Lib.hid (Below.refl (w.heap.size + 1) W1)
  clear h
  have q1 := byteAt_one port
  have q2 := byteAt_val port 256
  have b1 := byteAt_lt port 1
  have b2 := byteAt_lt port 256
  unfold portB
  obtain ⟨y1, hy1⟩ : ∃ y, byteAt port 1 = y := ⟨_, rfl⟩
  obtain ⟨y2, hy2⟩ : ∃ y, byteAt port 256 = y := ⟨_, rfl⟩
  rw [hy1] at q1 b1 ⊢
  rw [hy2] at q2 b2 ⊢
  clear hy1 hy2
  have hn0 : 0 ≤ IntKind.u64.wrap port := by rw [u64_wrap]; omega
  obtain ⟨K, hK⟩ : ∃ K, IntKind.u64.wrap port % 65536 = K := ⟨_, rfl⟩
  have eK : K = port % 65536 := by rw [← hK, u64_wrap]; omega
  have hK0 : 0 ≤ K := by omega
  have r1 : K % 256 = (y1.toNat : Int) := by rw [← q1]; omega
  have r2 : K / 256 = (y2.toNat : Int) := by rw [← q2]; omega
  clear q1 q2 eK
  have HZ := Lib.hid (asize_le six)
  obtain ⟨g1, g2⟩ := HG.out _ HB1.out (Nat.lt_succ_self _)
  go_enter Try.func24, Try.ntmps24
  go_wp2_with (first | (go_at_call 27; refine (refaddrPut_any A six l _ HL.out).mono ?_; rintro e w2 ⟨v2, rfl, hb2, hO2⟩; have HB2 := Lib.hid (HB1.out.trans (hb2.mono (Nat.le_of_eq hs1.symm))); have HO2 := Lib.hid (own_weaken' hO2 (Nat.le_of_eq hs1.symm)); have HS2 := Lib.hid (Nat.le_trans (Nat.le_of_eq hs1.symm) HB2.out.size); have HB3 := Lib.hid (HB2.out.alloc HS2.out (.cells #[.int .u8 (y2.toNat : Int), .int .u8 (y1.toNat : Int)] 5)); clear hb2 hO2) | (at_builtin; refine wpList_append_u8 rfl (.tmp 10) (.tmp 17) rfl (w.heap.size + 1) v2 (1 + asize six) (putB six l) rfl (HO2.out.alloc _) (some ⟨w2.heap.size, 0, none⟩) 2 2 [y2, y1] rfl rfl (fun h => by cases h) (Cells.new w2 _ _ _ rfl) (by have := HZ.out; omega) (Nat.le_trans HS2.out (by simp)) ?_; intro v4 w4 hown4 hg4))
  go_ret
  exact ⟨v4, rfl, HBW.out.trans ((HB3.out.grown hg4 (Nat.le_trans HS2.out (by simp)) (fun k h => own_ge HO2.out k h)).mono (Nat.le_succ _)), own_weaken' hown4 (Nat.le_succ _)⟩

theorem points_boxed {P1 P2 : List Value} (t : TypeId) (w : World) (h1 : P1.length = 18) (h2 : P2.length = 18) : ∀ w', Below (w.heap.size + 2) ((w.alloc (.cells P1.toArray t)).alloc (.cells P2.toArray t)) w' → gat 18 w' w.heap.size 0 = some P1 ∧ gat 18 w' (w.heap.size + 1) 0 = some P2 := by
  intro w' hb
  have g1 := gat_box 18 w P1 t h1
  have g1' := gat_below g1 ((Below.refl (w.alloc (.cells P1.toArray t)).heap.size _).alloc (Nat.le_refl _) (.cells P2.toArray t)) (by simp)
  have g2 := gat_box2 18 w P1.toArray t t P2 h2
  exact ⟨gat_below g1' hb (by omega), gat_below g2 hb (by omega)⟩
def tupleN (six1 six2 : Bool) : Nat := 1 + ((1 + asize six1 + 2) + (1 + asize six2 + 2))
def tupleB (proto : Int) (six1 : Bool) (l1 : List UInt8) (port1 : Int) (six2 : Bool) (l2 : List UInt8) (port2 : Int) : List UInt8 := [byteAt proto 1] ++ (portB six1 l1 port1 ++ portB six2 l2 port2)
theorem Piece.ok.drew {w : World} {p : Piece} (h : p.ok w) : p.ok w.drew := ⟨h.1, h.2.1, h.2.2.1, h.2.2.2.drew⟩
theorem one_ok (w : World) (x : UInt8) : Piece.ok (w.alloc (.cells #[.int .u8 (x.toNat : Int)] 5)) ⟨some ⟨w.heap.size, 0, none⟩, 1, 1, [x]⟩ :=
  ⟨rfl, by show 1 ≤ 1000000; omega, (fun h => by cases h), Cells.new w _ _ _ rfl⟩

theorem concat3x (a1 a2 a3 : Option Addr) (n1 n2 n3 c1 c2 c3 : Nat) (l1 l2 l3 : List UInt8) (w : World) (h1 : Piece.ok w ⟨a1, n1, c1, l1⟩) (h2 : Piece.ok w ⟨a2, n2, c2, l2⟩) (h3 : Piece.ok w ⟨a3, n3, c3, l3⟩) :
    Calls Try.prog 22 #[.slice (some ⟨w.heap.size, 0, none⟩) 3 3] (w.alloc (.cells #[.slice a1 n1 c1, .slice a2 n2 c2, .slice a3 n3 c3] 26)) (OwnPost (n1 + (n2 + n3)) (l1 ++ (l2 ++ l3)) (w.alloc (.cells #[.slice a1 n1 c1, .slice a2 n2 c2, .slice a3 n3 c3] 26))) :=
  concat3 ⟨a1, n1, c1, l1⟩ ⟨a2, n2, c2, l2⟩ ⟨a3, n3, c3, l3⟩ _ w h1 h2 h3

theorem concat3y (a2 a3 : Option Addr) (x : UInt8) (n2 n3 c2 c3 : Nat) (l2 l3 : List UInt8) (w : World) (h2 : Piece.ok w ⟨a2, n2, c2, l2⟩) (h3 : Piece.ok w ⟨a3, n3, c3, l3⟩) :
    Calls Try.prog 22 #[.slice (some ⟨w.heap.size + 1, 0, none⟩) 3 3] ((w.alloc (.cells #[.int .u8 (x.toNat : Int)] 5)).alloc (.cells #[.slice (some ⟨w.heap.size, 0, none⟩) 1 1, .slice a2 n2 c2, .slice a3 n3 c3] 26)) (OwnPost (1 + (n2 + n3)) ([x] ++ (l2 ++ l3)) ((w.alloc (.cells #[.int .u8 (x.toNat : Int)] 5)).alloc (.cells #[.slice (some ⟨w.heap.size, 0, none⟩) 1 1, .slice a2 n2 c2, .slice a3 n3 c3] 26))) := by
  have hb : Below w.heap.size w (w.alloc (.cells #[.int .u8 (x.toNat : Int)] 5)) := (Below.refl _ _).alloc (Nat.le_refl _) _
  have := concat3x (some ⟨w.heap.size, 0, none⟩) a2 a3 1 n2 n3 1 c2 c3 [x] l2 l3 (w.alloc (.cells #[.int .u8 (x.toNat : Int)] 5)) (one_ok w x) (h2.below hb rfl) (h3.below hb rfl)
  rwa [show (w.alloc (.cells #[.int .u8 (x.toNat : Int)] 5)).heap.size = w.heap.size + 1 by simp] at this

set_option maxRecDepth 100000 in
set_option maxHeartbeats 8000000 in
theorem tuple_any (P1 A1 : List Value) (six1 : Bool) (l1 : List UInt8) (port1 : Int) (P2 A2 : List Value) (six2 : Bool) (l2 : List UInt8) (port2 : Int) (proto : Int) (w : World)
    (h1 : IsPoint P1 A1 six1 l1 port1) (hw1 : (Lit.int .i64 port1).wf = true) (h2 : IsPoint P2 A2 six2 l2 port2) (hw2 : (Lit.int .i64 port2).wf = true) :
    Calls Try.prog 18 #[.int .i64 proto, .agg P1.toArray, .agg P2.toArray] w (OwnPost (tupleN six1 six2) (tupleB proto six1 l1 port1 six2 l2 port2) w) := by
  have HL1 := Lib.hid h1
  have HL2 := Lib.hid h2
  have HW1 := Lib.hid hw1
  have HW2 := Lib.hid hw2
  have HG := Lib.hid (points_boxed 38 w h1.length h2.length)
  obtain ⟨W0, hW0⟩ : ∃ W, (w.alloc (.cells P1.toArray 38)).alloc (.cells P2.toArray 38) = W := ⟨_, rfl⟩
  have hs0 : W0.heap.size = w.heap.size + 2 := by rw [← hW0]; simp
  have HBW := Lib.hid (show Below w.heap.size w W0 from by rw [← hW0]; exact ((Below.refl _ _).alloc (Nat.le_refl _) _).alloc (by simp) _)
  rw [hW0] at HG
  have HB0 := Lib.hid (Below.refl (w.heap.size + 2) W0)
  have HSL : Hid (w.heap.size + 2 ≤ W0.heap.size) := Lib.hid (Nat.le_of_eq hs0.symm)
  clear h1 h2 hw1 hw2
  have q1 := u8_wrap proto
  have b1 := byteAt_lt proto 1
  have HPP : Hid (∀ p1 p2, portB six1 l1 port1 = p1 → portB six2 l2 port2 = p2 → tupleB proto six1 l1 port1 six2 l2 port2 = [byteAt proto 1] ++ (p1 ++ p2)) := Lib.hid fun p1 p2 h1 h2 => by rw [← h1, ← h2]; rfl
  obtain ⟨x, hx⟩ : ∃ y, byteAt proto 1 = y := ⟨_, rfl⟩
  rw [hx] at q1 b1 HPP
  clear hx
  have HZ1 := Lib.hid (asize_le six1)
  have HZ2 := Lib.hid (asize_le six2)
  have HPX := Lib.hid (one_ok W0 x)
  rw [hs0] at HPX
  have HBX := Lib.hid ((HB0.out.alloc HSL.out (.cells #[.int .u8 (x.toNat : Int)] 5)).drew)
  obtain ⟨g1, g2⟩ := HG.out _ HB0.out
  go_enter Try.func18, Try.ntmps18
  go_wp2_with fail
  go_region_held3 (fun w' => gat 18 w' w.heap.size 0 = some P1 ∧ gat 18 w' (w.heap.size + 1) 0 = some P2) (first | exact HG.out _ HB9.out | exact HG.out _ HB3.out | exact HG.out _ HB3'.out | exact HG.out _ HB2.out | exact HG.out _ HB2x.out | exact HG.out _ HB1x.out | exact HG.out _ HB1.out | exact HG.out _ HBX.out | exact HG.out _ HB0.out | exact HG.out _ HB0.out.drew) (first | (go_at_call 23; (with_reducible refine (portsPut_any P1 A1 six1 l1 port1 W0.drew HL1.out HW1.out).mono ?_); rintro e w1 ⟨v1, rfl, hb1, hO1⟩; have HB1 := Lib.hid (HB0.out.drew.trans (hb1.mono (Nat.le_trans HSL.out HB0.out.drew.size))); have HS1 := Lib.hid (Nat.le_trans HSL.out HB1.out.size); obtain ⟨ao1, c1, rfl, hc1, hl1, hn1, _, _⟩ := own_cells hO1; have HP1 := Lib.hid (show Piece.ok w1 ⟨ao1, (1 + asize six1 + 2), c1, portB six1 l1 port1⟩ from ⟨hl1, by have := HZ1.out; show 1 + asize six1 + 2 ≤ 1000000; omega, hn1, hc1⟩); have HB1x := Lib.hid (HB1.out.alloc HS1.out (.cells #[.int .u8 (x.toNat : Int)] 5)); clear hb1 hO1 hc1 hl1 hn1) | (go_at_call 23; (with_reducible refine (portsPut_any P1 A1 six1 l1 port1 _ HL1.out HW1.out).mono ?_); rintro e w1 ⟨v1, rfl, hb1, hO1⟩; have HB1 := Lib.hid (HBX.out.trans (hb1.mono (Nat.le_trans HSL.out HBX.out.size))); have HS1 := Lib.hid (Nat.le_trans HSL.out HB1.out.size); obtain ⟨ao1, c1, rfl, hc1, hl1, hn1, _, _⟩ := own_cells hO1; have HP1 := Lib.hid (show Piece.ok w1 ⟨ao1, (1 + asize six1 + 2), c1, portB six1 l1 port1⟩ from ⟨hl1, by have := HZ1.out; show 1 + asize six1 + 2 ≤ 1000000; omega, hn1, hc1⟩); have HPX1 := Lib.hid ((HPX.out.drew).below hb1 rfl); have HB1x := Lib.hid (HB1.out.alloc HS1.out (.cells #[.int .u8 (x.toNat : Int)] 5)); clear hb1 hO1 hc1 hl1 hn1) | (go_at_call 23; (with_reducible refine (portsPut_any P2 A2 six2 l2 port2 w1 HL2.out HW2.out).mono ?_); rintro e w2 ⟨v2, rfl, hb2, hO2⟩; have HB2 := Lib.hid (HB1.out.trans (hb2.mono (Nat.le_trans HSL.out HB1.out.size))); have HS2 := Lib.hid (Nat.le_trans HSL.out HB2.out.size); obtain ⟨ao2, c2, rfl, hc2, hl2, hn2, _, _⟩ := own_cells hO2; have HP2 := Lib.hid (show Piece.ok w2 ⟨ao2, (1 + asize six2 + 2), c2, portB six2 l2 port2⟩ from ⟨hl2, by have := HZ2.out; show 1 + asize six2 + 2 ≤ 1000000; omega, hn2, hc2⟩); have HP1' := Lib.hid (HP1.out.below hb2 rfl); have HPX2 := Lib.hid (HPX1.out.below hb2 rfl); have HB3 := Lib.hid (HB2.out.alloc HS2.out (.cells #[.slice (some ⟨w.heap.size + 2, 0, none⟩) 1 1, .slice ao1 (1 + asize six1 + 2) c1, .slice ao2 (1 + asize six2 + 2) c2] 26)); have HB2x := Lib.hid (HB2.out.alloc HS2.out (.cells #[.int .u8 (x.toNat : Int)] 5)); clear hb2 hO2 hc2 hl2 hn2) | (go_at_call 23; (with_reducible refine (portsPut_any P2 A2 six2 l2 port2 w1 HL2.out HW2.out).mono ?_); rintro e w2 ⟨v2, rfl, hb2, hO2⟩; have HB2 := Lib.hid (HB1.out.trans (hb2.mono (Nat.le_trans HSL.out HB1.out.size))); have HS2 := Lib.hid (Nat.le_trans HSL.out HB2.out.size); obtain ⟨ao2, c2, rfl, hc2, hl2, hn2, _, _⟩ := own_cells hO2; have HP2 := Lib.hid (show Piece.ok w2 ⟨ao2, (1 + asize six2 + 2), c2, portB six2 l2 port2⟩ from ⟨hl2, by have := HZ2.out; show 1 + asize six2 + 2 ≤ 1000000; omega, hn2, hc2⟩); have HP1' := Lib.hid (HP1.out.below hb2 rfl); have HB3 := Lib.hid ((HB2.out.alloc HS2.out (.cells #[.int .u8 (x.toNat : Int)] 5)).alloc (Nat.le_trans HS2.out (by simp)) (.cells #[.slice (some ⟨w2.heap.size, 0, none⟩) 1 1, .slice ao1 (1 + asize six1 + 2) c1, .slice ao2 (1 + asize six2 + 2) c2] 26)); have HB2x := Lib.hid (HB2.out.alloc HS2.out (.cells #[.int .u8 (x.toNat : Int)] 5)); clear hb2 hO2 hc2 hl2 hn2) | (go_at_call 23; (with_reducible refine (portsPut_any P2 A2 six2 l2 port2 _ HL2.out HW2.out).mono ?_); rintro e w2 ⟨v2, rfl, hb2, hO2⟩; have HB2 := Lib.hid (HB1x.out.trans (hb2.mono (Nat.le_trans HSL.out HB1x.out.size))); have HS2 := Lib.hid (Nat.le_trans HSL.out HB2.out.size); obtain ⟨ao2, c2, rfl, hc2, hl2, hn2, _, _⟩ := own_cells hO2; have HP2 := Lib.hid (show Piece.ok w2 ⟨ao2, (1 + asize six2 + 2), c2, portB six2 l2 port2⟩ from ⟨hl2, by have := HZ2.out; show 1 + asize six2 + 2 ≤ 1000000; omega, hn2, hc2⟩); have HP1' := Lib.hid ((HP1.out.below ((Below.refl w1.heap.size _).alloc (Nat.le_refl _) _) rfl).below hb2 rfl); have HPX2 := Lib.hid ((one_ok w1 x).below hb2 rfl); have HB3 := Lib.hid (HB2.out.alloc HS2.out (.cells #[.slice (some ⟨w1.heap.size, 0, none⟩) 1 1, .slice ao1 (1 + asize six1 + 2) c1, .slice ao2 (1 + asize six2 + 2) c2] 26)); have HB2x := Lib.hid (HB2.out.alloc HS2.out (.cells #[.int .u8 (x.toNat : Int)] 5)); clear hb2 hO2 hc2 hl2 hn2) | (go_at_call 22; (with_reducible refine (concat3x (some ⟨w.heap.size + 2, 0, none⟩) ao1 ao2 1 (1 + asize six1 + 2) (1 + asize six2 + 2) 1 c1 c2 [x] (portB six1 l1 port1) (portB six2 l2 port2) _ HPX2.out HP1'.out HP2.out).mono ?_); rintro e w9 ⟨v9, rfl, hb9, hO9⟩; have HB9 := Lib.hid (HB3.out.trans (hb9.mono (Nat.le_trans HSL.out HB3.out.size))); have HO9 := Lib.hid (own_weaken' hO9 (Nat.le_trans HSL.out HB3.out.size)); clear hb9 hO9) | (go_at_call 22; (with_reducible refine (concat3x (some ⟨w1.heap.size, 0, none⟩) ao1 ao2 1 (1 + asize six1 + 2) (1 + asize six2 + 2) 1 c1 c2 [x] (portB six1 l1 port1) (portB six2 l2 port2) _ HPX2.out HP1'.out HP2.out).mono ?_); rintro e w9 ⟨v9, rfl, hb9, hO9⟩; have HB9 := Lib.hid (HB3.out.trans (hb9.mono (Nat.le_trans HSL.out HB3.out.size))); have HO9 := Lib.hid (own_weaken' hO9 (Nat.le_trans HSL.out HB3.out.size)); clear hb9 hO9) | (go_at_call 22; (with_reducible refine (concat3y ao1 ao2 x (1 + asize six1 + 2) (1 + asize six2 + 2) c1 c2 (portB six1 l1 port1) (portB six2 l2 port2) w2 HP1'.out HP2.out).mono ?_); rintro e w9 ⟨v9, rfl, hb9, hO9⟩; have HB9 := Lib.hid (HB3.out.trans (hb9.mono (Nat.le_trans HSL.out HB3.out.size))); have HO9 := Lib.hid (own_weaken' hO9 (Nat.le_trans HSL.out HB3.out.size)); clear hb9 hO9))
  all_goals
    go_wp2_with fail
    go_ret
    exact ⟨v9, rfl, HBW.out.trans (HB9.out.mono (Nat.le_add_right _ 2)), by rw [HPP.out _ _ rfl rfl]; exact own_weaken' HO9.out (Nat.le_add_right _ 2)⟩

set_option maxRecDepth 100000 in
set_option maxHeartbeats 8000000 in
theorem reftuple_any (P1 A1 : List Value) (six1 : Bool) (l1 : List UInt8) (port1 : Int) (P2 A2 : List Value) (six2 : Bool) (l2 : List UInt8) (port2 : Int) (proto : Int) (w : World)
    (h1 : IsPoint P1 A1 six1 l1 port1) (h2 : IsPoint P2 A2 six2 l2 port2) :
    Calls Try.prog 19 #[.int .i64 proto, .agg P1.toArray, .agg P2.toArray] w (OwnPost (tupleN six1 six2) (tupleB proto six1 l1 port1 six2 l2 port2) w) := by
  have HL1 := Lib.hid h1
  have HL2 := Lib.hid h2
  have HG := Lib.hid (points_boxed 38 w h1.length h2.length)
  obtain ⟨W0, hW0⟩ : ∃ W, (w.alloc (.cells P1.toArray 38)).alloc (.cells P2.toArray 38) = W := ⟨_, rfl⟩
  have hs0 : W0.heap.size = w.heap.size + 2 := by rw [← hW0]; simp
  have HBW := Lib.hid (show Below w.heap.size w W0 from by rw [← hW0]; exact ((Below.refl _ _).alloc (Nat.le_refl _) _).alloc (by simp) _)
  rw [hW0] at HG
  have HB0 := Lib.hid (Below.refl (w.heap.size + 2) W0)
  have HSL : Hid (w.heap.size + 2 ≤ W0.heap.size) := Lib.hid (Nat.le_of_eq hs0.symm)
  clear h1 h2
  have b1 := byteAt_lt proto 1
  have hp0 : 0 ≤ IntKind.u64.wrap proto := by rw [u64_wrap]; omega
  have q1 : IntKind.u64.wrap proto % 256 = ((byteAt proto 1).toNat : Int) := by rw [← byteAt_one, u64_wrap]; omega
  have HPP : Hid (∀ p1 p2, portB six1 l1 port1 = p1 → portB six2 l2 port2 = p2 → tupleB proto six1 l1 port1 six2 l2 port2 = (([byteAt proto 1] ++ p1) ++ p2)) := Lib.hid fun p1 p2 h1 h2 => by rw [← h1, ← h2, List.append_assoc]; rfl
  obtain ⟨x, hx⟩ : ∃ y, byteAt proto 1 = y := ⟨_, rfl⟩
  rw [hx] at q1 b1 HPP
  clear hx
  have HZ1 := Lib.hid (asize_le six1)
  have HZ2 := Lib.hid (asize_le six2)
  have HO0 : Hid ((W0.alloc (.cells #[.int .u8 (x.toNat : Int)] 5)).ownsRow (w.heap.size + 2) 5 1 (.slice (some ⟨w.heap.size + 2, 0, none⟩) 1 1) 1 (([x] : List UInt8).map u8v)) := Lib.hid (by have := own_one (w.heap.size + 2) W0 x HSL.out; rwa [hs0] at this)
  have HBX := Lib.hid (HB0.out.alloc HSL.out (.cells #[.int .u8 (x.toNat : Int)] 5))
  have HSX : Hid (w.heap.size + 2 ≤ (W0.alloc (.cells #[.int .u8 (x.toNat : Int)] 5)).heap.size) := Lib.hid (Nat.le_trans HSL.out HBX.out.size)
  have hnn : tupleN six1 six2 = 1 + (1 + asize six1 + 2) + (1 + asize six2 + 2) := by unfold tupleN; omega
  rw [hnn]
  clear hnn
  obtain ⟨g1, g2⟩ := HG.out _ HBX.out
  go_enter Try.func19, Try.ntmps19
  go_wp2_with (first | (go_at_call 24; (with_reducible refine (refportsPut_any P1 A1 six1 l1 port1 _ HL1.out).mono ?_); rintro e w1 ⟨v1, rfl, hb1, hO1⟩; have HB1 := Lib.hid (HBX.out.trans (hb1.mono HSX.out)); have HS1 := Lib.hid (Nat.le_trans HSL.out HB1.out.size); obtain ⟨ao1, c1, rfl, hc1, hl1, hn1, _, _⟩ := own_cells hO1; have HO1 := Lib.hid (own_below HO0.out hb1 HSX.out); clear hb1 hO1) | (at_builtin; refine wpList_append_u8 rfl (.tmp 12) (.tmp 14) rfl (w.heap.size + 2) _ 1 [x] rfl HO1.out ao1 (1 + asize six1 + 2) c1 (portB six1 l1 port1) rfl hl1 hn1 hc1 (by have := HZ1.out; omega) HS1.out ?_; intro v2 w2 hown2 hg2; have HO2 := Lib.hid hown2; have HB2 := Lib.hid (HB1.out.grown hg2 HS1.out (fun k h => own_ge HO1.out k h)); have HS2 := Lib.hid (Nat.le_trans HSL.out HB2.out.size); obtain ⟨g3, g4⟩ := HG.out _ HB2.out; clear hown2 hg2) | (go_at_call 24; (with_reducible refine (refportsPut_any P2 A2 six2 l2 port2 _ HL2.out).mono ?_); rintro e w3 ⟨v3, rfl, hb3, hO3⟩; have HB3 := Lib.hid (HB2.out.trans (hb3.mono HS2.out)); have HS3 := Lib.hid (Nat.le_trans HSL.out HB3.out.size); obtain ⟨ao3, c3, rfl, hc3, hl3, hn3, _, _⟩ := own_cells hO3; have HO3 := Lib.hid (own_below HO2.out hb3 HS2.out); clear hb3 hO3) | (at_builtin; refine wpList_append_u8 rfl (.tmp 16) (.tmp 18) rfl (w.heap.size + 2) v2 (1 + (1 + asize six1 + 2)) ([x] ++ portB six1 l1 port1) rfl HO3.out ao3 (1 + asize six2 + 2) c3 (portB six2 l2 port2) rfl hl3 hn3 hc3 (by have := HZ1.out; have := HZ2.out; omega) HS3.out ?_; intro v4 w4 hown4 hg4))
  go_ret
  exact ⟨v4, rfl, HBW.out.trans ((HB3.out.grown hg4 HS3.out (fun k h => own_ge HO3.out k h)).mono (Nat.le_add_right _ 2)), by rw [HPP.out _ _ rfl rfl]; exact own_weaken' hown4 (Nat.le_add_right _ 2)⟩
end Go.Proofs.Ytifdbjombgcfcaa
