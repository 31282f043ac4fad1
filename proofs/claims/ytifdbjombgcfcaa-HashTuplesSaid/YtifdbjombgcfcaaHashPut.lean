/- The walks of addr.Put, ports.Put and the reference's. -/
import Derived.Test.YtifdbjombgcfcaaAddr
import Derived.Test.YtifdbjombgcfcaaGat
namespace Go.Proofs.Ytifdbjombgcfcaa
open Go.RowKit
set_option linter.unusedVariables false

/-- The load of an address, as one word. -/
def loadAddr (x : Value) : Sem Value := Instr.loadAt 36 x
theorem loadAddr_eq (x : Value) : Instr.loadAt 36 x = loadAddr x := rfl
theorem run_loadAddr (w : World) (b o : Nat) (h : (gat 17 w b o).isSome = true) : Sem.run Try.prog (loadAddr (.pointer (some ⟨b, o, none⟩))) w = .ok (.agg ((gat 17 w b o).getD []).toArray) w :=
  load_gat 17 _ _ Try.underlying36 rfl (by kernel_rfl) w b o h
attribute [local go_sem ↓] loadAddr_eq
attribute [local go_sem] run_loadAddr
theorem asize_le (six : Bool) : asize six ≤ 16 := by cases six <;> decide
/-- The bytes of a number. -/
def byteAt (n : Int) (d : Int) : UInt8 := UInt8.ofNat ((n / d) % 256).toNat
theorem byteAt_val (n d : Int) : n / d % 256 = ((byteAt n d).toNat : Int) := by
  have h0 : 0 ≤ n / d % 256 := Int.emod_nonneg _ (by decide)
  have h1 : n / d % 256 < 256 := Int.emod_lt_of_pos _ (by decide)
  unfold byteAt
  rw [UInt8.toNat_ofNat']
  omega
theorem byteAt_one (n : Int) : n % 256 = ((byteAt n 1).toNat : Int) := by rw [← byteAt_val, Int.ediv_one]
theorem byteAt_lt (n d : Int) : ((byteAt n d).toNat : Int) < 256 := by have := (byteAt n d).toNat_lt; omega
/-- An address's marked bytes. -/
def putB (six : Bool) (l : List UInt8) : List UInt8 := (if six then 6 else 4) :: l.take (asize six)
theorem putB_length (six : Bool) (l : List UInt8) (h : l.length = 16) : (putB six l).length = 1 + asize six := by
  cases six <;> simp [putB, asize, h]
/-- A boxed address's bytes. -/
theorem box_cells (A : List Value) (six : Bool) (l : List UInt8) (t : TypeId) (w : World) (h : IsAddr A six l) (n : Nat) : Cells (w.alloc (.cells A.toArray t)) (some ⟨w.heap.size, 1, none⟩) (l.take n) :=
  (h.cells_of (range_of_gat (gat_box 17 w A t h.length)).1).left' n
theorem own_one (base : Nat) (w : World) (x : UInt8) (hb : base ≤ w.heap.size) : (w.alloc (.cells #[.int .u8 (x.toNat : Int)] 5)).ownsRow base 5 1 (.slice (some ⟨w.heap.size, 0, none⟩) 1 1) 1 (([x] : List UInt8).map u8v) := by
  refine ⟨rfl, .inr ⟨w.heap.size, 1, #[.int .u8 (x.toNat : Int)], rfl, hb, ?_, Nat.le_refl _, by unfold maxLen; omega, rfl, rfl⟩⟩
  exact heap_alloc_new w (.cells #[.int .u8 (x.toNat : Int)] 5)

set_option maxHeartbeats 2000000 in
theorem addrPut_any (A : List Value) (six : Bool) (l : List UInt8) (w : World) (h : IsAddr A six l) :
    Calls Try.prog 26 #[.agg A.toArray] w (OwnPost (1 + asize six) (putB six l) w) := by
  have HL := Lib.hid h
  have g1 := gat_box 17 w A 36 h.length
  obtain ⟨W1, hW1⟩ : ∃ W, w.alloc (.cells A.toArray 36) = W := ⟨_, rfl⟩
  have hs1 : W1.heap.size = w.heap.size + 1 := by rw [← hW1]; simp
  have HB1 := Lib.hid (show Below w.heap.size w W1 from by rw [← hW1]; exact (Below.refl _ _).alloc (Nat.le_refl _) _)
  rw [hW1] at g1
  have hsix := cell_of_gat g1 0 _ h.head
  rw [Nat.zero_add] at hsix
  have HT : Hid ((l.take (asize six)).length = asize six) := Lib.hid (by rw [List.length_take, h.1]; cases six <;> decide)
  have HZ := Lib.hid (asize_le six)
  clear h
  have HX : ∀ x : UInt8, gat 17 (W1.alloc (.cells #[.int .u8 (x.toNat : Int)] 5)) w.heap.size 0 = some A ∧ Hid (Below w.heap.size w (W1.alloc (.cells #[.int .u8 (x.toNat : Int)] 5))) ∧ Hid ((W1.alloc (.cells #[.int .u8 (x.toNat : Int)] 5)).ownsRow w.heap.size 5 1 (.slice (some ⟨w.heap.size + 1, 0, none⟩) 1 1) 1 (([x] : List UInt8).map u8v)) := fun x =>
    ⟨gat_below g1 ((Below.refl W1.heap.size _).alloc (Nat.le_refl _) _) (by omega), Lib.hid (HB1.out.alloc (by omega) _), Lib.hid (by have := own_one w.heap.size W1 x (by omega); rwa [hs1] at this)⟩
  cases six
  · obtain ⟨g2, HB2, HO2⟩ : gat 17 (W1.alloc (.cells #[.int .u8 4] 5)) w.heap.size 0 = some A ∧ Hid (Below w.heap.size w (W1.alloc (.cells #[.int .u8 4] 5))) ∧ Hid ((W1.alloc (.cells #[.int .u8 4] 5)).ownsRow w.heap.size 5 1 (.slice (some ⟨w.heap.size + 1, 0, none⟩) 1 1) 1 (([4] : List UInt8).map u8v)) := HX 4
    clear HX
    go_enter Try.func26, Try.ntmps26
    go_wp2_with (first | (go_at_call 28; refine (addrBytes_any A false l _ HL.out).mono ?_; rintro e w3 ⟨v, rfl, hb3, hO3⟩; obtain ⟨ao, c, rfl, hc, hl, hn, _, _⟩ := own_cells hO3; have HB3 := Lib.hid (HB2.out.trans (hb3.mono HB2.out.size)); have HO3 := Lib.hid (own_below HO2.out hb3 HB2.out.size); clear hb3 hO3) | (at_builtin; refine wpList_append_u8 rfl (.tmp 9) (.tmp 11) rfl w.heap.size _ 1 [4] rfl HO3.out ao (asize false) c (l.take (asize false)) rfl hl hn hc (by decide) HB3.out.size ?_; intro v4 w4 hown4 hg4))
    go_ret
    exact ⟨v4, rfl, HB3.out.grown hg4 HB3.out.size (fun k h => own_ge HO3.out k h), hown4⟩
  · obtain ⟨g2, HB2, HO2⟩ : gat 17 (W1.alloc (.cells #[.int .u8 6] 5)) w.heap.size 0 = some A ∧ Hid (Below w.heap.size w (W1.alloc (.cells #[.int .u8 6] 5))) ∧ Hid ((W1.alloc (.cells #[.int .u8 6] 5)).ownsRow w.heap.size 5 1 (.slice (some ⟨w.heap.size + 1, 0, none⟩) 1 1) 1 (([6] : List UInt8).map u8v)) := HX 6
    clear HX
    go_enter Try.func26, Try.ntmps26
    go_wp2_with (first | (go_at_call 28; refine (addrBytes_any A true l _ HL.out).mono ?_; rintro e w3 ⟨v, rfl, hb3, hO3⟩; obtain ⟨ao, c, rfl, hc, hl, hn, _, _⟩ := own_cells hO3; have HB3 := Lib.hid (HB2.out.trans (hb3.mono HB2.out.size)); have HO3 := Lib.hid (own_below HO2.out hb3 HB2.out.size); clear hb3 hO3) | (at_builtin; refine wpList_append_u8 rfl (.tmp 5) (.tmp 7) rfl w.heap.size _ 1 [6] rfl HO3.out ao (asize true) c (l.take (asize true)) rfl hl hn hc (by decide) HB3.out.size ?_; intro v4 w4 hown4 hg4))
    go_ret
    exact ⟨v4, rfl, HB3.out.grown hg4 HB3.out.size (fun k h => own_ge HO3.out k h), hown4⟩

set_option maxHeartbeats 2000000 in
theorem refaddrPut_any (A : List Value) (six : Bool) (l : List UInt8) (w : World) (h : IsAddr A six l) :
    Calls Try.prog 27 #[.agg A.toArray] w (OwnPost (1 + asize six) (putB six l) w) := by
  have HL := Lib.hid h
  have g1 := gat_box 17 w A 36 h.length
  have HCB := Lib.hid fun n => box_cells A six l 36 w h n
  obtain ⟨W1, hW1⟩ : ∃ W, w.alloc (.cells A.toArray 36) = W := ⟨_, rfl⟩
  have hs1 : W1.heap.size = w.heap.size + 1 := by rw [← hW1]; simp
  have HB1 := Lib.hid (show Below w.heap.size w W1 from by rw [← hW1]; exact (Below.refl _ _).alloc (Nat.le_refl _) _)
  rw [hW1] at g1 HCB
  have hsix := cell_of_gat g1 0 _ h.head
  rw [Nat.zero_add] at hsix
  have hl := h.1
  clear h
  have HX : ∀ x : UInt8, Hid (∀ n, Cells (W1.alloc (.cells #[.int .u8 (x.toNat : Int)] 5)) (some ⟨w.heap.size, 1, none⟩) (l.take n)) ∧ Hid (Below w.heap.size w (W1.alloc (.cells #[.int .u8 (x.toNat : Int)] 5))) ∧ Hid ((W1.alloc (.cells #[.int .u8 (x.toNat : Int)] 5)).ownsRow w.heap.size 5 1 (.slice (some ⟨w.heap.size + 1, 0, none⟩) 1 1) 1 (([x] : List UInt8).map u8v)) := fun x =>
    ⟨Lib.hid fun n => (HCB.out n).below ((Below.refl W1.heap.size _).alloc (Nat.le_refl _) _) rfl, Lib.hid (HB1.out.alloc (by omega) _), Lib.hid (by have := own_one w.heap.size W1 x (by omega); rwa [hs1] at this)⟩
  have HLL := Lib.hid hl
  clear hl g1
  cases six
  · obtain ⟨HC2, HB2, HO2⟩ := HX 4
    clear HX
    go_enter Try.func27, Try.ntmps27
    go_wp2_with (at_builtin; refine wpList_append_u8 rfl (.tmp 9) (.tmp 11) rfl w.heap.size _ 1 [4] rfl HO2.out (some ⟨w.heap.size, 1, none⟩) 4 16 (l.take 4) rfl (by rw [List.length_take, HLL.out]; rfl) (fun h => by cases h) (HC2.out 4) (by decide) HB2.out.size ?_; intro v4 w4 hown4 hg4)
    go_ret
    exact ⟨v4, rfl, HB2.out.grown hg4 HB2.out.size (fun k h => own_ge HO2.out k h), hown4⟩
  · obtain ⟨HC2, HB2, HO2⟩ := HX 6
    clear HX
    go_enter Try.func27, Try.ntmps27
    go_wp2_with (at_builtin; refine wpList_append_u8 rfl (.tmp 5) (.tmp 7) rfl w.heap.size _ 1 [6] rfl HO2.out (some ⟨w.heap.size, 1, none⟩) 16 16 (l.take 16) rfl (by rw [List.length_take, HLL.out]; rfl) (fun h => by cases h) (HC2.out 16) (by decide) HB2.out.size ?_; intro v4 w4 hown4 hg4)
    go_ret
    exact ⟨v4, rfl, HB2.out.grown hg4 HB2.out.size (fun k h => own_ge HO2.out k h), hown4⟩

/-- A point's cells. -/
def IsPoint (P A : List Value) (six : Bool) (l : List UInt8) (port : Int) : Prop := P = A ++ [.int .i64 port] ∧ IsAddr A six l
theorem IsPoint.length {P A : List Value} {six : Bool} {l : List UInt8} {port : Int} (h : IsPoint P A six l port) : P.length = 18 := by rw [h.1]; simp [h.2.length]
/-- What a boxed point is worth, wherever memory has grown. -/
theorem point_boxed {P A : List Value} {six : Bool} {l : List UInt8} {port : Int} (h : IsPoint P A six l port) (t : TypeId) (w w' : World) {B : Nat} (hb : Below B (w.alloc (.cells P.toArray t)) w') (hB : w.heap.size < B) :
    gat 17 w' w.heap.size 0 = some A ∧ w'.cell? ⟨w.heap.size, 17, none⟩ = some (.int .i64 port) := by
  have g := gat_below (gat_box 18 w P t h.length) hb hB
  have g1 := gat_part (m := 17) (k := 0) g (by decide)
  have g2 := cell_of_gat g 17 (.int .i64 port) (by rw [h.1, List.getElem?_append_right (by rw [h.2.length]; omega), h.2.length]; rfl)
  rw [h.1] at g1
  simp only [Nat.zero_add, List.drop_zero] at g1 g2
  rw [List.take_left' h.2.length] at g1
  exact ⟨g1, g2⟩
def portB (six : Bool) (l : List UInt8) (port : Int) : List UInt8 := putB six l ++ [byteAt port 256, byteAt port 1]

set_option maxRecDepth 100000 in
set_option maxHeartbeats 4000000 in
theorem portsPut_any (P A : List Value) (six : Bool) (l : List UInt8) (port : Int) (w : World) (h : IsPoint P A six l port) (hw : (Lit.int .i64 port).wf = true) :
    Calls Try.prog 23 #[.agg P.toArray] w (OwnPost (1 + asize six + 2) (portB six l port) w) := by
  have HL := Lib.hid h.2
  have HG := Lib.hid fun w' => point_boxed h 38 w w' (B := w.heap.size + 1)
  obtain ⟨W1, hW1⟩ : ∃ W, w.alloc (.cells P.toArray 38) = W := ⟨_, rfl⟩
  have hs1 : W1.heap.size = w.heap.size + 1 := by rw [← hW1]; simp
  have HBW := Lib.hid (show Below w.heap.size w W1 from by rw [← hW1]; exact (Below.refl _ _).alloc (Nat.le_refl _) _)
  rw [hW1] at HG
  have HB1 := Lib.hid (Below.refl (w.heap.size + 1) W1)
  clear h
  have q1 := byteAt_one port
  have q2 := byteAt_val port 256
  have b1 := byteAt_lt port 1
  have b2 := byteAt_lt port 256
  unfold portB
  obtain ⟨y1, hy1⟩ : ∃ y, byteAt port 1 = y := ⟨_, rfl⟩
  obtain ⟨y2, hy2⟩ : ∃ y, byteAt port 256 = y := ⟨_, rfl⟩
  rw [hy1] at q1 b1 ⊢
  rw [hy2] at q2 b2 ⊢
  clear hy1 hy2
  have q3 : IntKind.u8.wrap port = (y1.toNat : Int) := by rw [← q1]; simp [IntKind.wrap, IntKind.bits, IntKind.signed]
  have q4 : IntKind.u8.wrap (port / 256) = (y2.toNat : Int) := by rw [← q2]; simp [IntKind.wrap, IntKind.bits, IntKind.signed]
  have HN := Lib.hid (Cells.new W1 #[.int .u8 (y2.toNat : Int), .int .u8 (y1.toNat : Int)] 5 [y2, y1] rfl)
  rw [hs1] at HN
  have HBs := Lib.hid ((HB1.out.alloc (by omega) (.cells #[.int .u8 (y2.toNat : Int), .int .u8 (y1.toNat : Int)] 5)).drew)
  have HZ := Lib.hid (asize_le six)
  obtain ⟨g1, g2⟩ := HG.out _ HB1.out (Nat.lt_succ_self _)
  go_enter Try.func23, Try.ntmps23
  go_wp2_with fail
  go_region_held3 (fun w' => gat 17 w' w.heap.size 0 = some A ∧ w'.cell? ⟨w.heap.size, 17, none⟩ = some (.int .i64 port)) (first | exact HG.out _ HB4.out (Nat.lt_succ_self _) | exact HG.out _ HB3.out (Nat.lt_succ_self _) | exact HG.out _ HB2.out (Nat.lt_succ_self _) | exact HG.out _ HBs.out (Nat.lt_succ_self _) | exact HG.out _ HB1.out (Nat.lt_succ_self _) | exact HG.out _ HB1.out.drew (Nat.lt_succ_self _)) (first | ((go_at_call 26; refine (addrPut_any A six l W1.drew HL.out).mono ?_; rintro e w2 ⟨v2, rfl, hb2, hO2⟩; have HB2 := Lib.hid (HB1.out.drew.trans (hb2.mono (Nat.le_of_eq hs1.symm))); have HO2 := Lib.hid (own_weaken' hO2 (Nat.le_of_eq hs1.symm)); have HS2 := Lib.hid (Nat.le_trans (Nat.le_of_eq hs1.symm) HB2.out.size); have HB3 := Lib.hid (HB2.out.alloc HS2.out (.cells #[.int .u8 (y2.toNat : Int), .int .u8 (y1.toNat : Int)] 5)); clear hb2 hO2)) | ((go_at_call 26; refine (addrPut_any A six l _ HL.out).mono ?_; rintro e w2 ⟨v2, rfl, hb2, hO2⟩; have HB2 := Lib.hid (HBs.out.trans (hb2.mono (Nat.le_trans (Nat.le_of_eq hs1.symm) HBs.out.size))); have HO2 := Lib.hid (own_weaken' hO2 (Nat.le_trans (Nat.le_of_eq hs1.symm) HBs.out.size)); have HS2 := Lib.hid (Nat.le_trans (Nat.le_of_eq hs1.symm) HB2.out.size); have HN2 := Lib.hid (HN.out.drew.below hb2 rfl); clear hb2 hO2)) | ((refine step_append_u8 ?_ (.tmp 5) (.tmp 13) ?_ (w.heap.size + 1) v2 (1 + asize six) (putB six l) ?_ ?_ (some ⟨w2.heap.size, 0, none⟩) 2 2 [y2, y1] ?_ ?_ ?_ ?_ ?_ ?_ ?_; rfl; rfl; rfl; exact (HO2.out.alloc _); rfl; (rfl); (intro h; cases h); exact (Cells.new w2 _ _ _ rfl); (have := HZ.out; omega); exact (Nat.le_trans HS2.out (by simp)); intro v4 w4 hown4 hg4; have HO4 := Lib.hid hown4; have HB4 := Lib.hid (HB3.out.grown hg4 (Nat.le_trans HS2.out (by simp)) (fun k h => own_ge HO2.out k h)); clear hown4 hg4)) | ((refine step_append_u8 ?_ (.tmp 5) (.tmp 13) ?_ (w.heap.size + 1) v2 (1 + asize six) (putB six l) ?_ ?_ (some ⟨w.heap.size + 1, 0, none⟩) 2 2 [y2, y1] ?_ ?_ ?_ ?_ ?_ ?_ ?_; rfl; rfl; rfl; exact HO2.out; rfl; (rfl); (intro h; cases h); exact HN2.out; (have := HZ.out; omega); exact HS2.out; intro v4 w4 hown4 hg4; have HO4 := Lib.hid hown4; have HB4 := Lib.hid (HB2.out.grown hg4 HS2.out (fun k h => own_ge HO2.out k h)); clear hown4 hg4)))
  all_goals
    go_wp2_with fail
    go_ret
    exact ⟨v4, rfl, HBW.out.trans (HB4.out.mono (Nat.le_succ _)), own_weaken' HO4.out (Nat.le_succ _)⟩
end Go.Proofs.Ytifdbjombgcfcaa
