/- The walks of addr.From, head.address and the reference's address. -/
import Derived.Test.YtilhioiocfllhaaDoorHeadMath
import Derived.Test.YtilhioiocfllhaaDoorGat
import Derived.Deep.QuietTactic
import Derived.Lib.SlBuf
import Derived.Deep.WholeRow
import Derived.Laws.ResultCell
namespace Go.Proofs.YtilhioiocfllhaaDoor
open Go.RowKit HeadMath
set_option linter.unusedVariables false
set_option maxRecDepth 100000

/-! ### Loads and stores of whole addresses, as one word each -/
def ldA (x : Value) : Sem Value := Instr.loadAt 46 x
theorem ldA_eq (x : Value) : Instr.loadAt 46 x = ldA x := rfl
def stA (x v : Value) : Sem Unit := Instr.storeAt 46 x v
theorem stA_eq (x v : Value) : Instr.storeAt 46 x v = stA x v := rfl
attribute [local go_sem ↓] ldA_eq stA_eq
theorem adr_size (six : Bool) (l : List UInt8) (hl : l.length = 16) : (adrC six l).length = 17 := by simp [adrC, hl]
theorem adr_one (six : Bool) (l : List UInt8) : (adrC six l).toArray.all (·.oneCell') = true := all_oneCell_toArray (fun v hv => by
  rcases List.mem_cons.1 hv with rfl | h
  · rfl
  · exact u8v_oneCell l v h)
theorem run_ldA {w : World} {b o : Nat} {cs : List Value} (h : w.rangeAt b o cs) (hn : cs.length = 17) : Sem.run Tryd.prog (ldA (.pointer (some ⟨b, o, none⟩))) w = .ok (.agg cs.toArray) w :=
  run_loadAt_mid w b o _ cs _ h Tryd.underlying46 rfl (by rw [hn]; kernel_rfl)
theorem run_stA {w : World} {b o : Nat} {A : Array Value} (ht : w.there b o 17) (hn : A.size = 17) (h1 : A.all (·.oneCell') = true) : Sem.run Tryd.prog (stA (.pointer (some ⟨b, o, none⟩)) (.agg A)) w = .ok () (w.setCells b o A.toList) :=
  run_storeAt_mid w b o _ A (by rw [hn]; exact ht) (by rw [hn]; kernel_rfl) h1

/-! ### Ranges -/
theorem range_new (w : World) (A : Array Value) (t : TypeId) : (w.alloc (.cells A t)).rangeAt w.heap.size 0 A.toList := fun j v hv => by
  rw [Nat.zero_add, World.cell?_alloc_mark]; simpa using hv
theorem there_new (w : World) (A : Array Value) (t : TypeId) (n : Nat) (h : A.size = n) : (w.alloc (.cells A t)).there w.heap.size 0 n := fun j hj => by
  refine ⟨?_, ?_⟩
  · rw [Nat.zero_add, World.cell?_alloc_mark]; simp; omega
  · rw [World.frozen?_alloc_new]
theorem there_below {B : Nat} {w w' : World} {b o n : Nat} (h : w.there b o n) (hb : Below B w w') (hB : b < B) : w'.there b o n := fun j hj => by
  obtain ⟨h1, h2⟩ := h j hj
  exact ⟨by rw [World.cell?_of_block (a := ⟨b, o + j, none⟩) (hb.block b hB)]; exact h1, by rw [World.frozen?_of_block (a := ⟨b, o + j, none⟩) (hb.block b hB)]; exact h2⟩
theorem there_part {w : World} {b o n : Nat} (h : w.there b o n) (k m : Nat) (hk : k + m ≤ n) : w.there b (o + k) m := fun j hj => by
  have := h (k + j) (by omega)
  rwa [← Nat.add_assoc] at this
theorem there_set {w : World} {b o n : Nat} (h : w.there b o n) (b' o' : Nat) (vs : List Value) (hh : w.there b' o' vs.length) : (w.setCells b' o' vs).there b o n := World.there_setCells h b' o' vs
theorem setCells_below {B : Nat} {w : World} (b : Nat) (hb : B ≤ b) : ∀ (vs : List Value) (o : Nat) (w0 : World), Below B w w0 → Below B w (w0.setCells b o vs)
  | [], _, _, h => h
  | v :: r, o, w0, h => setCells_below b hb r (o + 1) _ (h.setCell (p := ⟨b, o, none⟩) hb v)

/-- Results that lie in a result variable. -/
theorem results_agg_tmp {P : Program} {fn : Func} {p u : Tmp} {ty : TypeId} (h : fn.results = #[.cell p ty, .tmp u]) (tmps : Array Value) (w : World) (g : Nat) (cs : List Value) (d : TypeDesc)
    (hp : tmps.getD p undef = .pointer (some ⟨g, 0, none⟩)) (hc : w.rangeAt g 0 cs) (hu : P.underlying ty = some d) (hd : d.isRow = true) (hi : (P.info? ty).map (·.size) = some cs.length) :
    (results fn tmps).run P w = .ok (.tuple #[.agg cs.toArray, tmps.getD u undef]) w := by
  rw [results_cell_tmp h, hp]
  simp [asAddr, run_loadVar_mid w g 0 ty cs d hc hu hd hi]
theorem results_agg {P : Program} {fn : Func} {p : Tmp} {ty : TypeId} (h : fn.results = #[.cell p ty]) (tmps : Array Value) (w : World) (g : Nat) (cs : List Value) (d : TypeDesc)
    (hp : tmps.getD p undef = .pointer (some ⟨g, 0, none⟩)) (hc : w.rangeAt g 0 cs) (hu : P.underlying ty = some d) (hd : d.isRow = true) (hi : (P.info? ty).map (·.size) = some cs.length) :
    (results fn tmps).run P w = .ok (.agg cs.toArray) w := by
  have hp' : tmps[p]?.getD undef = .pointer (some ⟨g, 0, none⟩) := by simpa using hp
  simp [results, h, hp', asAddr, run_loadVar_mid w g 0 ty cs d hc hu hd hi]

/-- Bytes copied into a fresh address. -/
theorem copied (W : World) (six : Bool) (n : Nat) (l : List UInt8) (hl : l.length = n) (hn : n ≤ 16) (A : Array Value) (hA : A.toList = adrC six z16) (b off c : Nat) (hb : b < W.heap.size) (hc : Cells W (some ⟨b, off, none⟩) l) :
    ∃ W3, Sem.run Tryd.prog (Builtin.copy_ #[23, 23] 3 #[.slice (some ⟨W.heap.size, 1, none⟩) 16 16, .slice (some ⟨b, off, none⟩) n c]) (W.alloc (.cells A 46)) = .ok (goInt n) W3 ∧
      W3.rangeAt W.heap.size 0 (adrC six (adr l)) ∧ W3.there W.heap.size 0 17 ∧ Below W.heap.size W W3 := by
  have hsz : A.size = 17 := by rw [← Array.length_toList, hA, adr_size _ _ (by simp [z16])]
  have hr := run_copy_cells (P := Tryd.prog) (W.alloc (.cells A 46)) 23 23 3 5 W.heap.size 1 16 16 ⟨b, off, none⟩ n c (l.map u8v) Tryd.underlying23 (by kernel_rfl) (by simp [hl, Nat.min_def]; omega)
    ((hc.below ((Below.refl _ _).alloc (Nat.le_refl _) _) rfl).news ⟨b, off, none⟩ rfl)
    (fun j hj => ((there_new W A 46 17 hsz) (1 + j) (by simp at hj; omega)).1 |> fun h => by rwa [Nat.zero_add] at h)
    (fun j hj => ((there_new W A 46 17 hsz) (1 + j) (by simp at hj; omega)).2 |> fun h => by rwa [Nat.zero_add] at h) (u8v_oneCell _)
  rw [show ((l.map u8v).length : Int) = (n : Int) by simp [hl]] at hr
  refine ⟨_, hr, ?_, there_set (there_new W A _ 17 hsz) _ _ _ (by simp; exact there_part (there_new W A _ 17 hsz) 1 l.length (by omega) |> fun h => by rwa [Nat.zero_add] at h), setCells_below _ (Nat.le_refl _) _ _ _ ((Below.refl _ _).alloc (Nat.le_refl _) _)⟩
  intro j v hv
  rw [Nat.zero_add]
  have hn1 : (W.alloc (.cells A 46)).rangeAt W.heap.size 0 (adrC six z16) := by rw [← hA]; exact range_new W A _
  have hj17 : j < 17 := by have := (List.getElem?_eq_some_iff.1 hv).1; rw [adr_size _ _ (adr_length l (by omega))] at this; exact this
  by_cases h1 : 1 ≤ j ∧ j < 1 + n
  · obtain ⟨k, rfl⟩ : ∃ k, j = 1 + k := ⟨j - 1, by omega⟩
    have hk : k < l.length := by omega
    have := World.cell?_setCells_in W.heap.size (l.map u8v) 1 (W.alloc (.cells A 46)) (fun i hi => by
      have := ((there_new W A 46 17 hsz) (1 + i) (by simp at hi; omega)).1
      rwa [Nat.zero_add] at this) k (by simpa using hk)
    rw [this, ← hv]
    simp only [adrC, Nat.add_comm 1 k, List.getElem?_cons_succ, List.getElem?_map, adr, List.getElem?_append_left hk, List.getElem?_eq_getElem hk, Option.map_some, List.getElem_map]
  · rw [World.cell?_setCells_out _ _ _ _ _ (fun _ _ => by simp; omega)]
    have h0 := hn1 j v (by
      rw [← hv]
      match j, h1, hj17 with
      | 0, _, _ => rfl
      | k + 1, h1, hj =>
        have hk : l.length ≤ k := by omega
        simp only [adrC, adr, List.getElem?_cons_succ, List.getElem?_map]
        rw [List.getElem?_append_right hk]
        rw [show z16 = List.replicate 16 (0 : UInt8) from rfl, List.getElem?_replicate, List.getElem?_replicate, if_pos (by omega), if_pos (by omega)])
    rwa [Nat.zero_add] at h0

set_option maxHeartbeats 4000000 in
theorem from_4 (b off c : Nat) (l : List UInt8) (w : World) (hl : l.length = 4) (hc : Cells w (some ⟨b, off, none⟩) l) :
    Calls Tryd.prog 93 #[.slice (some ⟨b, off, none⟩) 4 c] w fun e w' => e = .returned (.tuple #[.agg (adrC false (adr l)).toArray, .nilIface]) ∧ Below w.heap.size w w' := by
  have hbw : b < w.heap.size := World.block_lt_of_cell? w _ (hc.at 0 (by omega))
  obtain ⟨W1, hW1⟩ : ∃ W, w.alloc (.cells #[.bool false, .int .u8 0, .int .u8 0, .int .u8 0, .int .u8 0, .int .u8 0, .int .u8 0, .int .u8 0, .int .u8 0, .int .u8 0, .int .u8 0, .int .u8 0, .int .u8 0, .int .u8 0, .int .u8 0, .int .u8 0, .int .u8 0] 46) = W := ⟨_, rfl⟩
  have hs1 : W1.heap.size = w.heap.size + 1 := by rw [← hW1]; simp
  have HB1 := show Below w.heap.size w W1 from by rw [← hW1]; exact (Below.refl _ _).alloc (Nat.le_refl _) _
  have HT1 := show W1.there w.heap.size 0 17 from by rw [← hW1]; exact there_new _ _ _ 17 rfl
  have hst1 : Sem.run Tryd.prog (stA (.pointer (some ⟨W1.heap.size, 0, none⟩)) (.agg #[.bool false, .int .u8 0, .int .u8 0, .int .u8 0, .int .u8 0, .int .u8 0, .int .u8 0, .int .u8 0, .int .u8 0, .int .u8 0, .int .u8 0, .int .u8 0, .int .u8 0, .int .u8 0, .int .u8 0, .int .u8 0, .int .u8 0])) (W1.alloc (.cells #[.bool false, .int .u8 0, .int .u8 0, .int .u8 0, .int .u8 0, .int .u8 0, .int .u8 0, .int .u8 0, .int .u8 0, .int .u8 0, .int .u8 0, .int .u8 0, .int .u8 0, .int .u8 0, .int .u8 0, .int .u8 0, .int .u8 0] 46)) = .ok () (W1.alloc (.cells #[.bool false, .int .u8 0, .int .u8 0, .int .u8 0, .int .u8 0, .int .u8 0, .int .u8 0, .int .u8 0, .int .u8 0, .int .u8 0, .int .u8 0, .int .u8 0, .int .u8 0, .int .u8 0, .int .u8 0, .int .u8 0, .int .u8 0] 46)) := by
    exact run_storeAt_new W1 _ _ _ (by kernel_rfl) rfl (adr_one false z16)
  obtain ⟨W3, hcp, hr3, ht3, hb3⟩ := copied W1 false 4 l hl (by omega) #[.bool false, .int .u8 0, .int .u8 0, .int .u8 0, .int .u8 0, .int .u8 0, .int .u8 0, .int .u8 0, .int .u8 0, .int .u8 0, .int .u8 0, .int .u8 0, .int .u8 0, .int .u8 0, .int .u8 0, .int .u8 0, .int .u8 0] rfl b off c (by omega) (hc.below HB1 rfl)
  have hld := run_ldA hr3 (adr_size _ _ (adr_length l (by omega)))
  have ht0 := there_below HT1 hb3 (by omega)
  have hst2 := run_stA (A := (adrC false (adr l)).toArray) ht0 (by simp; exact adr_size _ _ (adr_length l (by omega))) (adr_one _ _)
  have hr4 : (W3.setCells w.heap.size 0 (adrC false (adr l))).rangeAt w.heap.size 0 (adrC false (adr l)) := World.rangeAt_setCells_same _ _ _ _ (by rw [adr_size _ _ (adr_length l (by omega))]; exact ht0)
  have HB4 := Lib.hid (setCells_below w.heap.size (Nat.le_refl _) (adrC false (adr l)) 0 W3 (HB1.trans (hb3.mono (by omega))))
  obtain ⟨W4, hW4⟩ : ∃ W, W3.setCells w.heap.size 0 (adrC false (adr l)) = W := ⟨_, rfl⟩
  have hAl := adr_size false (adr l) (adr_length l (by omega))
  obtain ⟨A, hA⟩ : ∃ A, adrC false (adr l) = A := ⟨_, rfl⟩
  rw [hA] at hr3 hld hst2 hr4 HB4 hW4 hAl
  simp only at hst2
  rw [hW4] at hst2 hr4 HB4
  rw [hA]
  have HR4 := Lib.hid hr4
  clear hr3 ht3 hb3 ht0 hr4 hW4 HT1 HB1 hc hA hs1
  go_enter Tryd.func93, Tryd.ntmps93
  go_wp2_with fail
  refine bodyPost_ret (results_agg_tmp (p := 2) (u := 3) (ty := 46) rfl _ _ w.heap.size A _ rfl HR4.out Tryd.underlying46 rfl (by rw [hAl]; kernel_rfl)) rfl ⟨rfl, HB4.out⟩

set_option maxHeartbeats 4000000 in
theorem from_16 (b off c : Nat) (l : List UInt8) (w : World) (hl : l.length = 16) (hc : Cells w (some ⟨b, off, none⟩) l) :
    Calls Tryd.prog 93 #[.slice (some ⟨b, off, none⟩) 16 c] w fun e w' => e = .returned (.tuple #[.agg (adrC true (adr l)).toArray, .nilIface]) ∧ Below w.heap.size w w' := by
  have hbw : b < w.heap.size := World.block_lt_of_cell? w _ (hc.at 0 (by omega))
  obtain ⟨W1, hW1⟩ : ∃ W, w.alloc (.cells #[.bool false, .int .u8 0, .int .u8 0, .int .u8 0, .int .u8 0, .int .u8 0, .int .u8 0, .int .u8 0, .int .u8 0, .int .u8 0, .int .u8 0, .int .u8 0, .int .u8 0, .int .u8 0, .int .u8 0, .int .u8 0, .int .u8 0] 46) = W := ⟨_, rfl⟩
  have hs1 : W1.heap.size = w.heap.size + 1 := by rw [← hW1]; simp
  have HB1 := show Below w.heap.size w W1 from by rw [← hW1]; exact (Below.refl _ _).alloc (Nat.le_refl _) _
  have HT1 := show W1.there w.heap.size 0 17 from by rw [← hW1]; exact there_new _ _ _ 17 rfl
  have hst1 : Sem.run Tryd.prog (stA (.pointer (some ⟨W1.heap.size, 0, none⟩)) (.agg #[.bool true, .int .u8 0, .int .u8 0, .int .u8 0, .int .u8 0, .int .u8 0, .int .u8 0, .int .u8 0, .int .u8 0, .int .u8 0, .int .u8 0, .int .u8 0, .int .u8 0, .int .u8 0, .int .u8 0, .int .u8 0, .int .u8 0])) (W1.alloc (.cells #[.bool false, .int .u8 0, .int .u8 0, .int .u8 0, .int .u8 0, .int .u8 0, .int .u8 0, .int .u8 0, .int .u8 0, .int .u8 0, .int .u8 0, .int .u8 0, .int .u8 0, .int .u8 0, .int .u8 0, .int .u8 0, .int .u8 0] 46)) = .ok () (W1.alloc (.cells #[.bool true, .int .u8 0, .int .u8 0, .int .u8 0, .int .u8 0, .int .u8 0, .int .u8 0, .int .u8 0, .int .u8 0, .int .u8 0, .int .u8 0, .int .u8 0, .int .u8 0, .int .u8 0, .int .u8 0, .int .u8 0, .int .u8 0] 46)) := by
    exact run_storeAt_new W1 _ _ _ (by kernel_rfl) rfl (adr_one true z16)
  obtain ⟨W3, hcp, hr3, ht3, hb3⟩ := copied W1 true 16 l hl (by omega) #[.bool true, .int .u8 0, .int .u8 0, .int .u8 0, .int .u8 0, .int .u8 0, .int .u8 0, .int .u8 0, .int .u8 0, .int .u8 0, .int .u8 0, .int .u8 0, .int .u8 0, .int .u8 0, .int .u8 0, .int .u8 0, .int .u8 0] rfl b off c (by omega) (hc.below HB1 rfl)
  have hld := run_ldA hr3 (adr_size _ _ (adr_length l (by omega)))
  have ht0 := there_below HT1 hb3 (by omega)
  have hst2 := run_stA (A := (adrC true (adr l)).toArray) ht0 (by simp; exact adr_size _ _ (adr_length l (by omega))) (adr_one _ _)
  have hr4 : (W3.setCells w.heap.size 0 (adrC true (adr l))).rangeAt w.heap.size 0 (adrC true (adr l)) := World.rangeAt_setCells_same _ _ _ _ (by rw [adr_size _ _ (adr_length l (by omega))]; exact ht0)
  have HB4 := Lib.hid (setCells_below w.heap.size (Nat.le_refl _) (adrC true (adr l)) 0 W3 (HB1.trans (hb3.mono (by omega))))
  obtain ⟨W4, hW4⟩ : ∃ W, W3.setCells w.heap.size 0 (adrC true (adr l)) = W := ⟨_, rfl⟩
  have hAl := adr_size true (adr l) (adr_length l (by omega))
  obtain ⟨A, hA⟩ : ∃ A, adrC true (adr l) = A := ⟨_, rfl⟩
  rw [hA] at hr3 hld hst2 hr4 HB4 hW4 hAl
  simp only at hst2
  rw [hW4] at hst2 hr4 HB4
  rw [hA]
  have HR4 := Lib.hid hr4
  clear hr3 ht3 hb3 ht0 hr4 hW4 HT1 HB1 hc hA hs1
  go_enter Tryd.func93, Tryd.ntmps93
  go_wp2_with fail
  refine bodyPost_ret (results_agg_tmp (p := 2) (u := 3) (ty := 46) rfl _ _ w.heap.size A _ rfl HR4.out Tryd.underlying46 rfl (by rw [hAl]; kernel_rfl)) rfl ⟨rfl, HB4.out⟩

/-- The kit's head.address and the reference's, of four and of sixteen bytes. -/
def sixOf (n : Nat) : Bool := n == 16

set_option maxHeartbeats 4000000 in
theorem address_4 (b off c : Nat) (l : List UInt8) (w : World) (hl : l.length = 4) (hc : Cells w (some ⟨b, off, none⟩) l) :
    Calls Tryd.prog 74 #[.slice (some ⟨b, off, none⟩) 4 c] w fun e w' => e = .returned (.agg (adrC false (adr l)).toArray) ∧ Below w.heap.size w w' := by
  obtain ⟨W1, hW1⟩ : ∃ W, w.alloc (.cells #[.bool false, .int .u8 0, .int .u8 0, .int .u8 0, .int .u8 0, .int .u8 0, .int .u8 0, .int .u8 0, .int .u8 0, .int .u8 0, .int .u8 0, .int .u8 0, .int .u8 0, .int .u8 0, .int .u8 0, .int .u8 0, .int .u8 0] 46) = W := ⟨_, rfl⟩
  have hs1 : W1.heap.size = w.heap.size + 1 := by rw [← hW1]; simp
  have HB1 := show Below w.heap.size w W1 from by rw [← hW1]; exact (Below.refl _ _).alloc (Nat.le_refl _) _
  have HT1 := show W1.there w.heap.size 0 17 from by rw [← hW1]; exact there_new _ _ _ 17 rfl
  have HF := Lib.hid (from_4 b off c l W1 hl (hc.below HB1 rfl))
  have hAl := adr_size false (adr l) (adr_length l (by omega))
  have hA1 := adr_one false (adr l)
  obtain ⟨A, hA⟩ : ∃ A, adrC false (adr l) = A := ⟨_, rfl⟩
  rw [hA] at HF hAl hA1
  rw [hA]
  have hAs : A.toArray.size = 17 := by simpa using hAl
  have HX : Hid (∀ W2, Below W1.heap.size W1 W2 →
      Sem.run Tryd.prog (stA (.pointer (some ⟨W2.heap.size, 0, none⟩)) (.agg A.toArray)) (W2.alloc (.cells #[.bool false, .int .u8 0, .int .u8 0, .int .u8 0, .int .u8 0, .int .u8 0, .int .u8 0, .int .u8 0, .int .u8 0, .int .u8 0, .int .u8 0, .int .u8 0, .int .u8 0, .int .u8 0, .int .u8 0, .int .u8 0, .int .u8 0] 46)) = .ok () (W2.alloc (.cells A.toArray 46)) ∧
      Sem.run Tryd.prog (ldA (.pointer (some ⟨W2.heap.size, 0, none⟩))) (W2.alloc (.cells A.toArray 46)) = .ok (.agg A.toArray) (W2.alloc (.cells A.toArray 46)) ∧
      ∃ W4, Sem.run Tryd.prog (stA (.pointer (some ⟨w.heap.size, 0, none⟩)) (.agg A.toArray)) (W2.alloc (.cells A.toArray 46)) = .ok () W4 ∧ Hid (W4.rangeAt w.heap.size 0 A) ∧ Hid (Below w.heap.size w W4)) := Lib.hid fun W2 hb => by
    have hb2 : Below W1.heap.size W1 (W2.alloc (.cells A.toArray 46)) := hb.alloc hb.size _
    have ht := there_below HT1 hb2 (by omega)
    refine ⟨run_storeAt_new W2 _ _ _ (by rw [hAs]; kernel_rfl) (by rw [hAs]; rfl) hA1, run_ldA (by have := range_new W2 A.toArray 46; simpa using this) hAl, _, run_stA ht hAs hA1, World.rangeAt_setCells_same _ _ _ _ (by simp only; rw [hAl]; exact ht), setCells_below _ (Nat.le_refl _) _ _ _ (HB1.trans (hb2.mono (by omega)))⟩
  clear hs1 HB1 HT1 hc hA hA1
  go_enter Tryd.func74, Tryd.ntmps74
  go_wp2_with (go_at_call 93; refine HF.out.mono ?_; rintro e W2 ⟨rfl, hb2⟩; obtain ⟨hx1, hx2, W4, hx3, HR4, HB4⟩ := HX.out W2 hb2; clear hb2)
  refine bodyPost_ret (results_agg (p := 2) (ty := 46) rfl _ _ w.heap.size A _ rfl HR4.out Tryd.underlying46 rfl (by rw [hAl]; kernel_rfl)) rfl ⟨rfl, HB4.out⟩

set_option maxHeartbeats 4000000 in
theorem refaddress_4 (b off c : Nat) (l : List UInt8) (w : World) (hl : l.length = 4) (hc : Cells w (some ⟨b, off, none⟩) l) :
    Calls Tryd.prog 54 #[.slice (some ⟨b, off, none⟩) 4 c] w fun e w' => e = .returned (.agg (adrC false (adr l)).toArray) ∧ Below w.heap.size w w' := by
  have hbw : b < w.heap.size := World.block_lt_of_cell? w _ (hc.at 0 (by omega))
  obtain ⟨W1, hW1⟩ : ∃ W, w.alloc (.cells #[.bool false, .int .u8 0, .int .u8 0, .int .u8 0, .int .u8 0, .int .u8 0, .int .u8 0, .int .u8 0, .int .u8 0, .int .u8 0, .int .u8 0, .int .u8 0, .int .u8 0, .int .u8 0, .int .u8 0, .int .u8 0, .int .u8 0] 46) = W := ⟨_, rfl⟩
  have hs1 : W1.heap.size = w.heap.size + 1 := by rw [← hW1]; simp
  have HB1 := show Below w.heap.size w W1 from by rw [← hW1]; exact (Below.refl _ _).alloc (Nat.le_refl _) _
  have HT1 := show W1.there w.heap.size 0 17 from by rw [← hW1]; exact there_new _ _ _ 17 rfl
  have hst1 : Sem.run Tryd.prog (stA (.pointer (some ⟨W1.heap.size, 0, none⟩)) (.agg #[.bool false, .int .u8 0, .int .u8 0, .int .u8 0, .int .u8 0, .int .u8 0, .int .u8 0, .int .u8 0, .int .u8 0, .int .u8 0, .int .u8 0, .int .u8 0, .int .u8 0, .int .u8 0, .int .u8 0, .int .u8 0, .int .u8 0])) (W1.alloc (.cells #[.bool false, .int .u8 0, .int .u8 0, .int .u8 0, .int .u8 0, .int .u8 0, .int .u8 0, .int .u8 0, .int .u8 0, .int .u8 0, .int .u8 0, .int .u8 0, .int .u8 0, .int .u8 0, .int .u8 0, .int .u8 0, .int .u8 0] 46)) = .ok () (W1.alloc (.cells #[.bool false, .int .u8 0, .int .u8 0, .int .u8 0, .int .u8 0, .int .u8 0, .int .u8 0, .int .u8 0, .int .u8 0, .int .u8 0, .int .u8 0, .int .u8 0, .int .u8 0, .int .u8 0, .int .u8 0, .int .u8 0, .int .u8 0] 46)) := by
    exact run_storeAt_new W1 _ _ _ (by kernel_rfl) rfl (adr_one false z16)
  obtain ⟨W3, hcp, hr3, ht3, hb3⟩ := copied W1 false 4 l hl (by omega) #[.bool false, .int .u8 0, .int .u8 0, .int .u8 0, .int .u8 0, .int .u8 0, .int .u8 0, .int .u8 0, .int .u8 0, .int .u8 0, .int .u8 0, .int .u8 0, .int .u8 0, .int .u8 0, .int .u8 0, .int .u8 0, .int .u8 0] rfl b off c (by omega) (hc.below HB1 rfl)
  have hld := run_ldA hr3 (adr_size _ _ (adr_length l (by omega)))
  have ht0 := there_below HT1 hb3 (by omega)
  have hst2 := run_stA (A := (adrC false (adr l)).toArray) ht0 (by simp; exact adr_size _ _ (adr_length l (by omega))) (adr_one _ _)
  have hr4 : (W3.setCells w.heap.size 0 (adrC false (adr l))).rangeAt w.heap.size 0 (adrC false (adr l)) := World.rangeAt_setCells_same _ _ _ _ (by rw [adr_size _ _ (adr_length l (by omega))]; exact ht0)
  have HB4 := Lib.hid (setCells_below w.heap.size (Nat.le_refl _) (adrC false (adr l)) 0 W3 (HB1.trans (hb3.mono (by omega))))
  obtain ⟨W4, hW4⟩ : ∃ W, W3.setCells w.heap.size 0 (adrC false (adr l)) = W := ⟨_, rfl⟩
  have hAl := adr_size false (adr l) (adr_length l (by omega))
  obtain ⟨A, hA⟩ : ∃ A, adrC false (adr l) = A := ⟨_, rfl⟩
  rw [hA] at hr3 hld hst2 hr4 HB4 hW4 hAl
  simp only at hst2
  rw [hW4] at hst2 hr4 HB4
  rw [hA]
  have HR4 := Lib.hid hr4
  clear hr3 ht3 hb3 ht0 hr4 hW4 HT1 HB1 hc hA hs1
  go_enter Tryd.func54, Tryd.ntmps54
  go_wp2_with fail
  refine bodyPost_ret (results_agg (p := 2) (ty := 46) rfl _ _ w.heap.size A _ rfl HR4.out Tryd.underlying46 rfl (by rw [hAl]; kernel_rfl)) rfl ⟨rfl, HB4.out⟩

set_option maxHeartbeats 4000000 in
theorem address_16 (b off c : Nat) (l : List UInt8) (w : World) (hl : l.length = 16) (hc : Cells w (some ⟨b, off, none⟩) l) :
    Calls Tryd.prog 74 #[.slice (some ⟨b, off, none⟩) 16 c] w fun e w' => e = .returned (.agg (adrC true (adr l)).toArray) ∧ Below w.heap.size w w' := by
  obtain ⟨W1, hW1⟩ : ∃ W, w.alloc (.cells #[.bool false, .int .u8 0, .int .u8 0, .int .u8 0, .int .u8 0, .int .u8 0, .int .u8 0, .int .u8 0, .int .u8 0, .int .u8 0, .int .u8 0, .int .u8 0, .int .u8 0, .int .u8 0, .int .u8 0, .int .u8 0, .int .u8 0] 46) = W := ⟨_, rfl⟩
  have hs1 : W1.heap.size = w.heap.size + 1 := by rw [← hW1]; simp
  have HB1 := show Below w.heap.size w W1 from by rw [← hW1]; exact (Below.refl _ _).alloc (Nat.le_refl _) _
  have HT1 := show W1.there w.heap.size 0 17 from by rw [← hW1]; exact there_new _ _ _ 17 rfl
  have HF := Lib.hid (from_16 b off c l W1 hl (hc.below HB1 rfl))
  have hAl := adr_size true (adr l) (adr_length l (by omega))
  have hA1 := adr_one true (adr l)
  obtain ⟨A, hA⟩ : ∃ A, adrC true (adr l) = A := ⟨_, rfl⟩
  rw [hA] at HF hAl hA1
  rw [hA]
  have hAs : A.toArray.size = 17 := by simpa using hAl
  have HX : Hid (∀ W2, Below W1.heap.size W1 W2 →
      Sem.run Tryd.prog (stA (.pointer (some ⟨W2.heap.size, 0, none⟩)) (.agg A.toArray)) (W2.alloc (.cells #[.bool false, .int .u8 0, .int .u8 0, .int .u8 0, .int .u8 0, .int .u8 0, .int .u8 0, .int .u8 0, .int .u8 0, .int .u8 0, .int .u8 0, .int .u8 0, .int .u8 0, .int .u8 0, .int .u8 0, .int .u8 0, .int .u8 0] 46)) = .ok () (W2.alloc (.cells A.toArray 46)) ∧
      Sem.run Tryd.prog (ldA (.pointer (some ⟨W2.heap.size, 0, none⟩))) (W2.alloc (.cells A.toArray 46)) = .ok (.agg A.toArray) (W2.alloc (.cells A.toArray 46)) ∧
      ∃ W4, Sem.run Tryd.prog (stA (.pointer (some ⟨w.heap.size, 0, none⟩)) (.agg A.toArray)) (W2.alloc (.cells A.toArray 46)) = .ok () W4 ∧ Hid (W4.rangeAt w.heap.size 0 A) ∧ Hid (Below w.heap.size w W4)) := Lib.hid fun W2 hb => by
    have hb2 : Below W1.heap.size W1 (W2.alloc (.cells A.toArray 46)) := hb.alloc hb.size _
    have ht := there_below HT1 hb2 (by omega)
    refine ⟨run_storeAt_new W2 _ _ _ (by rw [hAs]; kernel_rfl) (by rw [hAs]; rfl) hA1, run_ldA (by have := range_new W2 A.toArray 46; simpa using this) hAl, _, run_stA ht hAs hA1, World.rangeAt_setCells_same _ _ _ _ (by simp only; rw [hAl]; exact ht), setCells_below _ (Nat.le_refl _) _ _ _ (HB1.trans (hb2.mono (by omega)))⟩
  clear hs1 HB1 HT1 hc hA hA1
  go_enter Tryd.func74, Tryd.ntmps74
  go_wp2_with (go_at_call 93; refine HF.out.mono ?_; rintro e W2 ⟨rfl, hb2⟩; obtain ⟨hx1, hx2, W4, hx3, HR4, HB4⟩ := HX.out W2 hb2; clear hb2)
  refine bodyPost_ret (results_agg (p := 2) (ty := 46) rfl _ _ w.heap.size A _ rfl HR4.out Tryd.underlying46 rfl (by rw [hAl]; kernel_rfl)) rfl ⟨rfl, HB4.out⟩

set_option maxHeartbeats 4000000 in
theorem refaddress_16 (b off c : Nat) (l : List UInt8) (w : World) (hl : l.length = 16) (hc : Cells w (some ⟨b, off, none⟩) l) :
    Calls Tryd.prog 54 #[.slice (some ⟨b, off, none⟩) 16 c] w fun e w' => e = .returned (.agg (adrC true (adr l)).toArray) ∧ Below w.heap.size w w' := by
  have hbw : b < w.heap.size := World.block_lt_of_cell? w _ (hc.at 0 (by omega))
  obtain ⟨W1, hW1⟩ : ∃ W, w.alloc (.cells #[.bool false, .int .u8 0, .int .u8 0, .int .u8 0, .int .u8 0, .int .u8 0, .int .u8 0, .int .u8 0, .int .u8 0, .int .u8 0, .int .u8 0, .int .u8 0, .int .u8 0, .int .u8 0, .int .u8 0, .int .u8 0, .int .u8 0] 46) = W := ⟨_, rfl⟩
  have hs1 : W1.heap.size = w.heap.size + 1 := by rw [← hW1]; simp
  have HB1 := show Below w.heap.size w W1 from by rw [← hW1]; exact (Below.refl _ _).alloc (Nat.le_refl _) _
  have HT1 := show W1.there w.heap.size 0 17 from by rw [← hW1]; exact there_new _ _ _ 17 rfl
  have hst1 : Sem.run Tryd.prog (stA (.pointer (some ⟨W1.heap.size, 0, none⟩)) (.agg #[.bool true, .int .u8 0, .int .u8 0, .int .u8 0, .int .u8 0, .int .u8 0, .int .u8 0, .int .u8 0, .int .u8 0, .int .u8 0, .int .u8 0, .int .u8 0, .int .u8 0, .int .u8 0, .int .u8 0, .int .u8 0, .int .u8 0])) (W1.alloc (.cells #[.bool false, .int .u8 0, .int .u8 0, .int .u8 0, .int .u8 0, .int .u8 0, .int .u8 0, .int .u8 0, .int .u8 0, .int .u8 0, .int .u8 0, .int .u8 0, .int .u8 0, .int .u8 0, .int .u8 0, .int .u8 0, .int .u8 0] 46)) = .ok () (W1.alloc (.cells #[.bool true, .int .u8 0, .int .u8 0, .int .u8 0, .int .u8 0, .int .u8 0, .int .u8 0, .int .u8 0, .int .u8 0, .int .u8 0, .int .u8 0, .int .u8 0, .int .u8 0, .int .u8 0, .int .u8 0, .int .u8 0, .int .u8 0] 46)) := by
    exact run_storeAt_new W1 _ _ _ (by kernel_rfl) rfl (adr_one true z16)
  obtain ⟨W3, hcp, hr3, ht3, hb3⟩ := copied W1 true 16 l hl (by omega) #[.bool true, .int .u8 0, .int .u8 0, .int .u8 0, .int .u8 0, .int .u8 0, .int .u8 0, .int .u8 0, .int .u8 0, .int .u8 0, .int .u8 0, .int .u8 0, .int .u8 0, .int .u8 0, .int .u8 0, .int .u8 0, .int .u8 0] rfl b off c (by omega) (hc.below HB1 rfl)
  have hld := run_ldA hr3 (adr_size _ _ (adr_length l (by omega)))
  have ht0 := there_below HT1 hb3 (by omega)
  have hst2 := run_stA (A := (adrC true (adr l)).toArray) ht0 (by simp; exact adr_size _ _ (adr_length l (by omega))) (adr_one _ _)
  have hr4 : (W3.setCells w.heap.size 0 (adrC true (adr l))).rangeAt w.heap.size 0 (adrC true (adr l)) := World.rangeAt_setCells_same _ _ _ _ (by rw [adr_size _ _ (adr_length l (by omega))]; exact ht0)
  have HB4 := Lib.hid (setCells_below w.heap.size (Nat.le_refl _) (adrC true (adr l)) 0 W3 (HB1.trans (hb3.mono (by omega))))
  obtain ⟨W4, hW4⟩ : ∃ W, W3.setCells w.heap.size 0 (adrC true (adr l)) = W := ⟨_, rfl⟩
  have hAl := adr_size true (adr l) (adr_length l (by omega))
  obtain ⟨A, hA⟩ : ∃ A, adrC true (adr l) = A := ⟨_, rfl⟩
  rw [hA] at hr3 hld hst2 hr4 HB4 hW4 hAl
  simp only at hst2
  rw [hW4] at hst2 hr4 HB4
  rw [hA]
  have HR4 := Lib.hid hr4
  clear hr3 ht3 hb3 ht0 hr4 hW4 HT1 HB1 hc hA hs1
  go_enter Tryd.func54, Tryd.ntmps54
  go_wp2_with fail
  refine bodyPost_ret (results_agg (p := 2) (ty := 46) rfl _ _ w.heap.size A _ rfl HR4.out Tryd.underlying46 rfl (by rw [hAl]; kernel_rfl)) rfl ⟨rfl, HB4.out⟩
end Go.Proofs.YtilhioiocfllhaaDoor
