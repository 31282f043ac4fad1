/- The walk of the law FrameBytes. -/
import Derived.Test.YtpidkpjhhabefaaDoorFrameBytes
import Derived.Test.YtpidkpjhhabefaaDoorLaid
namespace Go.Proofs.YtpidkpjhhabefaaDoor.frameBytes
open Go.RowKit FrameMath
set_option linter.unusedVariables false

set_option maxRecDepth 100000 in
theorem sents {w : World} (hL : laidMetH Tryd.prog Rows.frameBytesRow.laid w) : ∃ adr, Sents w adr := by
  refine sents_of_laid hL (by kernel_rfl) (fun k => [0, 1, 2, 3, 4, 5, 6, 7, 8, 9, 10, 11, 12, 13, 14, 15, 16, 17].getD k 0) ?_ ?_
  · intro i j hi hj h
    have : ∀ i : Fin 18, ∀ j : Fin 18, [0, 1, 2, 3, 4, 5, 6, 7, 8, 9, 10, 11, 12, 13, 14, 15, 16, 17].getD i.1 0 = [0, 1, 2, 3, 4, 5, 6, 7, 8, 9, 10, 11, 12, 13, 14, 15, 16, 17].getD j.1 0 → i.1 = j.1 := by decide
    exact this ⟨i, hi⟩ ⟨j, hj⟩ h
  · intro k hk
    match k, hk with
    | 0, _ => exact ⟨_, _, 1, rfl, by kernel_rfl, by kernel_rfl, rfl⟩
    | 1, _ => exact ⟨_, _, 2, rfl, by kernel_rfl, by kernel_rfl, rfl⟩
    | 2, _ => exact ⟨_, _, 3, rfl, by kernel_rfl, by kernel_rfl, rfl⟩
    | 3, _ => exact ⟨_, _, 0, rfl, by kernel_rfl, by kernel_rfl, rfl⟩
    | 4, _ => exact ⟨_, _, 4, rfl, by kernel_rfl, by kernel_rfl, rfl⟩
    | 5, _ => exact ⟨_, _, 5, rfl, by kernel_rfl, by kernel_rfl, rfl⟩
    | 6, _ => exact ⟨_, _, 6, rfl, by kernel_rfl, by kernel_rfl, rfl⟩
    | 7, _ => exact ⟨_, _, 7, rfl, by kernel_rfl, by kernel_rfl, rfl⟩
    | 8, _ => exact ⟨_, _, 8, rfl, by kernel_rfl, by kernel_rfl, rfl⟩
    | 9, _ => exact ⟨_, _, 9, rfl, by kernel_rfl, by kernel_rfl, rfl⟩
    | 10, _ => exact ⟨_, _, 10, rfl, by kernel_rfl, by kernel_rfl, rfl⟩
    | 11, _ => exact ⟨_, _, 11, rfl, by kernel_rfl, by kernel_rfl, rfl⟩
    | 12, _ => exact ⟨_, _, 12, rfl, by kernel_rfl, by kernel_rfl, rfl⟩
    | 13, _ => exact ⟨_, _, 13, rfl, by kernel_rfl, by kernel_rfl, rfl⟩
    | 14, _ => exact ⟨_, _, 14, rfl, by kernel_rfl, by kernel_rfl, rfl⟩
    | 15, _ => exact ⟨_, _, 15, rfl, by kernel_rfl, by kernel_rfl, rfl⟩
    | 16, _ => exact ⟨_, _, 16, rfl, by kernel_rfl, by kernel_rfl, rfl⟩
    | 17, _ => exact ⟨_, _, 17, rfl, by kernel_rfl, by kernel_rfl, rfl⟩
    | n + 18, h => exact absurd h (by omega)
theorem open0 {H : Type} {enc : TypeId × Value → H} {w : World} {base : Nat} {spare : Nat → Bool} {held : Bool} {r : Reach} {b0 : Nat} {v : Value} {d : DataW H} {ps : List MemPlace} {w0 : World} (hval : Value.okWide Tryd.prog w0 r b0 46 v) (h : DataW.Trod enc Tryd.prog w base spare held 46 v d ps) : IsFrame w v := open_frame hval h
theorem open1 {H : Type} {enc : TypeId × Value → H} {w : World} {base : Nat} {spare : Nat → Bool} {held : Bool} {r : Reach} {b0 : Nat} {v : Value} {d : DataW H} {ps : List MemPlace} {w0 : World} (hval : Value.okWide Tryd.prog w0 r b0 46 v) (h : DataW.Trod enc Tryd.prog w base spare held 46 v d ps) : IsFrame w v := open_frame hval h

/-- The two frames, boxed. -/
structure Boxes (h : Nat) (x y x' y' : Value) (W : World) : Prop where
  f0 : W.cell? ⟨h, 0, none⟩ = some x
  f1 : W.cell? ⟨h, 1, none⟩ = some y
  g0 : W.cell? ⟨h + 1, 0, none⟩ = some x'
  g1 : W.cell? ⟨h + 1, 1, none⟩ = some y'
theorem Boxes.below {h : Nat} {x y x' y' : Value} {W W' : World} (k : Boxes h x y x' y' W) (hb : Below W.heap.size W W') : Boxes h x y x' y' W' where
  f0 := (hb.cell (p := ⟨h, 0, none⟩) (World.block_lt_of_cell? W _ k.f0)).trans k.f0
  f1 := (hb.cell (p := ⟨h, 1, none⟩) (World.block_lt_of_cell? W _ k.f1)).trans k.f1
  g0 := (hb.cell (p := ⟨h + 1, 0, none⟩) (World.block_lt_of_cell? W _ k.g0)).trans k.g0
  g1 := (hb.cell (p := ⟨h + 1, 1, none⟩) (World.block_lt_of_cell? W _ k.g1)).trans k.g1
theorem Boxes.new (w : World) (x y x' y' : Value) (t t' : TypeId) : Boxes w.heap.size x y x' y' ((w.alloc (.cells #[x, y] t)).alloc (.cells #[x', y'] t')) := by
  have h0 : Below w.heap.size.succ (w.alloc (.cells #[x, y] t)) ((w.alloc (.cells #[x, y] t)).alloc (.cells #[x', y'] t')) := (Below.refl _ _).alloc (by simp) _
  refine ⟨?_, ?_, by rw [cell_two]; rfl, by rw [cell_two]; rfl⟩
  · rw [h0.cell (p := ⟨w.heap.size, 0, none⟩) (Nat.lt_succ_self _), World.cell?_alloc_mark]; rfl
  · rw [h0.cell (p := ⟨w.heap.size, 1, none⟩) (Nat.lt_succ_self _), World.cell?_alloc_mark]; rfl
/-- The frame that was cut. -/
structure Two (g : Nat) (x y : Value) (W : World) : Prop where
  c0 : W.cell? ⟨g, 0, none⟩ = some x
  c1 : W.cell? ⟨g, 1, none⟩ = some y
theorem Two.below {g : Nat} {x y : Value} {W W' : World} (k : Two g x y W) (hb : Below W.heap.size W W') : Two g x y W' where
  c0 := (hb.cell (p := ⟨g, 0, none⟩) (World.block_lt_of_cell? W _ k.c0)).trans k.c0
  c1 := (hb.cell (p := ⟨g, 1, none⟩) (World.block_lt_of_cell? W _ k.c1)).trans k.c1
theorem six {h g : Nat} {x y x' y' u v : Value} {W : World} (k : Boxes h x y x' y' W) (t : Two g u v W) : W.cell? ⟨h, 0, none⟩ = some x ∧ W.cell? ⟨h, 1, none⟩ = some y ∧ W.cell? ⟨h + 1, 0, none⟩ = some x' ∧ W.cell? ⟨h + 1, 1, none⟩ = some y' ∧ W.cell? ⟨g, 0, none⟩ = some u ∧ W.cell? ⟨g, 1, none⟩ = some v := ⟨k.f0, k.f1, k.g0, k.g1, t.c0, t.c1⟩
/-- The frame's bytes are cut back. -/
theorem cut_enc (kd : Int) (l : List UInt8) (h0 : 0 ≤ kd) (h1 : kd ≤ 255) (hl : l.length ≤ 1199) : cut [] (enc kd l) = ([(UInt8.ofNat kd.toNat, l)], 0, false) := by
  have h2 : two (enc kd l) = l.length + 1 := by
    simp only [two, enc, List.cons_append, List.getD_cons_zero, List.getD_cons_succ, UInt8.toNat_ofNat']
    omega
  have hlen : (enc kd l).length = l.length + 3 := by simp [enc]
  rw [cut_on [] (enc kd l) (by rw [hlen]; omega) (by rw [h2]; omega) (by rw [h2, hlen]; omega), h2]
  have e1 : (enc kd l).getD 2 0 = UInt8.ofNat kd.toNat := rfl
  have e2 : ((enc kd l).drop 3).take (l.length + 1 - 1) = l := by
    have : (enc kd l).drop 3 = l := rfl
    rw [this]; exact List.take_of_length_le (by omega)
  have e3 : (enc kd l).drop (2 + (l.length + 1)) = [] := List.drop_eq_nil_of_le (by rw [hlen]; omega)
  rw [e1, e2, e3]
  exact cut_short _ _ (by decide)
/-- How the cut of a frame's bytes ends. -/
def BackPost (kd : Int) (l : List UInt8) (w : World) (e : Ending) (w' : World) : Prop :=
  ∃ g cap ao c, e = .returned (.tuple #[.slice (some ⟨g, 0, none⟩) 1 cap, .int .i64 0, .nilIface]) ∧ Below w.heap.size w w' ∧ w'.cell? ⟨g, 0, none⟩ = some (.int .i64 kd) ∧ w'.cell? ⟨g, 1, none⟩ = some (.slice ao l.length c) ∧ Cells w' ao l
theorem cut_back (adr : Nat → Addr) (ao : Option Addr) (n c : Nat) (kd : Int) (l : List UInt8) (w : World) (hS : Sents w adr) (h0 : 0 ≤ kd) (h1 : kd ≤ 255) (hl : l.length ≤ 1199) (hb : Bytes8 w ao n c (enc kd l)) :
    Calls Tryd.prog 8 #[.slice ao n c] w (BackPost kd l w) := by
  refine (cut_any adr _ _ _ (enc kd l) w hS (CutAt.start hb.len hb.cap hb.top (by rw [← hb.len]; simp [enc]; omega) hb.cells)).mono ?_
  rintro e w' ⟨v, fs, rfl, hbl, hF, hcn⟩
  rw [cut_enc kd l h0 h1 hl] at hcn ⊢
  have hln : fs.length = 1 := by have := congrArg List.length hcn; simpa [cont] using this
  obtain ⟨ao, cap, rfl, _, _, _, hcells⟩ := frames_form hF
  obtain ⟨g, rfl, c0, c1⟩ := hcells 0 (by omega)
  obtain ⟨f, rfl⟩ := List.length_eq_one_iff.1 hln
  obtain ⟨kx, a2, n2, c2, l2⟩ := f
  simp only [cont, List.map_cons, List.map_nil, List.cons.injEq, Prod.mk.injEq, and_true] at hcn
  obtain ⟨k1, k2⟩ := hcn
  subst k1; subst k2
  have hbo := hF.2 (_, ⟨a2, n2, c2, l2⟩) (List.mem_singleton.2 rfl)
  have hn2 : l2.length = n2 := hbo.1
  subst hn2
  refine ⟨g, cap, a2, c2, rfl, hbl, ?_, by simpa [Piece.val] using c1, hbo.cells⟩
  have : ((UInt8.ofNat kd.toNat).toNat : Int) = kd := by rw [UInt8.toNat_ofNat']; omega
  rw [← this]
  simpa using c0

set_option maxRecDepth 100000 in
set_option maxHeartbeats 8000000 in
theorem walk (v1 v2 : Value) (w : World) (h1 : IsFrame w v1) (h2 : IsFrame w v2) (hL : laidMetH Tryd.prog Rows.frameBytesRow.laid w) :
    Calls Tryd.prog 5 #[v1, v2] w fun e w' => e = .returned (.bool true) ∧ Below w.heap.size w w' := by
  obtain ⟨adr, hS⟩ := sents hL
  obtain ⟨k1, a1, n1, c1, l1, rfl, _, hb1⟩ := h1
  obtain ⟨k2, a2, n2, c2, l2, rfl, _, hb2⟩ := h2
  have HX0 := Lib.hid (Boxes.new w (.int .i64 k1) (.slice a1 n1 c1) (.int .i64 k2) (.slice a2 n2 c2) 46 46)
  have HB0 := Lib.hid (((Below.refl _ w).alloc (Nat.le_refl _) (.cells #[.int .i64 k1, .slice a1 n1 c1] 46)).alloc (by simp) (.cells #[.int .i64 k2, .slice a2 n2 c2] 46))
  have HS0 := Lib.hid (hS.below HB0.out)
  have H1 := Lib.hid (hb1.below HB0.out)
  have H2 := Lib.hid (hb2.below HB0.out)
  clear hL hS hb1 hb2
  obtain ⟨W0, hW0⟩ : ∃ W, (w.alloc (.cells #[.int .i64 k1, .slice a1 n1 c1] 46)).alloc (.cells #[.int .i64 k2, .slice a2 n2 c2] 46) = W := ⟨_, rfl⟩
  rw [hW0] at HX0 HB0 HS0 H1 H2
  by_cases hbig : 2000 < n1
  · have hbig' : (2000 : Int) < (n1 : Int) := by omega
    go_enter Tryd.func5, Tryd.ntmps5
    go_wp2_with (go_at_call 6; refine (alive12_any adr _ HS0.out).mono ?_; rintro e w1 ⟨rfl, hb⟩; have HB1 := Lib.hid (HB0.out.trans (hb.mono HB0.out.size)); obtain ⟨f0, f1, g0, g1⟩ := HX0.out.below hb; clear hb)
    go_ret
    exact ⟨rfl, HB1.out⟩
  have n1s : (n1 : Int) ≤ 2000 := by omega
  have hd1 : decide ((2000 : Int) < (n1 : Int)) = false := by simp; omega
  by_cases hbig2 : 2000 < n2
  · have hbig' : (2000 : Int) < (n2 : Int) := by omega
    go_enter Tryd.func5, Tryd.ntmps5
    go_wp2_with (go_at_call 6; refine (alive12_any adr _ HS0.out).mono ?_; rintro e w1 ⟨rfl, hb⟩; have HB1 := Lib.hid (HB0.out.trans (hb.mono HB0.out.size)); obtain ⟨f0, f1, g0, g1⟩ := HX0.out.below hb; clear hb)
    go_ret
    exact ⟨rfl, HB1.out⟩
  have hd2 : decide ((2000 : Int) < (n2 : Int)) = false := by simp; omega
  clear hbig hbig2
  by_cases hk : k1 < 0 ∨ 255 < k1
  · have HK := Lib.hid hk
    have ALIVE : True := trivial
    rcases hk with hk | hk
    · have hk' : decide (k1 < 0) = true := by simp; omega
      go_enter Tryd.func5, Tryd.ntmps5
      go_wp2_with (first | (go_at_call 6; refine (alive12_any adr _ HS0.out).mono ?_; rintro e w1 ⟨rfl, hb⟩; have HB1 := Lib.hid (HB0.out.trans (hb.mono HB0.out.size)); have HX1 := Lib.hid (HX0.out.below hb); have HS1 := Lib.hid (HS0.out.below hb); obtain ⟨f0, f1, g0, g1⟩ := HX1.out; clear hb) | (go_at_call 19; refine (fbytes_range adr _ _ _ _ _ HS1.out HK.out (by omega)).mono ?_; rintro e w2 ⟨rfl, hb⟩; have HB2 := Lib.hid (HB1.out.trans (hb.mono HB1.out.size)); have HS2 := Lib.hid (HS1.out.below hb); obtain ⟨f0', f1', g0', g1'⟩ := HX1.out.below hb; clear hb) | (go_at_call 12; refine (num_sent adr 0 (by decide) _ HS2.out).mono ?_; rintro e w7 ⟨rfl, hb7⟩; have HB7 := Lib.hid (HB2.out.trans (hb7.mono HB2.out.size)); clear hb7))
      go_ret
      exact ⟨rfl, HB7.out⟩
    · have hk' : decide (k1 < 0) = false := by simp; omega
      go_enter Tryd.func5, Tryd.ntmps5
      go_wp2_with (first | (go_at_call 6; refine (alive12_any adr _ HS0.out).mono ?_; rintro e w1 ⟨rfl, hb⟩; have HB1 := Lib.hid (HB0.out.trans (hb.mono HB0.out.size)); have HX1 := Lib.hid (HX0.out.below hb); have HS1 := Lib.hid (HS0.out.below hb); obtain ⟨f0, f1, g0, g1⟩ := HX1.out; clear hb) | (go_at_call 19; refine (fbytes_range adr _ _ _ _ _ HS1.out HK.out (by omega)).mono ?_; rintro e w2 ⟨rfl, hb⟩; have HB2 := Lib.hid (HB1.out.trans (hb.mono HB1.out.size)); have HS2 := Lib.hid (HS1.out.below hb); obtain ⟨f0', f1', g0', g1'⟩ := HX1.out.below hb; clear hb) | (go_at_call 12; refine (num_sent adr 0 (by decide) _ HS2.out).mono ?_; rintro e w7 ⟨rfl, hb7⟩; have HB7 := Lib.hid (HB2.out.trans (hb7.mono HB2.out.size)); clear hb7))
      go_ret
      exact ⟨rfl, HB7.out⟩
  have k0 : 0 ≤ k1 := by omega
  have k9 : k1 ≤ 255 := by omega
  have kd0 : decide (k1 < 0) = false := by simp; omega
  have kd9 : decide (255 < k1) = false := by simp; omega
  clear hk
  by_cases hlg : 1199 < n1
  · have HLG := Lib.hid hlg
    have hlg' : (1199 : Int) < (n1 : Int) := by omega
    clear hlg
    go_enter Tryd.func5, Tryd.ntmps5
    go_wp2_with (first | (go_at_call 6; refine (alive12_any adr _ HS0.out).mono ?_; rintro e w1 ⟨rfl, hb⟩; have HB1 := Lib.hid (HB0.out.trans (hb.mono HB0.out.size)); have HX1 := Lib.hid (HX0.out.below hb); have HS1 := Lib.hid (HS0.out.below hb); obtain ⟨f0, f1, g0, g1⟩ := HX1.out; clear hb) | (go_at_call 19; refine (fbytes_long adr _ _ _ _ _ HS1.out k0 k9 (by omega) HLG.out).mono ?_; rintro e w2 ⟨rfl, hb⟩; have HB2 := Lib.hid (HB1.out.trans (hb.mono HB1.out.size)); have HS2 := Lib.hid (HS1.out.below hb); obtain ⟨f0', f1', g0', g1'⟩ := HX1.out.below hb; clear hb) | (go_at_call 12; refine (num_sent adr 2 (by decide) _ HS2.out).mono ?_; rintro e w7 ⟨rfl, hb7⟩; have HB7 := Lib.hid (HB2.out.trans (hb7.mono HB2.out.size)); clear hb7))
    go_ret
    exact ⟨rfl, HB7.out⟩
  have hlg' : (n1 : Int) ≤ 1199 := by omega
  have HLG : Hid (n1 ≤ 1199) := Lib.hid (by omega)
  have HLL : Hid (l1.length ≤ 1199) := Lib.hid (by rw [H1.out.len]; omega)
  clear hlg
  have hse := str_eq l1 l2
  have HCV : Hid (∀ W, Below W0.heap.size W0 W → Sem.run Tryd.prog (convert 22 9 (.slice a1 n1 c1)) W = .ok (.string ⟨l1.toArray⟩) W ∧ Sem.run Tryd.prog (convert 22 9 (.slice a2 n2 c2)) W = .ok (.string ⟨l2.toArray⟩) W) := Lib.hid fun W hb => ⟨conv_cells (H1.out.below hb).cells H1.out.len, conv_cells (H2.out.below hb).cells H2.out.len⟩
  obtain ⟨x, hx⟩ : ∃ x : ByteArray, ⟨l1.toArray⟩ = x := ⟨_, rfl⟩
  obtain ⟨y, hy⟩ : ∃ x : ByteArray, ⟨l2.toArray⟩ = x := ⟨_, rfl⟩
  rw [hx, hy] at hse HCV
  clear hx hy
  have HEQ : Hid (∀ W, Below W0.heap.size W0 W → k1 = k2 → Calls Tryd.prog 20 #[.agg #[.int .i64 k1, .slice a1 n1 c1], .agg #[.int .i64 k1, .slice a2 n2 c2]] W fun e w' => e = .returned (.bool (eqL l1 l2)) ∧ Below W.heap.size W w') := Lib.hid fun W hb _ => samef_eq k1 _ _ _ _ _ _ l1 l2 W (H1.out.below hb).cells (H2.out.below hb).cells H1.out.len H2.out.len
  have HOWN : Hid (∀ W ao c, Below W0.heap.size W0 W → Cells W ao l1 → Calls Tryd.prog 20 #[.agg #[.int .i64 k1, .slice ao l1.length c], .agg #[.int .i64 k1, .slice a1 n1 c1]] W fun e w' => e = .returned (.bool true) ∧ Below W.heap.size W w') := Lib.hid fun W ao c hb hc => by
    have := samef_eq k1 ao a1 l1.length c n1 c1 l1 l1 W hc (H1.out.below hb).cells rfl H1.out.len
    rwa [show eqL l1 l1 = true by simp [eqL]] at this
  have HNE : Hid (k1 ≠ k2 → ∀ W, Calls Tryd.prog 20 #[.agg #[.int .i64 k1, .slice a1 n1 c1], .agg #[.int .i64 k2, .slice a2 n2 c2]] W fun e w' => e = .returned (.bool false) ∧ Below W.heap.size W w') := Lib.hid fun h W => samef_ne _ _ _ _ W h rfl rfl
  obtain ⟨m1, hm1⟩ : ∃ m, l1.length = m := ⟨_, rfl⟩
  rw [hm1] at HOWN
  have HM1 := Lib.hid hm1
  clear hm1
  by_cases hk : k1 = k2
  · subst hk
    obtain ⟨r, hr⟩ : ∃ r, eqL l1 l2 = r := ⟨_, rfl⟩
    rw [hr] at hse HEQ
    clear hr
    go_enter Tryd.func5, Tryd.ntmps5
    go_wp2_with (first | (go_at_call 6; refine (alive12_any adr _ HS0.out).mono ?_; rintro e w1 ⟨rfl, hb⟩; have HB1 := Lib.hid hb; have HX1 := Lib.hid (HX0.out.below hb); have HS1 := Lib.hid (HS0.out.below hb); have HY1 := Lib.hid (H1.out.below hb); obtain ⟨f0, f1, g0, g1⟩ := HX1.out; clear hb) | (go_at_call 19; refine (fbytes_ok _ _ _ _ l1 _ k0 k9 HLG.out HY1.out).mono ?_; rintro e w2 ⟨ao, co, rfl, hb, hby⟩; rw [HM1.out]; have HB2 := Lib.hid (HB1.out.trans (hb.mono HB1.out.size)); have HX2 := Lib.hid (HX1.out.below hb); have HS2 := Lib.hid (HS1.out.below hb); obtain ⟨f0', f1', g0', g1'⟩ := HX2.out; have HBY := Lib.hid hby; clear hb hby) | (go_at_call 8; rw [HM1.out] at HBY; refine (cut_back adr _ _ _ k1 l1 _ HS2.out k0 k9 HLL.out HBY.out).mono ?_; rintro e w3 ⟨g, cap, a3, c3, rfl, hb, d0, d1, hc3⟩; rw [HM1.out] at d1; have HB3 := Lib.hid (HB2.out.trans (hb.mono HB2.out.size)); have HX3 := Lib.hid (HX2.out.below hb); obtain ⟨f0'', f1'', g0'', g1''⟩ := HX3.out; obtain ⟨cv1, cv2⟩ := HCV.out _ HB3.out; have HC3 := Lib.hid hc3; clear hb hc3))
    clear cv1 cv2
    have HT3 := Lib.hid (Two.mk d0 d1)
    go_region_held3 (fun W => W.cell? ⟨w.heap.size, 0, none⟩ = some (.int .i64 k1) ∧ W.cell? ⟨w.heap.size, 1, none⟩ = some (.slice a1 n1 c1) ∧ W.cell? ⟨w.heap.size + 1, 0, none⟩ = some (.int .i64 k1) ∧ W.cell? ⟨w.heap.size + 1, 1, none⟩ = some (.slice a2 n2 c2) ∧ W.cell? ⟨g, 0, none⟩ = some (.int .i64 k1) ∧ W.cell? ⟨g, 1, none⟩ = some (.slice a3 m1 c3)) (first | exact six HX5.out HT5.out | exact six HX4.out HT4.out | exact six (HX3.out.below (Below.refl _ _).drew) (HT3.out.below (Below.refl _ _).drew)) (first | ((go_at_call 20; (with_reducible refine (HOWN.out _ _ _ ?_ ?_).mono ?_); exact HB3.out.trans (Below.refl _ _).drew; exact HC3.out.below (Below.refl _ _).drew rfl; rintro e w4 ⟨rfl, hb⟩; have HX4 := Lib.hid ((HX3.out.below (Below.refl _ _).drew).below hb); have HT4 := Lib.hid ((HT3.out.below (Below.refl _ _).drew).below hb); have HB4 := Lib.hid ((HB3.out.trans (Below.refl _ _).drew).trans (hb.mono HB3.out.size)); clear hb)) | ((go_at_call 20; (with_reducible refine (HEQ.out _ HB4.out trivial).mono ?_); rintro e w5 ⟨rfl, hb⟩; have HX5 := Lib.hid (HX4.out.below hb); have HT5 := Lib.hid (HT4.out.below hb); have HB5 := Lib.hid (HB4.out.trans (hb.mono HB4.out.size)); clear hb)))
    go_wp2_with fail
    go_ret
    exact ⟨rfl, HB0.out.trans (HB5.out.mono HB0.out.size)⟩
  · have HK := Lib.hid hk
    have hk' : (k1 == k2) = false := by rw [beq_eq_false_iff_ne]; exact hk
    clear hk
    go_enter Tryd.func5, Tryd.ntmps5
    go_wp2_with (first | (go_at_call 6; refine (alive12_any adr _ HS0.out).mono ?_; rintro e w1 ⟨rfl, hb⟩; have HB1 := Lib.hid hb; have HX1 := Lib.hid (HX0.out.below hb); have HS1 := Lib.hid (HS0.out.below hb); have HY1 := Lib.hid (H1.out.below hb); obtain ⟨f0, f1, g0, g1⟩ := HX1.out; clear hb) | (go_at_call 19; refine (fbytes_ok _ _ _ _ l1 _ k0 k9 HLG.out HY1.out).mono ?_; rintro e w2 ⟨ao, co, rfl, hb, hby⟩; rw [HM1.out]; have HB2 := Lib.hid (HB1.out.trans (hb.mono HB1.out.size)); have HX2 := Lib.hid (HX1.out.below hb); have HS2 := Lib.hid (HS1.out.below hb); obtain ⟨f0', f1', g0', g1'⟩ := HX2.out; have HBY := Lib.hid hby; clear hb hby) | (go_at_call 8; rw [HM1.out] at HBY; refine (cut_back adr _ _ _ k1 l1 _ HS2.out k0 k9 HLL.out HBY.out).mono ?_; rintro e w3 ⟨g, cap, a3, c3, rfl, hb, d0, d1, hc3⟩; rw [HM1.out] at d1; have HB3 := Lib.hid (HB2.out.trans (hb.mono HB2.out.size)); have HX3 := Lib.hid (HX2.out.below hb); obtain ⟨f0'', f1'', g0'', g1''⟩ := HX3.out; obtain ⟨cv1, cv2⟩ := HCV.out _ HB3.out; have HC3 := Lib.hid hc3; clear hb hc3))
    clear cv1 cv2
    have HT3 := Lib.hid (Two.mk d0 d1)
    go_region_held3 (fun W => W.cell? ⟨w.heap.size, 0, none⟩ = some (.int .i64 k1) ∧ W.cell? ⟨w.heap.size, 1, none⟩ = some (.slice a1 n1 c1) ∧ W.cell? ⟨w.heap.size + 1, 0, none⟩ = some (.int .i64 k2) ∧ W.cell? ⟨w.heap.size + 1, 1, none⟩ = some (.slice a2 n2 c2) ∧ W.cell? ⟨g, 0, none⟩ = some (.int .i64 k1) ∧ W.cell? ⟨g, 1, none⟩ = some (.slice a3 m1 c3)) (first | exact six HX5.out HT5.out | exact six HX4.out HT4.out | exact six (HX3.out.below (Below.refl _ _).drew) (HT3.out.below (Below.refl _ _).drew)) (first | ((go_at_call 20; (with_reducible refine (HOWN.out _ _ _ ?_ ?_).mono ?_); exact HB3.out.trans (Below.refl _ _).drew; exact HC3.out.below (Below.refl _ _).drew rfl; rintro e w4 ⟨rfl, hb⟩; have HX4 := Lib.hid ((HX3.out.below (Below.refl _ _).drew).below hb); have HT4 := Lib.hid ((HT3.out.below (Below.refl _ _).drew).below hb); have HB4 := Lib.hid ((HB3.out.trans (Below.refl _ _).drew).trans (hb.mono HB3.out.size)); clear hb)) | ((go_at_call 20; (with_reducible refine (HNE.out HK.out _).mono ?_); rintro e w5 ⟨rfl, hb⟩; have HX5 := Lib.hid (HX4.out.below hb); have HT5 := Lib.hid (HT4.out.below hb); have HB5 := Lib.hid (HB4.out.trans (hb.mono HB4.out.size)); clear hb)))
    go_wp2_with fail
    go_ret
    exact ⟨rfl, HB0.out.trans (HB5.out.mono HB0.out.size)⟩
end Go.Proofs.YtpidkpjhhabefaaDoor.frameBytes
