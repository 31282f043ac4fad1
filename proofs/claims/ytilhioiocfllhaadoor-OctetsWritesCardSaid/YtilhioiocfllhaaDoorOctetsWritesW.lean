/- The walk of the law OctetsWrites. -/
import Derived.Test.YtilhioiocfllhaaDoorOctText
import Derived.Test.YtilhioiocfllhaaDoorLaid
namespace Go.Proofs.YtilhioiocfllhaaDoor.octetsWrites
open Go.RowKit OctMath
set_option linter.unusedVariables false

set_option maxRecDepth 100000 in
theorem sents {w : World} (hL : laidMetH Tryd.prog Rows.octetsWritesRow.laid w) : ∃ adr, Sents w adr := by
  refine sents_of_laid hL (by kernel_rfl) (fun k => [0, 1, 2, 3, 4, 5, 6, 7, 8, 9, 10, 11, 12, 13, 14, 15, 16, 17].getD k 0) ?_ ?_
  · intro i j hi hj h
    have : ∀ i : Fin 18, ∀ j : Fin 18, [0, 1, 2, 3, 4, 5, 6, 7, 8, 9, 10, 11, 12, 13, 14, 15, 16, 17].getD i.1 0 = [0, 1, 2, 3, 4, 5, 6, 7, 8, 9, 10, 11, 12, 13, 14, 15, 16, 17].getD j.1 0 → i.1 = j.1 := by decide
    exact this ⟨i, hi⟩ ⟨j, hj⟩ h
  · intro k hk
    match k, hk with
    | 0, _ => exact ⟨_, _, 0, rfl, by kernel_rfl, by kernel_rfl, rfl⟩
    | 1, _ => exact ⟨_, _, 1, rfl, by kernel_rfl, by kernel_rfl, rfl⟩
    | 2, _ => exact ⟨_, _, 2, rfl, by kernel_rfl, by kernel_rfl, rfl⟩
    | 3, _ => exact ⟨_, _, 3, rfl, by kernel_rfl, by kernel_rfl, rfl⟩
    | 4, _ => exact ⟨_, _, 4, rfl, by kernel_rfl, by kernel_rfl, rfl⟩
    | 5, _ => exact ⟨_, _, 5, rfl, by kernel_rfl, by kernel_rfl, rfl⟩
    | 6, _ => exact ⟨_, _, 6, rfl, by kernel_rfl, by kernel_rfl, rfl⟩
    | 7, _ => exact ⟨_, _, 7, rfl, by kernel_rfl, by kernel_rfl, rfl⟩
    | 8, _ => exact ⟨_, _, 8, rfl, by kernel_rfl, by kernel_rfl, rfl⟩
    | 9, _ => exact ⟨_, _, 9, rfl, by kernel_rfl, by kernel_rfl, rfl⟩
    | 10, _ => exact ⟨_, _, 10, rfl, by kernel_rfl, by kernel_rfl, rfl⟩
    | 11, _ => exact ⟨_, _, 11, rfl, by kernel_rfl, by kernel_rfl, rfl⟩
    | 12, _ => exact ⟨_, _, 12, rfl, by kernel_rfl, by kernel_rfl, rfl⟩
    | 13, _ => exact ⟨_, _, 13, rfl, by kernel_rfl, by kernel_rfl, rfl⟩
    | 14, _ => exact ⟨_, _, 14, rfl, by kernel_rfl, by kernel_rfl, rfl⟩
    | 15, _ => exact ⟨_, _, 15, rfl, by kernel_rfl, by kernel_rfl, rfl⟩
    | 16, _ => exact ⟨_, _, 16, rfl, by kernel_rfl, by kernel_rfl, rfl⟩
    | 17, _ => exact ⟨_, _, 17, rfl, by kernel_rfl, by kernel_rfl, rfl⟩
    | n + 18, h => exact absurd h (by omega)
/-- How the encoding of a number ends: its bytes, or the error. -/
def Ends (out : Value) (m : Nat) (l : List UInt8) (w : World) (e : Ending) (w' : World) : Prop :=
  ∃ ao c, e = .returned (.tuple #[.slice ao m c, out]) ∧ Cells w' ao l ∧ Below w.heap.size w w'
theorem both (adr : Nat → Addr) (n s : Int) (hn : (Lit.int .i64 n).wf = true) (hs : (Lit.int .i64 s).wf = true) :
    ∃ (bad : Bool) (m : Nat) (l : List UInt8), l.length = m ∧ (∀ w, Sents w adr → Calls Tryd.prog 12 #[.int .i64 n, .int .i64 s] w (Ends (if bad then errV adr 0 else .nilIface) m l w)) ∧
      (∀ w, Calls Tryd.prog 13 #[.int .i64 n, .int .i64 s] w (Ends (.int .i64 (if bad then 1 else 0)) m l w)) := by
  by_cases h : s < 1 ∨ 8 < s ∨ n < 0 ∨ 4611686018427387904 < n
  · refine ⟨true, 0, [], rfl, fun w hS => (num_bad adr n s w hS ?_).mono ?_, fun w => (rnum_bad n s w h).mono ?_⟩
    · rcases h with h | h | h | h
      · exact .inl h
      · exact .inr (.inl h)
      · exact .inr (.inr (.inl h))
      · exact .inr (.inr (.inr (.inl h)))
    · rintro e w' ⟨rfl, k, rfl⟩
      exact ⟨_, _, rfl, .inl rfl, drewN_below _ _ _⟩
    · rintro e w' ⟨rfl, rfl⟩
      exact ⟨_, _, rfl, .inl rfl, Below.refl _ _⟩
  · obtain ⟨a, rfl⟩ := Int.eq_ofNat_of_zero_le (show 0 ≤ n by omega)
    obtain ⟨m, rfl⟩ := Int.eq_ofNat_of_zero_le (show 0 ≤ s by omega)
    have h1 : 1 ≤ m := by omega
    have h8 : m ≤ 8 := by omega
    have ha : a ≤ 4611686018427387904 := by omega
    by_cases hb : m < 8 ∧ 256 ^ m ≤ a
    · refine ⟨true, 0, [], rfl, fun w hS => (num_bad adr _ _ w hS (.inr (.inr (.inr (.inr ⟨a, m, rfl, rfl, hb.1, hb.2⟩))))).mono ?_, fun w => (rnum_any a m w h1 h8 (Lib.hid ha)).mono ?_⟩
      · rintro e w' ⟨rfl, k, rfl⟩
        exact ⟨_, _, rfl, .inl rfl, drewN_below _ _ _⟩
      · rintro e w' ⟨hk, _⟩
        obtain ⟨rfl, hB⟩ := hk hb.2
        exact ⟨_, _, rfl, .inl rfl, hB⟩
    · have hlt : a < 256 ^ m := by
        by_cases h9 : m < 8
        · exact Nat.lt_of_not_le fun h => hb ⟨h9, h⟩
        · obtain rfl : m = 8 := by omega
          exact Nat.lt_of_le_of_lt ha (by decide)
      refine ⟨false, m, be a m, be_length a m, fun w hS => (num_ok a m w h1 h8 (Lib.hid ha) (Lib.hid fun _ => hlt)).mono ?_, fun w => (rnum_any a m w h1 h8 (Lib.hid ha)).mono ?_⟩
      · rintro e w' ⟨v, rfl, hown, hB⟩
        obtain ⟨ao, c, rfl, hc, _⟩ := own_cells hown
        exact ⟨ao, c, rfl, hc, hB⟩
      · rintro e w' ⟨_, hk⟩
        obtain ⟨v, rfl, hown, hB⟩ := hk hlt
        obtain ⟨ao, c, rfl, hc, _⟩ := own_cells hown
        exact ⟨ao, c, rfl, hc, hB⟩
theorem bit_true (w : World) : Sem.run Tryd.prog (convert 23 9 (.slice (some ⟨w.heap.size, 0, none⟩) 1 1)) (w.alloc (.cells #[u8v (bit true)] 5)) = .ok (.string ⟨#[1]⟩) (w.alloc (.cells #[u8v (bit true)] 5)) :=
  conv_cells (l := [bit true]) (Cells.new w _ _ _ rfl) rfl
theorem bit_false (w : World) : Sem.run Tryd.prog (convert 23 9 (.slice (some ⟨w.heap.size, 0, none⟩) 1 1)) (w.alloc (.cells #[u8v (bit false)] 5)) = .ok (.string ⟨#[0]⟩) (w.alloc (.cells #[u8v (bit false)] 5)) :=
  conv_cells (l := [bit false]) (Cells.new w _ _ _ rfl) rfl
set_option maxRecDepth 100000 in
set_option maxHeartbeats 8000000 in
theorem walk (n s : Int) (t : ByteArray) (w : World) (hn : (Lit.int .i64 n).wf = true) (hs : (Lit.int .i64 s).wf = true) (ht : t.size ≤ maxLen) (hL : laidMetH Tryd.prog Rows.octetsWritesRow.laid w) :
    Calls Tryd.prog 3 #[.int .i64 n, .int .i64 s, .string t] w fun e w' => e = .returned (.bool true) ∧ Below w.heap.size w w' := by
  obtain ⟨adr, hS⟩ := sents hL
  obtain ⟨bad, m, l, hl, hA, hR⟩ := both adr n s hn hs
  have HS := Lib.hid hS
  have HL := Lib.hid hl
  have HA := Lib.hid hA
  have HR := Lib.hid hR
  unfold maxLen at ht
  clear hL hS hl hA hR hn hs
  by_cases hbig : 400 < t.size
  · have hbig' : (400 : Int) < (t.size : Int) := by omega
    go_enter Tryd.func3, Tryd.ntmps3
    go_wp2_with (go_at_call 11; refine (alive01_any _).mono ?_; rintro e w' ⟨rfl, hb⟩)
    go_ret
    exact ⟨rfl, hb⟩
  have hsm : (t.size : Int) ≤ 400 := by omega
  have HT4 : Hid (t.size ≤ 400) := Lib.hid (by omega)
  clear hbig ht
  by_cases hlg : 255 < t.size
  · have HTX : Hid (∀ w, Sents w adr → Calls Tryd.prog 15 #[.string t] w fun e w' => e = .returned (.tuple #[.slice none 0 0, errV adr 2]) ∧ ∃ k, w' = w.drewN k) := Lib.hid fun w h => text_long adr t w h hlg (by have := HT4.out; omega)
    have hlg' : (255 : Int) < (t.size : Int) := by omega
    clear hlg
    cases bad
    · go_enter Tryd.func3, Tryd.ntmps3
      go_wp2_with (first | (go_at_call 11; refine (alive01_any _).mono ?_; rintro e w1 ⟨rfl, hb1⟩; have HB1 := Lib.hid hb1; clear hb1) | (go_at_call 12; refine (HA.out _ (HS.out.below HB1.out)).mono ?_; rintro e w2 ⟨ao, co, rfl, hc2, hb2⟩; have HB2 := Lib.hid (HB1.out.trans (hb2.mono HB1.out.size)); have HC2 := Lib.hid hc2; clear hb2 hc2) | (go_at_call 13; refine (HR.out _).mono ?_; rintro e w3 ⟨bo, cr, rfl, hc3, hb3⟩; have HB3 := Lib.hid (HB2.out.trans (hb3.mono HB2.out.size)); have k1 := conv_cells (c := co) (HC2.out.below hb3 rfl) HL.out; have k2 := conv_cells (c := cr) hc3 HL.out; clear hb3 hc3) | (have _g := HB3; go_at_call 14; (with_reducible refine (num_nil _).mono ?_); rintro e w4 ⟨rfl, rfl⟩; have HB4 := HB3; clear k1 k2) | (go_at_call 15; refine (HTX.out _ (HS.out.below HB4.out)).mono ?_; rintro e w5 ⟨rfl, k5, rfl⟩; have HB5 := Lib.hid (HB4.out.trans (drewN_below _ _ k5))) | (go_at_call 14; (with_reducible refine (num_sent adr 2 (by decide) _ (HS.out.below HB5.out)).mono ?_); rintro e w6 ⟨rfl, hb6⟩; have HB6 := Lib.hid (HB5.out.trans (hb6.mono HB5.out.size)); clear hb6) | (go_at_call 16; (with_reducible refine (flag_any true _).mono ?_); rintro e w7 ⟨rfl, rfl⟩; have q1 := bit_true w6; have HB7 := Lib.hid (HB6.out.alloc HB6.out.size (.cells #[u8v (bit true)] 5))) | (go_at_call 16; (with_reducible refine (flag_any false _).mono ?_); rintro e w8 ⟨rfl, rfl⟩; have HB8 := Lib.hid (HB7.out.alloc HB7.out.size (.cells #[u8v (bit false)] 5)); have q2 := bit_false (w6.alloc (.cells #[u8v (bit true)] 5)); rw [World.size_alloc] at q2))
      go_ret
      exact ⟨rfl, HB8.out⟩
    · go_enter Tryd.func3, Tryd.ntmps3
      go_wp2_with (first | (go_at_call 11; refine (alive01_any _).mono ?_; rintro e w1 ⟨rfl, hb1⟩; have HB1 := Lib.hid hb1; clear hb1) | (go_at_call 12; refine (HA.out _ (HS.out.below HB1.out)).mono ?_; rintro e w2 ⟨ao, co, rfl, hc2, hb2⟩; have HB2 := Lib.hid (HB1.out.trans (hb2.mono HB1.out.size)); have HC2 := Lib.hid hc2; clear hb2 hc2) | (go_at_call 13; refine (HR.out _).mono ?_; rintro e w3 ⟨bo, cr, rfl, hc3, hb3⟩; have HB3 := Lib.hid (HB2.out.trans (hb3.mono HB2.out.size)); have k1 := conv_cells (c := co) (HC2.out.below hb3 rfl) HL.out; have k2 := conv_cells (c := cr) hc3 HL.out; clear hb3 hc3) | (have _g := HB3; go_at_call 14; (with_reducible refine (num_sent adr 0 (by decide) _ (HS.out.below HB3.out)).mono ?_); rintro e w4 ⟨rfl, hb4⟩; have HB4 := Lib.hid (HB3.out.trans (hb4.mono HB3.out.size)); clear hb4 k1 k2) | (go_at_call 15; refine (HTX.out _ (HS.out.below HB4.out)).mono ?_; rintro e w5 ⟨rfl, k5, rfl⟩; have HB5 := Lib.hid (HB4.out.trans (drewN_below _ _ k5))) | (go_at_call 14; (with_reducible refine (num_sent adr 2 (by decide) _ (HS.out.below HB5.out)).mono ?_); rintro e w6 ⟨rfl, hb6⟩; have HB6 := Lib.hid (HB5.out.trans (hb6.mono HB5.out.size)); clear hb6) | (go_at_call 16; (with_reducible refine (flag_any true _).mono ?_); rintro e w7 ⟨rfl, rfl⟩; have q1 := bit_true w6; have HB7 := Lib.hid (HB6.out.alloc HB6.out.size (.cells #[u8v (bit true)] 5))) | (go_at_call 16; (with_reducible refine (flag_any false _).mono ?_); rintro e w8 ⟨rfl, rfl⟩; have HB8 := Lib.hid (HB7.out.alloc HB7.out.size (.cells #[u8v (bit false)] 5)); have q2 := bit_false (w6.alloc (.cells #[u8v (bit true)] 5)); rw [World.size_alloc] at q2))
      go_ret
      exact ⟨rfl, HB8.out⟩
  · have HTX : Hid (∀ w, Calls Tryd.prog 15 #[.string t] w (TextPost t w)) := Lib.hid fun w => text_ok t w (by omega)
    have hlg' : (t.size : Int) ≤ 255 := by omega
    have hx : ((UInt8.ofNat t.size).toNat : Int) = (t.size : Int) := by rw [UInt8.toNat_ofNat']; omega
    obtain ⟨x, hxx⟩ : ∃ x, UInt8.ofNat t.size = x := ⟨_, rfl⟩
    rw [hxx] at hx
    have HTL : Hid (tx t = x :: t.data.toList) := Lib.hid (by unfold tx; rw [hxx])
    clear hlg hxx
    cases bad
    · go_enter Tryd.func3, Tryd.ntmps3
      go_wp2_with (first | (go_at_call 11; refine (alive01_any _).mono ?_; rintro e w1 ⟨rfl, hb1⟩; have HB1 := Lib.hid hb1; clear hb1) | (go_at_call 12; refine (HA.out _ (HS.out.below HB1.out)).mono ?_; rintro e w2 ⟨ao, co, rfl, hc2, hb2⟩; have HB2 := Lib.hid (HB1.out.trans (hb2.mono HB1.out.size)); have HC2 := Lib.hid hc2; clear hb2 hc2) | (go_at_call 13; refine (HR.out _).mono ?_; rintro e w3 ⟨bo, cr, rfl, hc3, hb3⟩; have HB3 := Lib.hid (HB2.out.trans (hb3.mono HB2.out.size)); have k1 := conv_cells (c := co) (HC2.out.below hb3 rfl) HL.out; have k2 := conv_cells (c := cr) hc3 HL.out; clear hb3 hc3) | (have _g := HB3; go_at_call 14; (with_reducible refine (num_nil _).mono ?_); rintro e w4 ⟨rfl, rfl⟩; have HB4 := HB3; clear k1 k2) | (go_at_call 15; refine (HTX.out _).mono ?_; rintro e w5 ⟨g, ct, rfl, hc5, hb5, hcp5, htp5⟩; have HB6 := Lib.hid (HB4.out.trans (hb5.mono HB4.out.size)); obtain ⟨hc0, o1, eo1, hcv1⟩ := text_parts g ct t x _ hc5 HTL.out hcp5; have hcv1 := hcv1 (ct - 1); clear hb5 hc5) | (go_at_call 16; (with_reducible refine (flag_any true _).mono ?_); rintro e w7 ⟨rfl, rfl⟩; have q1 := bit_true w5; have HB7 := Lib.hid (HB6.out.alloc HB6.out.size (.cells #[u8v (bit true)] 5))) | (go_at_call 16; (with_reducible refine (flag_any false _).mono ?_); rintro e w8 ⟨rfl, rfl⟩; have HB8 := Lib.hid (HB7.out.alloc HB7.out.size (.cells #[u8v (bit false)] 5)); have q2 := bit_false (w5.alloc (.cells #[u8v (bit true)] 5)); rw [World.size_alloc] at q2))
      go_ret
      exact ⟨rfl, HB8.out⟩
    · go_enter Tryd.func3, Tryd.ntmps3
      go_wp2_with (first | (go_at_call 11; refine (alive01_any _).mono ?_; rintro e w1 ⟨rfl, hb1⟩; have HB1 := Lib.hid hb1; clear hb1) | (go_at_call 12; refine (HA.out _ (HS.out.below HB1.out)).mono ?_; rintro e w2 ⟨ao, co, rfl, hc2, hb2⟩; have HB2 := Lib.hid (HB1.out.trans (hb2.mono HB1.out.size)); have HC2 := Lib.hid hc2; clear hb2 hc2) | (go_at_call 13; refine (HR.out _).mono ?_; rintro e w3 ⟨bo, cr, rfl, hc3, hb3⟩; have HB3 := Lib.hid (HB2.out.trans (hb3.mono HB2.out.size)); have k1 := conv_cells (c := co) (HC2.out.below hb3 rfl) HL.out; have k2 := conv_cells (c := cr) hc3 HL.out; clear hb3 hc3) | (have _g := HB3; go_at_call 14; (with_reducible refine (num_sent adr 0 (by decide) _ (HS.out.below HB3.out)).mono ?_); rintro e w4 ⟨rfl, hb4⟩; have HB4 := Lib.hid (HB3.out.trans (hb4.mono HB3.out.size)); clear hb4 k1 k2) | (go_at_call 15; refine (HTX.out _).mono ?_; rintro e w5 ⟨g, ct, rfl, hc5, hb5, hcp5, htp5⟩; have HB6 := Lib.hid (HB4.out.trans (hb5.mono HB4.out.size)); obtain ⟨hc0, o1, eo1, hcv1⟩ := text_parts g ct t x _ hc5 HTL.out hcp5; have hcv1 := hcv1 (ct - 1); clear hb5 hc5) | (go_at_call 16; (with_reducible refine (flag_any true _).mono ?_); rintro e w7 ⟨rfl, rfl⟩; have q1 := bit_true w5; have HB7 := Lib.hid (HB6.out.alloc HB6.out.size (.cells #[u8v (bit true)] 5))) | (go_at_call 16; (with_reducible refine (flag_any false _).mono ?_); rintro e w8 ⟨rfl, rfl⟩; have HB8 := Lib.hid (HB7.out.alloc HB7.out.size (.cells #[u8v (bit false)] 5)); have q2 := bit_false (w5.alloc (.cells #[u8v (bit true)] 5)); rw [World.size_alloc] at q2))
      go_ret
      exact ⟨rfl, HB8.out⟩
end Go.Proofs.YtilhioiocfllhaaDoor.octetsWrites
