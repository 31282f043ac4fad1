/- The walk of the law StrideOf. -/
import Derived.Test.YtifdbjombgcfcaaDoorStOfs
import Derived.Test.YtifdbjombgcfcaaDoorLaid
namespace Go.Proofs.YtifdbjombgcfcaaDoor.strideOf
open Go.RowKit StMath PrimeMath HashMath
set_option linter.unusedVariables false

set_option maxRecDepth 100000 in
theorem sents {w : World} (hL : laidMetH Tryd.prog Rows.strideOfRow.laid w) : ∃ adr, Sents w adr := by
  refine sents_of_laid hL (by kernel_rfl) (fun k => [0, 1, 2, 3, 4, 5, 6, 7, 8, 9, 10, 11, 12, 13, 14, 15, 16, 17].getD k 0) ?_ ?_
  · intro i j hi hj h
    have : ∀ i : Fin 18, ∀ j : Fin 18, [0, 1, 2, 3, 4, 5, 6, 7, 8, 9, 10, 11, 12, 13, 14, 15, 16, 17].getD i.1 0 = [0, 1, 2, 3, 4, 5, 6, 7, 8, 9, 10, 11, 12, 13, 14, 15, 16, 17].getD j.1 0 → i.1 = j.1 := by decide
    exact this ⟨i, hi⟩ ⟨j, hj⟩ h
  · intro k hk
    match k, hk with
    | 0, _ => exact ⟨_, _, 0, rfl, by kernel_rfl, by kernel_rfl, rfl⟩
    | 1, _ => exact ⟨_, _, 1, rfl, by kernel_rfl, by kernel_rfl, rfl⟩
    | 2, _ => exact ⟨_, _, 2, rfl, by kernel_rfl, by kernel_rfl, rfl⟩
    | 3, _ => exact ⟨_, _, 3, rfl, by kernel_rfl, by kernel_rfl, rfl⟩
    | 4, _ => exact ⟨_, _, 4, rfl, by kernel_rfl, by kernel_rfl, rfl⟩
    | 5, _ => exact ⟨_, _, 5, rfl, by kernel_rfl, by kernel_rfl, rfl⟩
    | 6, _ => exact ⟨_, _, 6, rfl, by kernel_rfl, by kernel_rfl, rfl⟩
    | 7, _ => exact ⟨_, _, 7, rfl, by kernel_rfl, by kernel_rfl, rfl⟩
    | 8, _ => exact ⟨_, _, 8, rfl, by kernel_rfl, by kernel_rfl, rfl⟩
    | 9, _ => exact ⟨_, _, 9, rfl, by kernel_rfl, by kernel_rfl, rfl⟩
    | 10, _ => exact ⟨_, _, 10, rfl, by kernel_rfl, by kernel_rfl, rfl⟩
    | 11, _ => exact ⟨_, _, 11, rfl, by kernel_rfl, by kernel_rfl, rfl⟩
    | 12, _ => exact ⟨_, _, 12, rfl, by kernel_rfl, by kernel_rfl, rfl⟩
    | 13, _ => exact ⟨_, _, 13, rfl, by kernel_rfl, by kernel_rfl, rfl⟩
    | 14, _ => exact ⟨_, _, 14, rfl, by kernel_rfl, by kernel_rfl, rfl⟩
    | 15, _ => exact ⟨_, _, 15, rfl, by kernel_rfl, by kernel_rfl, rfl⟩
    | 16, _ => exact ⟨_, _, 16, rfl, by kernel_rfl, by kernel_rfl, rfl⟩
    | 17, _ => exact ⟨_, _, 17, rfl, by kernel_rfl, by kernel_rfl, rfl⟩
    | n + 18, h => exact absurd h (by omega)
theorem sz_nat {n : Int} (h : szB n = true) : ∃ n' : Nat, n = (n' : Int) ∧ isP n' = true ∧ 2 ≤ n' ∧ n' ≤ 251 := by
  simp only [szB, Bool.and_eq_true, decide_eq_true_eq] at h
  have hn : 0 ≤ n := by
    apply Int.le_of_not_gt
    intro hlt
    have := pI_low n (by omega)
    rw [this] at h
    cases h.2
  obtain ⟨n', rfl⟩ := Int.eq_ofNat_of_zero_le hn
  have h2 := h.2
  rw [pI_nat n' (by omega)] at h2
  exact ⟨n', rfl, h2, ((isP_iff n').1 h2).1, by omega⟩
theorem rt_of (n : Nat) (l : List UInt8) (h : szB n = true) (h2 : 2 ≤ n) : rtB n (offs n l) (skp n l) = true := by
  have h3 : offs n l < n := Nat.mod_lt _ (by omega)
  have h4 : skp n l < n := by
    unfold skp
    have := Nat.mod_lt (hs 2#64 l).toNat (show 0 < n - 1 by omega)
    omega
  have h5 : 1 ≤ skp n l := by unfold skp; omega
  simp only [rtB, h, Bool.true_and, Bool.and_eq_true, decide_eq_true_eq]
  exact ⟨by omega, by omega, by omega, by omega⟩
set_option maxRecDepth 100000 in
set_option maxHeartbeats 4000000 in
theorem walk (a : Option Addr) (m c : Nat) (zs : List Int) (n : Int) (w : World) (hr : IsRow .u8 w a m c zs) (hn : (Lit.int .i64 n).wf = true) (hL : laidMetH Tryd.prog Rows.strideOfRow.laid w) :
    Calls Tryd.prog 9 #[.slice a m c, .int .i64 n] w fun e w' => e = .returned (.bool true) ∧ Below w.heap.size w w' := by
  obtain ⟨adr, hS⟩ := sents hL
  obtain ⟨l, hl, hc, hnone, hcap, htop⟩ := bytes_of_row hr
  unfold maxLen at htop
  have HS := Lib.hid hS
  have HC : Hid (∀ W, Below w.heap.size w W → Cells W a l) := Lib.hid fun W hb => hc.below hb rfl
  have HL := Lib.hid hl
  have HNO := Lib.hid hnone
  have heq := fun x y z x' y' z' W => eq_stride x y z x' y' z' W
  clear hL hr hS hc hl hnone
  by_cases hbig : 500 < m
  · have hbig' : (500 : Int) < (m : Int) := by omega
    go_enter Tryd.func9, Tryd.ntmps9
    go_wp2_with (go_at_call 22; refine (alive09_any _).mono ?_; rintro e w' ⟨rfl, hb⟩)
    go_ret
    exact ⟨rfl, hb⟩
  have hsm : (m : Int) ≤ 500 := by omega
  have HSM : Hid (m ≤ 500) := Lib.hid (by omega)
  clear hbig htop hcap
  cases hz : szB n with
  | false =>
    have HZ := Lib.hid hz
    clear hz hn
    go_enter Tryd.func9, Tryd.ntmps9
    go_wp2_with (first | (go_at_call 22; refine (alive09_any _).mono ?_; rintro e w1 ⟨rfl, hb⟩; have HB1 := Lib.hid hb; clear hb) | (go_at_call 33; refine (sof_no adr _ _ _ _ _ (HS.out.below HB1.out) HZ.out).mono ?_; rintro e w2 ⟨rfl, hb⟩; dsimp only [sv]; have HB2 := Lib.hid (HB1.out.trans (hb.mono HB1.out.size)); clear hb) | (go_at_call 34; refine (refsized_any n _).mono ?_; rintro e w' ⟨rfl, rfl⟩; rw [HZ.out]) | (go_at_call 19; refine (num_sent adr 0 (by decide) _ (HS.out.below (HB2.out.alloc HB2.out.size _))).mono ?_; rintro e w4 ⟨rfl, hb⟩; have HB4 := Lib.hid ((HB2.out.alloc HB2.out.size (.cells #[.int .i64 0, .int .i64 0, .int .i64 0] 38)).trans (hb.mono (Nat.le_trans HB2.out.size (by simp)))); clear hb))
    go_ret
    exact ⟨rfl, HB4.out⟩
  | true =>
    obtain ⟨n', rfl, hP, h2, h251⟩ := sz_nat hz
    have HZ := Lib.hid hz
    have HN : Hid (2 ≤ n' ∧ n' ≤ 251) := Lib.hid ⟨h2, h251⟩
    have HR := Lib.hid (rt_of n' l hz h2)
    obtain ⟨O, hO⟩ : ∃ O, offs n' l = O := ⟨_, rfl⟩
    obtain ⟨K, hK⟩ : ∃ K, skp n' l = K := ⟨_, rfl⟩
    have HO := Lib.hid hO
    have HK := Lib.hid hK
    rw [hO, hK] at HR
    clear hz hn hP h2 h251 hO hK
    go_enter Tryd.func9, Tryd.ntmps9
    go_wp2_with (first | (go_at_call 22; refine (alive09_any _).mono ?_; rintro e w1 ⟨rfl, hb⟩; have HB1 := Lib.hid hb; clear hb) | (go_at_call 33; refine (sof_yes a m c l n' _ HL.out (by have := HSM.out; omega) (HC.out _ HB1.out) HZ.out HN.out.1 HN.out.2).mono ?_; rintro e w2 ⟨rfl, hb⟩; rw [HO.out, HK.out]; dsimp only [sv]; have HB2 := Lib.hid (HB1.out.trans (hb.mono HB1.out.size)); have HB3 := Lib.hid (HB2.out.alloc HB2.out.size (.cells #[.int .i64 (n' : Int), .int .i64 (O : Int), .int .i64 (K : Int)] 38)); have HX := Lib.hid (B3.new w2 n' O K 38); clear hb) | (go_at_call 34; refine (refsized_any _ _).mono ?_; rintro e w' ⟨rfl, rfl⟩; rw [HZ.out]) | (go_at_call 35; refine (refofs_any a m c l n' _ HL.out (by have := HSM.out; omega) HNO.out (HC.out _ HB3.out) HN.out.1 HN.out.2).mono ?_; rintro e w4 ⟨rfl, hb⟩; rw [HO.out, HK.out]; obtain ⟨c0, c1, c2⟩ := HX.out.below hb; have HB4 := Lib.hid (HB3.out.trans (hb.mono HB3.out.size)); clear hb) | (go_at_call 25; refine (right_any _ _ _ _).mono ?_; rintro e w5 ⟨rfl, hb⟩; rw [HR.out]; have HB5 := Lib.hid (HB4.out.trans (hb.mono HB4.out.size)); clear hb))
    go_ret
    exact ⟨rfl, HB5.out⟩
end Go.Proofs.YtifdbjombgcfcaaDoor.strideOf
