/- The walk of the law FrameCuts. -/
import Derived.Test.YtpidkpjhhabefaaDoorFrameAlive
import Derived.Test.YtpidkpjhhabefaaDoorLaid
import Derived.Test.YtpidkpjhhabefaaDoorNum
namespace Go.Proofs.YtpidkpjhhabefaaDoor.frameCuts
open Go.RowKit FrameMath
set_option linter.unusedVariables false

set_option maxRecDepth 100000 in
theorem sents {w : World} (hL : laidMetH Tryd.prog Rows.frameCutsRow.laid w) : ∃ adr, Sents w adr := by
  refine sents_of_laid hL (by kernel_rfl) (fun k => [0, 1, 2, 3, 4, 5, 6, 7, 8, 9, 10, 11, 12, 13, 14, 15, 16, 17].getD k 0) ?_ ?_
  · intro i j hi hj h
    have : ∀ i : Fin 18, ∀ j : Fin 18, [0, 1, 2, 3, 4, 5, 6, 7, 8, 9, 10, 11, 12, 13, 14, 15, 16, 17].getD i.1 0 = [0, 1, 2, 3, 4, 5, 6, 7, 8, 9, 10, 11, 12, 13, 14, 15, 16, 17].getD j.1 0 → i.1 = j.1 := by decide
    exact this ⟨i, hi⟩ ⟨j, hj⟩ h
  · intro k hk
    match k, hk with
    | 0, _ => exact ⟨_, _, 1, rfl, by kernel_rfl, by kernel_rfl, rfl⟩
    | 1, _ => exact ⟨_, _, 2, rfl, by kernel_rfl, by kernel_rfl, rfl⟩
    | 2, _ => exact ⟨_, _, 3, rfl, by kernel_rfl, by kernel_rfl, rfl⟩
    | 3, _ => exact ⟨_, _, 0, rfl, by kernel_rfl, by kernel_rfl, rfl⟩
    | 4, _ => exact ⟨_, _, 4, rfl, by kernel_rfl, by kernel_rfl, rfl⟩
    | 5, _ => exact ⟨_, _, 5, rfl, by kernel_rfl, by kernel_rfl, rfl⟩
    | 6, _ => exact ⟨_, _, 6, rfl, by kernel_rfl, by kernel_rfl, rfl⟩
    | 7, _ => exact ⟨_, _, 7, rfl, by kernel_rfl, by kernel_rfl, rfl⟩
    | 8, _ => exact ⟨_, _, 8, rfl, by kernel_rfl, by kernel_rfl, rfl⟩
    | 9, _ => exact ⟨_, _, 9, rfl, by kernel_rfl, by kernel_rfl, rfl⟩
    | 10, _ => exact ⟨_, _, 10, rfl, by kernel_rfl, by kernel_rfl, rfl⟩
    | 11, _ => exact ⟨_, _, 11, rfl, by kernel_rfl, by kernel_rfl, rfl⟩
    | 12, _ => exact ⟨_, _, 12, rfl, by kernel_rfl, by kernel_rfl, rfl⟩
    | 13, _ => exact ⟨_, _, 13, rfl, by kernel_rfl, by kernel_rfl, rfl⟩
    | 14, _ => exact ⟨_, _, 14, rfl, by kernel_rfl, by kernel_rfl, rfl⟩
    | 15, _ => exact ⟨_, _, 15, rfl, by kernel_rfl, by kernel_rfl, rfl⟩
    | 16, _ => exact ⟨_, _, 16, rfl, by kernel_rfl, by kernel_rfl, rfl⟩
    | 17, _ => exact ⟨_, _, 17, rfl, by kernel_rfl, by kernel_rfl, rfl⟩
    | n + 18, h => exact absurd h (by omega)
/-- What of a cut is told. -/
theorem cut_told (adr : Nat → Addr) (b n c : Nat) (l : List UInt8) (fr : List (UInt8 × List UInt8)) (k : Nat) (bad : Bool) (hcut : cut [] l = (fr, k, bad)) (w : World) (hS : Sents w adr) (hn : l.length = n) (hcap : n ≤ c) (htop : c ≤ 9223372036854775807) (hsz : n ≤ 1000000) (hc : Cells w (some ⟨b, 0, none⟩) l) :
    Calls Tryd.prog 8 #[.slice (some ⟨b, 0, none⟩) n c] w fun e w' => ∃ v fs, e = .returned (.tuple #[v, .int .i64 (k : Int), if bad = true then errV adr 3 else .nilIface]) ∧ Below w.heap.size w w' ∧ Frames w' w.heap.size 46 v fs ∧ cont fs = fr :=
  (cut_any adr _ _ _ l w hS (CutAt.start hn hcap htop hsz hc)).mono fun e w' ⟨v, fs, he, h1, h2, h3⟩ => ⟨v, fs, by rw [he, hcut], h1, h2, by rw [h3, hcut]⟩
theorem ref_told (ao : Option Addr) (n c : Nat) (l : List UInt8) (fr : List (UInt8 × List UInt8)) (k : Nat) (bad : Bool) (hcut : cut [] l = (fr, k, bad)) (w : World) (hn : l.length = n) (hcap : n ≤ c) (htop : c ≤ 9223372036854775807) (hsz : n ≤ 1000000) (hc : Cells w ao l) :
    Calls Tryd.prog 9 #[.slice ao n c] w fun e w' => ∃ v fs, e = .returned (.tuple #[v, .int .i64 (k : Int), .bool bad]) ∧ Below w.heap.size w w' ∧ Frames w' w.heap.size 52 v fs ∧ cont fs = fr :=
  (refcut_any _ _ _ l w hn hcap htop hsz hc).mono fun e w' ⟨v, fs, he, h1, h2, h3⟩ => ⟨v, fs, by rw [he, hcut], h1, h2, by rw [h3, hcut]⟩
set_option maxRecDepth 100000 in
set_option maxHeartbeats 4000000 in
theorem walk (a : Option Addr) (n c : Nat) (zs : List Int) (w : World) (hr : IsRow .u8 w a n c zs) (hL : laidMetH Tryd.prog Rows.frameCutsRow.laid w) :
    Calls Tryd.prog 3 #[.slice a n c] w fun e w' => e = .returned (.bool true) ∧ Below w.heap.size w w' := by
  obtain ⟨adr, hS⟩ := sents hL
  obtain ⟨l, hn, hc, hnone, hcap, htop⟩ := bytes_of_row hr
  unfold maxLen at htop
  have HS := Lib.hid hS
  have HC := Lib.hid hc
  have HN := Lib.hid hn
  clear hL hr hS hc hn
  by_cases hbig : 4000 < n
  · have hbig' : (4000 : Int) < (n : Int) := by omega
    go_enter Tryd.func3, Tryd.ntmps3
    go_wp2_with (go_at_call 6; refine (alive12_any adr _ HS.out).mono ?_; rintro e w' ⟨rfl, hb⟩)
    go_ret
    exact ⟨rfl, hb⟩
  have hsm : (n : Int) ≤ 4000 := by omega
  obtain ⟨⟨fr, k, bad⟩, hcut⟩ : ∃ x, cut [] l = x := ⟨_, rfl⟩
  have HCUT := Lib.hid hcut
  have HSM : Hid (n ≤ 4000) := Lib.hid (by omega)
  have HNO := Lib.hid hnone
  have HCP := Lib.hid hcap
  have HTP : Hid (c ≤ 9223372036854775807) := Lib.hid (by omega)
  clear hbig hcut hnone hcap htop
  have HFR : Hid (fr.length ≤ 1000000) := Lib.hid (by
    have := cut_len _ [] l (Nat.le_refl _)
    rw [HCUT.out] at this
    have h2 := HN.out
    have h3 := HSM.out
    simp at this
    omega)
  cases bad
  · go_enter Tryd.func3, Tryd.ntmps3
    go_wp2_with (first | (go_at_call 6; refine (alive12_any adr _ HS.out).mono ?_; rintro e w1 ⟨rfl, hb1⟩; have HB1 := Lib.hid hb1; clear hb1) | (go_at_call 7; refine (numBytes_any a n c l _ HN.out (by have := HSM.out; omega) HNO.out (HC.out.below HB1.out rfl)).mono ?_; rintro e w2 ⟨b, rfl, hbb, hb2, hm2⟩; have HM2 := Lib.hid hm2; have HB2 := Lib.hid (HB1.out.trans (hb2.mono HB1.out.size)); clear hm2 hb2 hbb) | (go_at_call 8; refine (cut_told adr b n (n + 6) l fr k _ HCUT.out _ (HS.out.below HB2.out) HN.out (by omega) (by have := HSM.out; omega) (by have := HSM.out; omega) HM2.out.left).mono ?_; rintro e w3 ⟨v, fs, rfl, hb3, hF, hcf⟩; have HM3 := Lib.hid (HM2.out.below hb3 rfl); have HF3 := Lib.hid hF; have HCF := Lib.hid hcf; have HB3 := Lib.hid (HB2.out.trans (hb3.mono HB2.out.size)); clear hb3 hF hcf) | (go_at_call 9; refine (ref_told a n c l fr k _ HCUT.out _ HN.out HCP.out HTP.out (by have := HSM.out; omega) (HC.out.below HB3.out rfl)).mono ?_; rintro e w4 ⟨vr, fsr, rfl, hb4, hFr, hcfr⟩; have HM4 := Lib.hid (HM3.out.below hb4 rfl); have HF4 := Lib.hid (HF3.out.below hb4); have HR4 := Lib.hid hFr; have HCR := Lib.hid hcfr; have HB4 := Lib.hid (HB3.out.trans (hb4.mono HB3.out.size)); clear hb4 hFr hcfr) | (go_at_call 11; refine (of_any _ v fs _ HF4.out (by have := HFR.out; rw [← HCF.out] at this; simp [cont] at this; exact this)).mono ?_; rintro e w5 ⟨vo, rfl, hb5, hFo⟩; have HM5 := Lib.hid (HM4.out.below hb5 rfl); have HFO := Lib.hid hFo; have HR5 := Lib.hid (HR4.out.below hb5); have HB5 := Lib.hid (HB4.out.trans (hb5.mono HB4.out.size)); clear hb5 hFo) | (go_at_call 10; refine (same_any _ _ vo vr fs fsr _ HFO.out HR5.out (by rw [HCF.out, HCR.out]) (by have := HFR.out; rw [← HCF.out] at this; simp [cont] at this; exact this)).mono ?_; rintro e w6 ⟨rfl, j6, rfl⟩; have HM6 := Lib.hid (HM5.out.drewN j6); have HB6 := Lib.hid (HB5.out.trans (drewN_below _ _ j6))) | (go_at_call 12; refine (num_nil _).mono ?_; rintro e w7 ⟨rfl, rfl⟩; have HM7 := HM6; have HB7 := HB6) | (go_at_call 13; refine (kept_any b n c a l _ HN.out (by have := HSM.out; omega) HNO.out (HC.out.below HB7.out rfl) HM7.out).mono ?_; rintro e w8 ⟨rfl, j8, rfl⟩))
    go_ret
    exact ⟨rfl, HB5.out.trans (drewN_below _ _ _)⟩
  · go_enter Tryd.func3, Tryd.ntmps3
    go_wp2_with (first | (go_at_call 6; refine (alive12_any adr _ HS.out).mono ?_; rintro e w1 ⟨rfl, hb1⟩; have HB1 := Lib.hid hb1; clear hb1) | (go_at_call 7; refine (numBytes_any a n c l _ HN.out (by have := HSM.out; omega) HNO.out (HC.out.below HB1.out rfl)).mono ?_; rintro e w2 ⟨b, rfl, hbb, hb2, hm2⟩; have HM2 := Lib.hid hm2; have HB2 := Lib.hid (HB1.out.trans (hb2.mono HB1.out.size)); clear hm2 hb2 hbb) | (go_at_call 8; refine (cut_told adr b n (n + 6) l fr k _ HCUT.out _ (HS.out.below HB2.out) HN.out (by omega) (by have := HSM.out; omega) (by have := HSM.out; omega) HM2.out.left).mono ?_; rintro e w3 ⟨v, fs, rfl, hb3, hF, hcf⟩; have HM3 := Lib.hid (HM2.out.below hb3 rfl); have HF3 := Lib.hid hF; have HCF := Lib.hid hcf; have HB3 := Lib.hid (HB2.out.trans (hb3.mono HB2.out.size)); clear hb3 hF hcf) | (go_at_call 9; refine (ref_told a n c l fr k _ HCUT.out _ HN.out HCP.out HTP.out (by have := HSM.out; omega) (HC.out.below HB3.out rfl)).mono ?_; rintro e w4 ⟨vr, fsr, rfl, hb4, hFr, hcfr⟩; have HM4 := Lib.hid (HM3.out.below hb4 rfl); have HF4 := Lib.hid (HF3.out.below hb4); have HR4 := Lib.hid hFr; have HCR := Lib.hid hcfr; have HB4 := Lib.hid (HB3.out.trans (hb4.mono HB3.out.size)); clear hb4 hFr hcfr) | (go_at_call 11; refine (of_any _ v fs _ HF4.out (by have := HFR.out; rw [← HCF.out] at this; simp [cont] at this; exact this)).mono ?_; rintro e w5 ⟨vo, rfl, hb5, hFo⟩; have HM5 := Lib.hid (HM4.out.below hb5 rfl); have HFO := Lib.hid hFo; have HR5 := Lib.hid (HR4.out.below hb5); have HB5 := Lib.hid (HB4.out.trans (hb5.mono HB4.out.size)); clear hb5 hFo) | (go_at_call 10; refine (same_any _ _ vo vr fs fsr _ HFO.out HR5.out (by rw [HCF.out, HCR.out]) (by have := HFR.out; rw [← HCF.out] at this; simp [cont] at this; exact this)).mono ?_; rintro e w6 ⟨rfl, j6, rfl⟩; have HM6 := Lib.hid (HM5.out.drewN j6); have HB6 := Lib.hid (HB5.out.trans (drewN_below _ _ j6))) | (go_at_call 12; refine (num_sent adr 3 (by decide) _ (HS.out.below HB6.out)).mono ?_; rintro e w7 ⟨rfl, hb7⟩; have HM7 := Lib.hid (HM6.out.below hb7 rfl); have HB7 := Lib.hid (HB6.out.trans (hb7.mono HB6.out.size)); clear hb7) | (go_at_call 13; refine (kept_any b n c a l _ HN.out (by have := HSM.out; omega) HNO.out (HC.out.below HB7.out rfl) HM7.out).mono ?_; rintro e w8 ⟨rfl, j8, rfl⟩))
    go_ret
    exact ⟨rfl, HB7.out.trans (drewN_below _ _ _)⟩
end Go.Proofs.YtpidkpjhhabefaaDoor.frameCuts
