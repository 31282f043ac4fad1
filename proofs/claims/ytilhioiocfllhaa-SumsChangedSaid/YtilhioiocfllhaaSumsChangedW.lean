/- The walk of the law SumsChanged. -/
import Derived.Test.YtilhioiocfllhaaSumsChanged
import Derived.Test.YtilhioiocfllhaaReg
namespace Go.Proofs.Ytilhioiocfllhaa.sumsChanged
open Go.RowKit SumsMath
set_option linter.unusedVariables false

theorem _root_.Go.Proofs.Ytilhioiocfllhaa.Cells.sub {w : World} {ao : Option Addr} {l : List UInt8} {c : Nat} (h : Cells w ao l) (t n : Nat) (hl : l.length ≤ c) :  Cells w (if c = t then ao else Option.map (fun x => x.add t) ao) ((l.drop t).take n) := by
  by_cases hc : c = t
  · rw [List.drop_eq_nil_of_le (by omega)]; exact .inl (by simp)
  · rw [if_neg hc]
    rcases h with rfl | ⟨b, off, rfl, hx⟩
    · exact .inl (by simp)
    · refine .inr ⟨b, off + t, by simp [Addr.add], fun i hi => ?_⟩
      simp at hi
      have := hx (t + i) (by omega)
      rw [← Nat.add_assoc] at this
      rw [this]
      have hi2 : i < n := by omega
      have hi3 : t + i < l.length := by omega
      simp [List.getD, hi2, List.getElem?_eq_getElem hi3]

theorem _root_.Go.Proofs.Ytilhioiocfllhaa.Cells.left' {w : World} {ao : Option Addr} {l : List UInt8} (h : Cells w ao l) (t : Nat) : Cells w ao (l.take t) := by
  have : Cells w ao (l.take t ++ l.drop t) := by rw [List.take_append_drop]; exact h
  exact this.left

set_option maxRecDepth 100000 in
set_option maxHeartbeats 4000000 in
theorem walk (a0 : Option Addr) (len0 cap0 : Nat) (z0 : List Int) (a1 : Option Addr) (len1 cap1 : Nat) (z1 : List Int) (a2 : Int) (w : World) (w0 : IsRow .u8 w a0 len0 cap0 z0) (w1 : IsRow .u8 w a1 len1 cap1 z1) (w2 : (Lit.int .i64 a2).wf = true) :
    Calls Try.prog 5 #[.slice a0 len0 cap0, .slice a1 len1 cap1, .int .i64 a2] w fun e w' => e = .returned (.bool true) ∧ Below w.heap.size w w' := by
  obtain ⟨l, hn, hc, hnone, hlc, hcm⟩ := bytes_of_row w0
  obtain ⟨l', hn', hc', hnone', hlc', hcm'⟩ := bytes_of_row w1
  clear w0 w1 w2
  by_cases hlen : 500 < len0
  · go_enter Try.func5, Try.ntmps5
    go_wp2_with (go_at_call 7; refine (alive06_any _).mono ?_; rintro e w0 ⟨rfl, hb0⟩)
    go_ret
    exact ⟨rfl, hb0⟩
  by_cases hlen' : 500 < len1
  · go_enter Try.func5, Try.ntmps5
    go_wp2_with (go_at_call 7; refine (alive06_any _).mono ?_; rintro e w0 ⟨rfl, hb0⟩)
    go_ret
    exact ⟨rfl, hb0⟩
  have eL : IntKind.u64.wrap ((len0 : Int) + 1) = (len0 : Int) + 1 := by simp [IntKind.wrap, IntKind.bits, IntKind.signed]; omega
  obtain ⟨u, eU, hu0⟩ : ∃ u : Nat, IntKind.u64.wrap a2 = (u : Int) ∧ u < 18446744073709551616 := by
    have : IntKind.u64.wrap a2 = a2 % 18446744073709551616 := by simp [IntKind.wrap, IntKind.bits, IntKind.signed]
    exact ⟨(a2 % 18446744073709551616).toNat, by rw [this]; omega, by omega⟩
  clear hu0
  obtain ⟨r, hr⟩ : ∃ r : Nat, u % (len0 + 1) = r := ⟨_, rfl⟩
  have hrl : r < len0 + 1 := by rw [← hr]; exact Nat.mod_lt _ (by omega)
  have eR : ((u : Int)).tmod ((len0 : Int) + 1) = (r : Int) := by
    rw [Int.tmod_eq_emod_of_nonneg (by omega), ← hr]; simp
  clear hr
  obtain ⟨i, hi⟩ : ∃ i : Nat, r / 2 = i := ⟨_, rfl⟩
  have eI : ((r : Int)).tdiv 2 = (i : Int) := by
    rw [Int.tdiv_eq_ediv_of_nonneg (by omega), ← hi]; simp
  obtain ⟨t, ht⟩ : ∃ t : Nat, i * 2 = t := ⟨_, rfl⟩
  have eT : (i : Int) * 2 = (t : Int) := by omega
  have htl : t ≤ len0 := by omega
  obtain ⟨q, hq⟩ : ∃ q : Nat, len0 - t = q := ⟨_, rfl⟩
  have eQ : (len0 : Int) - (t : Int) = (q : Int) := by omega
  obtain ⟨m, hm⟩ : ∃ m : Nat, min len1 q = m := ⟨_, rfl⟩
  obtain ⟨j, hj⟩ : ∃ i : Nat, m / 2 = i := ⟨_, rfl⟩
  have eJ : ((m : Int)).tdiv 2 = (j : Int) := by
    rw [Int.tdiv_eq_ediv_of_nonneg (by omega), ← hj]; simp
  obtain ⟨n, hnn⟩ : ∃ t : Nat, j * 2 = t := ⟨_, rfl⟩
  have eN : (j : Int) * 2 = (n : Int) := by omega
  obtain ⟨s, hs⟩ : ∃ s : Nat, t + n = s := ⟨_, rfl⟩
  have eS : (t : Int) + (n : Int) = (s : Int) := by omega
  have hsl : s ≤ len0 := by omega
  have hnl : n ≤ len1 := by omega
  have x1 : (t : Int) ≤ (s : Int) := by omega
  have x2 : (s : Int) ≤ (len0 : Int) := by omega
  have x3 : (s : Int) ≤ (cap0 : Int) := by omega
  have x4 : (t : Int) ≤ (cap0 : Int) := by omega
  have x5 : (n : Int) ≤ (cap1 : Int) := by omega
  have x6 : s - t = n := by omega
  have eS2 : IntKind.i64.wrap (s : Int) = (s : Int) := by rw [IntKind.wrap_i64]; omega
  have eW : IntKind.i64.wrap (r : Int) = (r : Int) := by rw [IntKind.wrap_i64]; omega
  have HN := Lib.hid hn
  have HN' := Lib.hid hn'
  have HC := Lib.hid hcm
  have HC' := Lib.hid hcm'
  have HT := Lib.hid (show t + n = s ∧ i * 2 = t ∧ j * 2 = n from ⟨hs, ht, hnn⟩)
  have HL := Lib.hid (show len0 ≤ cap0 ∧ len1 ≤ cap1 ∧ t ≤ len0 ∧ s ≤ len0 ∧ n ≤ len1 from ⟨hlc, hlc', htl, hsl, hnl⟩)
  obtain ⟨A, eA⟩ : ∃ A, (if cap0 = t then a0 else Option.map (fun x => x.add t) a0) = A := ⟨_, rfl⟩
  obtain ⟨B, eB⟩ : ∃ B, (if cap0 = s then a0 else Option.map (fun x => x.add s) a0) = B := ⟨_, rfl⟩
  have HA : Hid (∀ W, Cells W a0 l → Cells W A ((l.drop t).take n)) := Lib.hid fun W h => by rw [← eA]; exact Cells.sub h t n (by omega)
  have HB : Hid (∀ W, Cells W a0 l → Cells W B (l.drop s)) := Lib.hid fun W h => by
    have := Cells.sub h s (l.drop s).length (c := cap0) (by omega)
    rw [List.take_length] at this
    rw [← eB]; exact this
  have HA0 : Hid (A = none → n = 0 ∧ cap0 - t = 0) := Lib.hid (by
    rw [← eA]
    intro h
    split at h
    · rename_i hc0; exact ⟨by omega, by omega⟩
    · cases a0 with
      | none => have := hnone rfl; omega
      | some x => simp at h)
  have HB0 : Hid (B = none → len0 - s = 0 ∧ cap0 - s = 0) := Lib.hid (by
    rw [← eB]
    intro h
    split at h
    · rename_i hc0; exact ⟨by omega, by omega⟩
    · cases a0 with
      | none => have := hnone rfl; omega
      | some x => simp at h)
  clear hn hn' hcm hcm'
  by_cases hif : q < len1
  · obtain rfl : m = q := by omega
    have hif' : (m : Int) < (len1 : Int) := by omega
    clear hs ht hnn hi hq hm hj hrl hlc hlc' htl hsl hnl
    go_enter Try.func5, Try.ntmps5
    go_wp2_with (go_at_call 7; refine (alive06_any _).mono ?_; rintro e w0 ⟨rfl, hb0⟩)
    have gB0 : w0.heap.size ≤ w0.heap.size := Nat.le_refl _
    have HB1 := Lib.hid ((Below.refl w0.heap.size w0).alloc (Nat.le_refl _) (.cells #[] 5)).drew
    have HW0 := Lib.hid (hc.below hb0 rfl)
    have HW0' := Lib.hid (hc'.below hb0 rfl)
    go_region_held3 (fun _ => True) (trivial) (first | ((refine step_append_u8 ?_ (.tmp 52) (.tmp 55) ?_ w0.heap.size (.slice (some ⟨w0.heap.size, 0, none⟩) 0 0) 0 [] ?_ ?_ a0 t cap0 (l.take t) ?_ ?_ ?_ ?_ ?_ ?_ ?_; rfl; rfl; rfl; exact (own_fresh _ _ (Nat.le_refl _)); rfl; (rw [List.length_take, HN.out]; have := HL.out; omega); (intro h; have := hnone h; have := HL.out; omega); exact ((HW0.out.below HB1.out rfl).left' t); (have := HL.out; omega); exact HB1.out.size; intro v2 w2 hown2 hg2; simp only [Nat.zero_add, List.nil_append] at hown2; have HO2 := Lib.hid hown2; clear hown2; have HB2 := Lib.hid (HB1.out.grown hg2 HB1.out.size (fun k h => by cases h; exact Nat.le_refl _)); clear hg2)) | ((refine step_append_u8 ?_ (.tmp 56) (.tmp 59) ?_ w0.heap.size v2 t (l.take t) ?_ ?_ a1 n cap1 (l'.take n) ?_ ?_ ?_ ?_ ?_ ?_ ?_; rfl; rfl; rfl; exact HO2.out; rfl; (rw [List.length_take, HN'.out]; have := HL.out; omega); (intro h; have := hnone' h; have := HL.out; omega); exact ((HW0'.out.below HB2.out rfl).left' n); (have := HL.out; omega); exact HB2.out.size; intro v3 w3 hown3 hg3; have HO3 := Lib.hid hown3; clear hown3; have HB3 := Lib.hid (HB2.out.grown hg3 HB2.out.size (fun k h => own_ge HO2.out k h)); clear hg3)) | ((refine step_append_u8 ?_ (.tmp 60) (.tmp 65) ?_ w0.heap.size v3 (t + n) (l.take t ++ l'.take n) ?_ ?_ B (len0 - s) (cap0 - s) (l.drop s) ?_ ?_ ?_ ?_ ?_ ?_ ?_; rfl; rfl; rfl; exact HO3.out; rfl; (rw [List.length_drop, HN.out]); (exact HB0.out); exact (HB.out _ (HW0.out.below HB3.out rfl)); (have := HL.out; omega); exact HB3.out.size; intro v4 w4 hown4 hg4; have HB4 := Lib.hid (HB3.out.grown hg4 HB3.out.size (fun k h => own_ge HO3.out k h)); clear hg4; obtain ⟨ao4, cap4, rfl, hc4, hl4, hnone4, hle4, hcm4⟩ := own_cells hown4; have HC4 := Lib.hid hc4; have HL4 := Lib.hid hl4; have HM4 := Lib.hid hcm4; clear hown4 hc4 hl4 hnone4 hcm4)))
    have HCM : Hid (cap0 ≤ 9223372036854775807) := Lib.hid (by have := HC.out; unfold maxLen at this; omega)
    have HCM' : Hid (cap1 ≤ 9223372036854775807) := Lib.hid (by have := HC'.out; unfold maxLen at this; omega)
    have HCM2 : Hid (cap0 - t ≤ 9223372036854775807) := Lib.hid (by have := HCM.out; omega)
    have HLA : Hid (((l.drop t).take n).length = n) := Lib.hid (by have := HL.out; have := HN.out; have := HT.out; simp; omega)
    have HLB : Hid ((l'.take n).length = n) := Lib.hid (by have := HL.out; have := HN'.out; simp; omega)
    have HCA : Hid (n ≤ cap0 - t) := Lib.hid (by have := HL.out; have := HT.out; omega)
    have HCB : Hid (n ≤ cap1) := Lib.hid (by have := HL.out; omega)
    have hn500 : n ≤ 500 := by have := HL.out; omega
    go_wp2_with fail
    go_region_held3 (fun _ => True) (trivial) (first | ((go_at_call 9; refine (check_cells a0 len0 cap0 l _ HN.out (by omega) HL.out.1 HCM.out (HW0.out.below (by first | exact HB4.out | exact HB4.out.drew | exact HB4.out.drew.drew) rfl)).mono ?_; rintro e w5 ⟨rfl, hb5⟩; have HC5 := Lib.hid (HC4.out.drew.below hb5 rfl); have HB5 := Lib.hid (HB4.out.drew.trans (hb5.mono HB4.out.size)); clear hb5)) | ((go_at_call 20; refine (changed_any (ck l) A a1 (cap0 - t) cap1 n ((l.drop t).take n) (l'.take n) _ HLA.out HLB.out (by omega) HCA.out HCB.out HCM2.out HCM'.out (HA.out _ (HW0.out.below (by first | exact HB5.out | exact HB5.out.drew | exact HB5.out.drew.drew) rfl)) ((HW0'.out.below (by first | exact HB5.out | exact HB5.out.drew | exact HB5.out.drew.drew) rfl).left' n)).mono ?_; rintro e w6 ⟨rfl, k6, rfl⟩; have HB6 := Lib.hid (HB5.out.trans (drewN_below _ _ k6)))))
    have HCM4 : Hid (cap4 ≤ 9223372036854775807) := Lib.hid (by have := HM4.out; unfold maxLen at this; omega)
    go_wp2_with fail
    go_region_held3 (fun _ => True) (trivial) (first | ((go_at_call 10; refine (refcheck_cells a0 len0 cap0 l _ HN.out (by omega) (HW0.out.below (by first | exact HB6.out | exact HB6.out.drew | exact HB6.out.drew.drew) rfl)).mono ?_; rintro e w' ⟨rfl, rfl⟩)) | ((go_at_call 21; refine (refchanged_any (ck l) A a1 (cap0 - t) cap1 n ((l.drop t).take n) (l'.take n) _ HLA.out HLB.out (by omega) (HA.out _ (HW0.out.below (by first | exact HB6.out | exact HB6.out.drew | exact HB6.out.drew.drew) rfl)) ((HW0'.out.below (by first | exact HB6.out | exact HB6.out.drew | exact HB6.out.drew.drew) rfl).left' n)).mono ?_; rintro e w7 ⟨rfl, k7, rfl⟩; have HB7 := Lib.hid (HB6.out.trans (drewN_below _ _ (1 + k7))))) | (go_at_call 9; refine (check_cells ao4 _ cap4 _ _ HL4.out (by omega) hle4 HCM4.out (HC5.out.drewN _)).mono ?_; rintro e w8 ⟨rfl, hb8⟩; have HB8 := Lib.hid ((HB5.out.trans (drewN_below _ _ _)).trans (hb8.mono HB5.out.size)); clear hb8) | (go_at_call 18; refine (same_any _ _ _).mono ?_; rintro e w' ⟨rfl, rfl⟩))
    go_wp2_with fail
    go_ret
    have hj : (n + 1) / 2 = j := by have := HT.out; omega
    have hsame := changed_same (l.take t) ((l.drop t).take n) (l.drop s) (l'.take n) i j (by have := HT.out; have := HL.out; have := HN.out; simp; omega) (by rw [HLA.out]; have := HT.out; omega) (by rw [HLB.out]; have := HT.out; omega)
    have hl1 : l.take t ++ ((l.drop t).take n ++ l.drop s) = l := by
      have : s = t + n := HT.out.1.symm
      rw [this, ← List.drop_drop, List.take_append_drop, List.take_append_drop]
    rw [hl1] at hsame
    rw [hj]
    exact ⟨ret_bool hsame, (hb0.trans ((HB8.out).mono hb0.size))⟩
  · obtain rfl : m = len1 := by omega
    have hif' : ¬ (q : Int) < (m : Int) := by omega
    clear hs ht hnn hi hq hm hj hrl hlc hlc' htl hsl hnl
    go_enter Try.func5, Try.ntmps5
    go_wp2_with (go_at_call 7; refine (alive06_any _).mono ?_; rintro e w0 ⟨rfl, hb0⟩)
    have gB0 : w0.heap.size ≤ w0.heap.size := Nat.le_refl _
    have HB1 := Lib.hid ((Below.refl w0.heap.size w0).alloc (Nat.le_refl _) (.cells #[] 5)).drew
    have HW0 := Lib.hid (hc.below hb0 rfl)
    have HW0' := Lib.hid (hc'.below hb0 rfl)
    go_region_held3 (fun _ => True) (trivial) (first | ((refine step_append_u8 ?_ (.tmp 52) (.tmp 55) ?_ w0.heap.size (.slice (some ⟨w0.heap.size, 0, none⟩) 0 0) 0 [] ?_ ?_ a0 t cap0 (l.take t) ?_ ?_ ?_ ?_ ?_ ?_ ?_; rfl; rfl; rfl; exact (own_fresh _ _ (Nat.le_refl _)); rfl; (rw [List.length_take, HN.out]; have := HL.out; omega); (intro h; have := hnone h; have := HL.out; omega); exact ((HW0.out.below HB1.out rfl).left' t); (have := HL.out; omega); exact HB1.out.size; intro v2 w2 hown2 hg2; simp only [Nat.zero_add, List.nil_append] at hown2; have HO2 := Lib.hid hown2; clear hown2; have HB2 := Lib.hid (HB1.out.grown hg2 HB1.out.size (fun k h => by cases h; exact Nat.le_refl _)); clear hg2)) | ((refine step_append_u8 ?_ (.tmp 56) (.tmp 59) ?_ w0.heap.size v2 t (l.take t) ?_ ?_ a1 n cap1 (l'.take n) ?_ ?_ ?_ ?_ ?_ ?_ ?_; rfl; rfl; rfl; exact HO2.out; rfl; (rw [List.length_take, HN'.out]; have := HL.out; omega); (intro h; have := hnone' h; have := HL.out; omega); exact ((HW0'.out.below HB2.out rfl).left' n); (have := HL.out; omega); exact HB2.out.size; intro v3 w3 hown3 hg3; have HO3 := Lib.hid hown3; clear hown3; have HB3 := Lib.hid (HB2.out.grown hg3 HB2.out.size (fun k h => own_ge HO2.out k h)); clear hg3)) | ((refine step_append_u8 ?_ (.tmp 60) (.tmp 65) ?_ w0.heap.size v3 (t + n) (l.take t ++ l'.take n) ?_ ?_ B (len0 - s) (cap0 - s) (l.drop s) ?_ ?_ ?_ ?_ ?_ ?_ ?_; rfl; rfl; rfl; exact HO3.out; rfl; (rw [List.length_drop, HN.out]); (exact HB0.out); exact (HB.out _ (HW0.out.below HB3.out rfl)); (have := HL.out; omega); exact HB3.out.size; intro v4 w4 hown4 hg4; have HB4 := Lib.hid (HB3.out.grown hg4 HB3.out.size (fun k h => own_ge HO3.out k h)); clear hg4; obtain ⟨ao4, cap4, rfl, hc4, hl4, hnone4, hle4, hcm4⟩ := own_cells hown4; have HC4 := Lib.hid hc4; have HL4 := Lib.hid hl4; have HM4 := Lib.hid hcm4; clear hown4 hc4 hl4 hnone4 hcm4)))
    have HCM : Hid (cap0 ≤ 9223372036854775807) := Lib.hid (by have := HC.out; unfold maxLen at this; omega)
    have HCM' : Hid (cap1 ≤ 9223372036854775807) := Lib.hid (by have := HC'.out; unfold maxLen at this; omega)
    have HCM2 : Hid (cap0 - t ≤ 9223372036854775807) := Lib.hid (by have := HCM.out; omega)
    have HLA : Hid (((l.drop t).take n).length = n) := Lib.hid (by have := HL.out; have := HN.out; have := HT.out; simp; omega)
    have HLB : Hid ((l'.take n).length = n) := Lib.hid (by have := HL.out; have := HN'.out; simp; omega)
    have HCA : Hid (n ≤ cap0 - t) := Lib.hid (by have := HL.out; have := HT.out; omega)
    have HCB : Hid (n ≤ cap1) := Lib.hid (by have := HL.out; omega)
    have hn500 : n ≤ 500 := by have := HL.out; omega
    go_wp2_with fail
    go_region_held3 (fun _ => True) (trivial) (first | ((go_at_call 9; refine (check_cells a0 len0 cap0 l _ HN.out (by omega) HL.out.1 HCM.out (HW0.out.below (by first | exact HB4.out | exact HB4.out.drew | exact HB4.out.drew.drew) rfl)).mono ?_; rintro e w5 ⟨rfl, hb5⟩; have HC5 := Lib.hid (HC4.out.drew.below hb5 rfl); have HB5 := Lib.hid (HB4.out.drew.trans (hb5.mono HB4.out.size)); clear hb5)) | ((go_at_call 20; refine (changed_any (ck l) A a1 (cap0 - t) cap1 n ((l.drop t).take n) (l'.take n) _ HLA.out HLB.out (by omega) HCA.out HCB.out HCM2.out HCM'.out (HA.out _ (HW0.out.below (by first | exact HB5.out | exact HB5.out.drew | exact HB5.out.drew.drew) rfl)) ((HW0'.out.below (by first | exact HB5.out | exact HB5.out.drew | exact HB5.out.drew.drew) rfl).left' n)).mono ?_; rintro e w6 ⟨rfl, k6, rfl⟩; have HB6 := Lib.hid (HB5.out.trans (drewN_below _ _ k6)))))
    have HCM4 : Hid (cap4 ≤ 9223372036854775807) := Lib.hid (by have := HM4.out; unfold maxLen at this; omega)
    go_wp2_with fail
    go_region_held3 (fun _ => True) (trivial) (first | ((go_at_call 10; refine (refcheck_cells a0 len0 cap0 l _ HN.out (by omega) (HW0.out.below (by first | exact HB6.out | exact HB6.out.drew | exact HB6.out.drew.drew) rfl)).mono ?_; rintro e w' ⟨rfl, rfl⟩)) | ((go_at_call 21; refine (refchanged_any (ck l) A a1 (cap0 - t) cap1 n ((l.drop t).take n) (l'.take n) _ HLA.out HLB.out (by omega) (HA.out _ (HW0.out.below (by first | exact HB6.out | exact HB6.out.drew | exact HB6.out.drew.drew) rfl)) ((HW0'.out.below (by first | exact HB6.out | exact HB6.out.drew | exact HB6.out.drew.drew) rfl).left' n)).mono ?_; rintro e w7 ⟨rfl, k7, rfl⟩; have HB7 := Lib.hid (HB6.out.trans (drewN_below _ _ (1 + k7))))) | (go_at_call 9; refine (check_cells ao4 _ cap4 _ _ HL4.out (by omega) hle4 HCM4.out (HC5.out.drewN _)).mono ?_; rintro e w8 ⟨rfl, hb8⟩; have HB8 := Lib.hid ((HB5.out.trans (drewN_below _ _ _)).trans (hb8.mono HB5.out.size)); clear hb8) | (go_at_call 18; refine (same_any _ _ _).mono ?_; rintro e w' ⟨rfl, rfl⟩))
    go_wp2_with fail
    go_ret
    have hj : (n + 1) / 2 = j := by have := HT.out; omega
    have hsame := changed_same (l.take t) ((l.drop t).take n) (l.drop s) (l'.take n) i j (by have := HT.out; have := HL.out; have := HN.out; simp; omega) (by rw [HLA.out]; have := HT.out; omega) (by rw [HLB.out]; have := HT.out; omega)
    have hl1 : l.take t ++ ((l.drop t).take n ++ l.drop s) = l := by
      have : s = t + n := HT.out.1.symm
      rw [this, ← List.drop_drop, List.take_append_drop, List.take_append_drop]
    rw [hl1] at hsame
    rw [hj]
    exact ⟨ret_bool hsame, (hb0.trans ((HB8.out).mono hb0.size))⟩
end Go.Proofs.Ytilhioiocfllhaa.sumsChanged
