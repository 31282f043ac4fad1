/- The walk of the law HeadParses. -/
import Derived.Test.YtilhioiocfllhaaDoorHeadLaw
import Derived.Test.YtilhioiocfllhaaDoorNum
namespace Go.Proofs.YtilhioiocfllhaaDoor.headParses
open Go.RowKit HeadMath SumsMath
set_option linter.unusedVariables false

set_option maxRecDepth 100000 in
theorem sents {w : World} (hL : laidMetH Tryd.prog Rows.headParsesRow.laid w) : ∃ adr, Sents w adr := by
  refine sents_of_laid hL (by kernel_rfl) (fun k => [0, 1, 2, 3, 4, 5, 6, 7, 8, 9, 10, 11, 12, 13, 14, 15, 16, 17].getD k 0) ?_ ?_
  · intro i j hi hj h
    have : ∀ i : Fin 18, ∀ j : Fin 18, [0, 1, 2, 3, 4, 5, 6, 7, 8, 9, 10, 11, 12, 13, 14, 15, 16, 17].getD i.1 0 = [0, 1, 2, 3, 4, 5, 6, 7, 8, 9, 10, 11, 12, 13, 14, 15, 16, 17].getD j.1 0 → i.1 = j.1 := by decide
    exact this ⟨i, hi⟩ ⟨j, hj⟩ h
  · intro k hk
    match k, hk with
    | 0, _ => exact ⟨_, _, 0, rfl, by kernel_rfl, by kernel_rfl, rfl⟩
    | 1, _ => exact ⟨_, _, 1, rfl, by kernel_rfl, by kernel_rfl, rfl⟩
    | 2, _ => exact ⟨_, _, 2, rfl, by kernel_rfl, by kernel_rfl, rfl⟩
    | 3, _ => exact ⟨_, _, 3, rfl, by kernel_rfl, by kernel_rfl, rfl⟩
    | 4, _ => exact ⟨_, _, 4, rfl, by kernel_rfl, by kernel_rfl, rfl⟩
    | 5, _ => exact ⟨_, _, 5, rfl, by kernel_rfl, by kernel_rfl, rfl⟩
    | 6, _ => exact ⟨_, _, 6, rfl, by kernel_rfl, by kernel_rfl, rfl⟩
    | 7, _ => exact ⟨_, _, 7, rfl, by kernel_rfl, by kernel_rfl, rfl⟩
    | 8, _ => exact ⟨_, _, 8, rfl, by kernel_rfl, by kernel_rfl, rfl⟩
    | 9, _ => exact ⟨_, _, 9, rfl, by kernel_rfl, by kernel_rfl, rfl⟩
    | 10, _ => exact ⟨_, _, 10, rfl, by kernel_rfl, by kernel_rfl, rfl⟩
    | 11, _ => exact ⟨_, _, 11, rfl, by kernel_rfl, by kernel_rfl, rfl⟩
    | 12, _ => exact ⟨_, _, 12, rfl, by kernel_rfl, by kernel_rfl, rfl⟩
    | 13, _ => exact ⟨_, _, 13, rfl, by kernel_rfl, by kernel_rfl, rfl⟩
    | 14, _ => exact ⟨_, _, 14, rfl, by kernel_rfl, by kernel_rfl, rfl⟩
    | 15, _ => exact ⟨_, _, 15, rfl, by kernel_rfl, by kernel_rfl, rfl⟩
    | 16, _ => exact ⟨_, _, 16, rfl, by kernel_rfl, by kernel_rfl, rfl⟩
    | 17, _ => exact ⟨_, _, 17, rfl, by kernel_rfl, by kernel_rfl, rfl⟩
    | n + 18, h => exact absurd h (by omega)
/-- Heads compared, as one word. -/
def eqH (x y : Value) : Sem Value := binOp .eql 53 x y
theorem eqH_eq (x y : Value) : binOp .eql 53 x y = eqH x y := rfl
attribute [local go_sem ↓] ldH_eq stH_eq ldR_eq stR_eq eqH_eq

set_option maxRecDepth 100000 in
set_option maxHeartbeats 8000000 in
theorem walk (a : Option Addr) (n c : Nat) (zs : List Int) (w : World) (hr : IsRow .u8 w a n c zs) (hL : laidMetH Tryd.prog Rows.headParsesRow.laid w) :
    Calls Tryd.prog 5 #[.slice a n c] w fun e w' => e = .returned (.bool true) ∧ Below w.heap.size w w' := by
  obtain ⟨adr, hS⟩ := sents hL
  obtain ⟨l, hn, hc, hnone, hcap, htop⟩ := bytes_of_row hr
  unfold maxLen at htop
  have HS := Lib.hid hS
  have HC := Lib.hid hc
  have HN := Lib.hid hn
  clear hL hr hS hc hn
  by_cases hbig : 600 < n
  · have hbig' : (600 : Int) < (n : Int) := by omega
    go_enter Tryd.func5, Tryd.ntmps5
    go_wp2_with (go_at_call 24; refine (alive28_any adr _ HS.out).mono ?_; rintro e w' ⟨rfl, hb⟩)
    go_ret
    exact ⟨rfl, hb⟩
  have hsm : (n : Int) ≤ 600 := by omega
  have HSM : Hid (n ≤ 600) := Lib.hid (by omega)
  have HNO := Lib.hid hnone
  have HCP := Lib.hid hcap
  have HTP : Hid (c ≤ 9223372036854775807) := Lib.hid (by omega)
  clear hbig hnone hcap htop
  obtain ⟨A, hA⟩ : ∃ A, (parse l).2.cells.toArray = A := ⟨_, rfl⟩
  obtain ⟨k, hk⟩ : ∃ k, (parse l).1 = k := ⟨_, rfl⟩
  have HP : Hid (∀ ao n c w, l.length = n → n ≤ c → c ≤ 9223372036854775807 → Sents w adr → Cells w ao l → Calls Tryd.prog 26 #[.slice ao n c] w fun e w' => ∃ ev, e = .returned (.tuple #[.agg A, ev]) ∧ Below w.heap.size w w' ∧ ErrIs adr k ev) := Lib.hid fun ao n c w h1 h2 h3 h4 h5 => by
    have := parse_told adr ao n c l w h1 h2 h3 h4 h5
    unfold Told at this
    rw [hA, hk] at this
    exact this
  have HRP : Hid (∀ ao n c w, l.length = n → n ≤ c → c ≤ 9223372036854775807 → n ≤ 1000000 → Cells w ao l → Calls Tryd.prog 27 #[.slice ao n c] w fun e w' => Below w.heap.size w w' ∧ e = .returned (.tuple #[.agg A, .int .i64 (k : Int)])) := Lib.hid fun ao n c w h1 h2 h3 h4 h5 => by
    have := refparse_any ao n c l w h1 h2 h3 h4 h5
    unfold RefPost at this
    rw [hA, hk] at this
    exact this
  have HEQ : Hid (∀ w, Sem.run Tryd.prog (eqH (.agg A) (.agg A)) w = .ok (.bool true) w) := Lib.hid fun w => by
    have := eq_head (parse l).2 (parse_facts l).2.2 w
    rw [hA] at this
    exact this
  have HAS : Hid (A.size = 40) := Lib.hid (by rw [← hA]; simpa using HV.cells_length (parse_facts l).2.2)
  have HAL : Hid (A.toList.length = 40) := Lib.hid (by simpa using HAS.out)
  have HON : Hid (A.all (·.oneCell') = true) := Lib.hid (by rw [← hA]; exact HV.one _)
  have heqH := HEQ.out
  have hgd : ∀ w x y, Sem.run Tryd.prog (eqGuard .eql 53 x y (.agg A) (.agg A)) w = .ok () w := fun w x y => run_eqGuard_agg w _ _ _ _ _ _ (by kernel_rfl)
  clear hk hA
  go_enter Tryd.func5, Tryd.ntmps5
  go_wp2_with (first | (go_at_call 24; refine (alive28_any adr _ HS.out).mono ?_; rintro e w1 ⟨rfl, hb1⟩; have HB1 := Lib.hid hb1; clear hb1) | (go_at_call 25; refine (numBytes_any a n c l _ HN.out (by have := HSM.out; omega) HNO.out (HC.out.below HB1.out rfl)).mono ?_; rintro e w2 ⟨b, rfl, hbb, hb2, hm2⟩; have HM2 := Lib.hid hm2; have HB2 := Lib.hid (HB1.out.trans (hb2.mono HB1.out.size)); clear hm2 hb2 hbb) | (go_at_call 26; (with_reducible refine (HP.out _ _ _ _ HN.out (by omega) (by omega) (HS.out.below HB2.out) HM2.out.left).mono ?_); rintro e W3 ⟨ev, rfl, hb3, herr⟩; have HB3 := Lib.hid (HB2.out.trans (hb3.mono HB2.out.size)); have HM3 := Lib.hid (HM2.out.below hb3 rfl); have HER := Lib.hid herr; have hst3 := stH_new W3 A HAS.out HON.out; obtain ⟨W4, hW4⟩ : ∃ W, W3.alloc (.cells A 50) = W := ⟨_, rfl⟩; rw [hW4] at hst3; have HB4 := Lib.hid (show Below w.heap.size w W4 from by rw [← hW4]; exact HB3.out.alloc HB3.out.size _); have HR4 := Lib.hid (show W4.rangeAt W3.heap.size 0 A.toList from by rw [← hW4]; exact range_new W3 A _); have HM4 := Lib.hid (show Cells W4 (some ⟨b, 0, none⟩) (l ++ marks) from by rw [← hW4]; exact HM3.out.below ((Below.refl _ _).alloc (Nat.le_refl _) _) rfl); have HS4 : Hid (W3.heap.size < W4.heap.size) := Lib.hid (by rw [← hW4]; simp); clear hb3 herr hW4) | (go_at_call 27; (with_reducible refine (HRP.out _ _ _ _ HN.out HCP.out HTP.out (by have := HSM.out; omega) (HC.out.below HB4.out rfl)).mono ?_); rintro e W5 ⟨hb5, rfl⟩; have HB5 := Lib.hid (HB4.out.trans (hb5.mono HB4.out.size)); have HR5 := Lib.hid (rangeAt_below HR4.out hb5 HS4.out); have HM5 := Lib.hid (HM4.out.below hb5 rfl); have HS5 : Hid (W3.heap.size < W5.heap.size) := Lib.hid (Nat.lt_of_lt_of_le HS4.out hb5.size); have hst5 := stR_new W5 A HAS.out HON.out; obtain ⟨W6, hW6⟩ : ∃ W, W5.alloc (.cells A 53) = W := ⟨_, rfl⟩; rw [hW6] at hst5; have HB6 := Lib.hid (show Below w.heap.size w W6 from by rw [← hW6]; exact HB5.out.alloc HB5.out.size _); have HR6 := Lib.hid (show W6.rangeAt W3.heap.size 0 A.toList from by rw [← hW6]; exact rangeAt_below HR5.out ((Below.refl _ _).alloc (Nat.le_refl _) _) HS5.out); have HQ6 := Lib.hid (show W6.rangeAt W5.heap.size 0 A.toList from by rw [← hW6]; exact range_new W5 A _); have HM6 := Lib.hid (show Cells W6 (some ⟨b, 0, none⟩) (l ++ marks) from by rw [← hW6]; exact HM5.out.below ((Below.refl _ _).alloc (Nat.le_refl _) _) rfl); have HS6 : Hid (W5.heap.size < W6.heap.size) := Lib.hid (by rw [← hW6]; simp); clear hb5 hW6) | (go_at_call 14; (with_reducible refine (num_told adr k ev _ HER.out (HS.out.below HB6.out)).mono ?_); rintro e W7 ⟨rfl, hb7⟩; have HB7 := Lib.hid (HB6.out.trans (hb7.mono HB6.out.size)); have hld7 := ldH_arr (rangeAt_below HR6.out hb7 (Nat.lt_trans HS5.out HS6.out)) HAS.out; have hld8 := ldR_arr (rangeAt_below HQ6.out hb7 HS6.out) HAS.out; have HM7 := Lib.hid (HM6.out.below hb7 rfl); clear hb7) | (go_at_call 28; (with_reducible refine (kept_any b n c a l _ HN.out (by have := HSM.out; omega) HNO.out (HC.out.below HB7.out rfl) HM7.out).mono ?_); rintro e w8 ⟨rfl, k8, rfl⟩))
  go_ret
  exact ⟨rfl, HB7.out.trans (drewN_below _ _ _)⟩
end Go.Proofs.YtilhioiocfllhaaDoor.headParses
