/- The walk of the law StrideOnce. -/
import Derived.Test.YtifdbjombgcfcaaDoorStOfs
import Derived.Test.YtifdbjombgcfcaaDoorLaid
import Derived.Maps.OwnSet
import Derived.Maps.Views
import Derived.Carry
import Derived.Maps.OwnOps
namespace Go.Proofs.YtifdbjombgcfcaaDoor.strideOnce
open Go.RowKit StMath PrimeMath HashMath
set_option linter.unusedVariables false

set_option maxRecDepth 100000 in
theorem err0 {w : World} (hL : laidMetH Tryd.prog Rows.strideOnceRow.laid w) : ∃ a, w.cell? ⟨0, 0, none⟩ = some (.iface 83 (.pointer (some a))) := by
  refine laid_cell hL (by kernel_rfl) 0 0 ?_
  exact ⟨_, _, rfl, by kernel_rfl, by kernel_rfl⟩
theorem sz_nat {n : Int} (h : szB n = true) : ∃ n' : Nat, n = (n' : Int) ∧ isP n' = true ∧ 2 ≤ n' ∧ n' ≤ 251 := by
  simp only [szB, Bool.and_eq_true, decide_eq_true_eq] at h
  have hn : 0 ≤ n := by
    apply Int.le_of_not_gt
    intro hlt
    have := pI_low n (by omega)
    rw [this] at h
    cases h.2
  obtain ⟨n', rfl⟩ := Int.eq_ofNat_of_zero_le hn
  have h2 := h.2
  rw [pI_nat n' (by omega)] at h2
  exact ⟨n', rfl, h2, ((isP_iff n').1 h2).1, by omega⟩
theorem rt_of (n : Nat) (l : List UInt8) (h : szB n = true) (h2 : 2 ≤ n) : rtB n (offs n l) (skp n l) = true := by
  have h3 : offs n l < n := Nat.mod_lt _ (by omega)
  have h4 : skp n l < n := by
    unfold skp
    have := Nat.mod_lt (hs 2#64 l).toNat (show 0 < n - 1 by omega)
    omega
  have h5 : 1 ≤ skp n l := by unfold skp; omega
  simp only [rtB, h, Bool.true_and, Bool.and_eq_true, decide_eq_true_eq]
  exact ⟨by omega, by omega, by omega, by omega⟩
/-- The set of the places that came, as the memory holds it. -/
abbrev Seen (w : World) (b j : Nat) (D : DataW Unit) : Prop := w.ownsMap Tryd.prog 3 (plainElem Tryd.prog 4) b j D
theorem seen_below {w w' : World} {b j : Nat} {D : DataW Unit} (h : Seen w b j D) (hb : Below w.heap.size w w') : Seen w' b j D := by
  have hlt := h.lt
  obtain ⟨es, clock, hh, r⟩ := h
  exact ⟨es, clock, (hb.block b hlt).trans hh, r⟩
theorem zero_bool (w : World) : (zeroValue 4).run Tryd.prog w = .ok (.bool false) w := by kernel_rfl
set_option maxRecDepth 100000 in
/-- A place that has not come is not there. -/
theorem seen_not {w : World} {b j : Nat} {D : DataW Unit} (h : Seen w b j D) (x : Int) (hx : (Lit.int .i64 x).wf = true) (hn : Maps.has D (.int .i64 x) = false) :
    (Instr.lookup 50 (.map (some b)) (.int .i64 x) false).run Tryd.prog w = .ok (.bool false) w := by
  obtain ⟨v, ps, hr, hv⟩ := h.lookup (Maps.int_keyed Tryd.underlying3) Tryd.underlying50 (zero_bool w) (plainElem_bool Tryd.underlying4 false) (Maps.keyOf_int_mk Tryd.underlying3 hx)
  rw [Maps.atKey_of_not_has hn] at hv
  rw [hr]
  unfold plainElem at hv
  rw [Tryd.underlying4] at hv
  cases v <;> simp at hv
  rw [hv.1]
/-- What is known of the set when j places have come. -/
structure Came (n o k j : Nat) (D : DataW Unit) : Prop where
  size : Maps.size D = j
  only : ∀ x : Int, Maps.has D (.int .i64 x) = true → ∃ i, i < j ∧ x = ((pos n o k i : Nat) : Int)
theorem pos_inj (n o k i j : Nat) (hP : isP n = true) (ho : o < n) (hk1 : 1 ≤ k) (hk : k < n) (hi : i < n) (hj : j < n) (h : pos n o k i = pos n o k j) : i = j := by
  have hy := inv_one n k hP hk1 hk
  have h1 := whn_pos n o k (inv n k) i (by omega) ho hi hy
  have h2 := whn_pos n o k (inv n k) j (by omega) ho hj hy
  rw [h] at h1
  omega
theorem Came.fresh {n o k j : Nat} {D : DataW Unit} (h : Came n o k j D) (hP : isP n = true) (ho : o < n) (hk1 : 1 ≤ k) (hk : k < n) (hj : j < n) : Maps.has D (.int .i64 ((pos n o k j : Nat) : Int)) = false := by
  cases he : Maps.has D (.int .i64 ((pos n o k j : Nat) : Int)) with
  | false => rfl
  | true =>
    obtain ⟨i, hi, e⟩ := h.only _ he
    have := pos_inj n o k j i hP ho hk1 hk hj (by omega) (by omega)
    omega
theorem Came.put {n o k j : Nat} {D : DataW Unit} (h : Came n o k j D) (ht : Maps.Tidy D) (hP : isP n = true) (ho : o < n) (hk1 : 1 ≤ k) (hk : k < n) (hj : j < n) (hw : (Lit.int .i64 ((pos n o k j : Nat) : Int)).wf = true) : Came n o k (j + 1) (D.put (.int .i64 ((pos n o k j : Nat) : Int)) (.lit (.bool true))) where
  size := by rw [Maps.size_put ht, h.fresh hP ho hk1 hk hj, h.size]; rfl
  only := fun x hx => by
    by_cases e : x = ((pos n o k j : Nat) : Int)
    · exact ⟨j, by omega, e⟩
    · rw [Maps.has_put_other (fun h => e (by injection h))] at hx
      obtain ⟨i, hi, e2⟩ := h.only x hx
      exact ⟨i, by omega, e2⟩
set_option maxRecDepth 100000 in
set_option maxHeartbeats 8000000 in
theorem walk (a : Option Addr) (m c : Nat) (zs : List Int) (n : Int) (w : World) (hr : IsRow .u8 w a m c zs) (hn : (Lit.int .i64 n).wf = true) (hL : laidMetH Tryd.prog Rows.strideOnceRow.laid w) :
    Calls Tryd.prog 8 #[.slice a m c, .int .i64 n] w fun e w' => e = .returned (.bool true) ∧ Below w.heap.size w w' := by
  obtain ⟨ea, hS⟩ := err0 hL
  obtain ⟨l, hl, hc, hnone, hcap, htop⟩ := bytes_of_row hr
  unfold maxLen at htop
  have HS := Lib.hid hS
  have HC : Hid (∀ W, Below w.heap.size w W → Cells W a l) := Lib.hid fun W hb => hc.below hb rfl
  have HL := Lib.hid hl
  clear hL hr hS hc hl hnone
  by_cases hbig : 500 < m
  · have hbig' : (500 : Int) < (m : Int) := by omega
    go_enter Tryd.func8, Tryd.ntmps8
    go_wp2_with (go_at_call 22; refine (alive09_any _).mono ?_; rintro e w' ⟨rfl, hb⟩)
    go_ret
    exact ⟨rfl, hb⟩
  have hsm : (m : Int) ≤ 500 := by omega
  have HSM : Hid (m ≤ 500) := Lib.hid (by omega)
  clear hbig htop hcap
  cases hz : szB n with
  | false =>
    have HZ := Lib.hid hz
    have HAN : Hid (∀ W, Calls Tryd.prog 28 #[.agg #[.int .i64 0, .int .i64 0, .int .i64 0]] W fun e w' => e = .returned (.slice none 0 0) ∧ Below W.heap.size W w') := Lib.hid fun W => all_no 0 0 0 (by decide) W
    clear hz hn
    go_enter Tryd.func8, Tryd.ntmps8
    go_wp2_with (first | (go_at_call 22; refine (alive09_any _).mono ?_; rintro e w1 ⟨rfl, hb⟩; have HB1 := Lib.hid hb; clear hb) | (go_at_call 33; refine (sof_no_c _ _ _ _ _ _ _ ((HB1.out.cell (p := ⟨0, 0, none⟩) (World.block_lt_of_cell? w _ HS.out)).trans HS.out) HZ.out).mono ?_; rintro e w2 ⟨rfl, hb⟩; dsimp only [sv]; have HB2 := Lib.hid (HB1.out.trans (hb.mono HB1.out.size)); clear hb) | (go_at_call 28; refine (HAN.out _).mono ?_; rintro e w4 ⟨rfl, hb⟩; have HB4 := Lib.hid ((HB2.out.alloc HB2.out.size (.cells #[.int .i64 0, .int .i64 0, .int .i64 0] 38)).trans (hb.mono (Nat.le_trans HB2.out.size (by simp)))); clear hb))
    go_ret
    exact ⟨rfl, HB4.out⟩
  | true =>
    obtain ⟨n', rfl, hP, h2, h251⟩ := sz_nat hz
    have HZ := Lib.hid hz
    have HR := Lib.hid (rt_of n' l hz h2)
    have ho : offs n' l < n' := Nat.mod_lt _ (by omega)
    have hk1 : 1 ≤ skp n' l := by unfold skp; omega
    have hk : skp n' l < n' := by
      unfold skp
      have := Nat.mod_lt (hs 2#64 l).toNat (show 0 < n' - 1 by omega)
      omega
    obtain ⟨O, hO⟩ : ∃ O, offs n' l = O := ⟨_, rfl⟩
    obtain ⟨K, hK⟩ : ∃ K, skp n' l = K := ⟨_, rfl⟩
    have HO := Lib.hid hO
    have HK := Lib.hid hK
    rw [hO] at ho
    rw [hK] at hk hk1
    rw [hO, hK] at HR
    have HN : Hid (isP n' = true ∧ 2 ≤ n' ∧ n' ≤ 251 ∧ O < n' ∧ 1 ≤ K ∧ K < n') := Lib.hid ⟨hP, h2, h251, ho, hk1, hk⟩
    have b1 : (n' : Int) ≤ 251 := by omega
    have b2 : (2 : Int) ≤ (n' : Int) := by omega
    have hmm := @run_makeMap Tryd.prog
    clear hz hn hP h2 h251 hO hK ho hk1 hk
    go_enter Tryd.func8, Tryd.ntmps8
    go_wp2_with (first | (go_at_call 22; refine (alive09_any _).mono ?_; rintro e w1 ⟨rfl, hb⟩; have HB1 := Lib.hid hb; clear hb) | (go_at_call 33; refine (sof_yes a m c l n' _ HL.out (by have := HSM.out; omega) (HC.out _ HB1.out) HZ.out HN.out.2.1 HN.out.2.2.1).mono ?_; rintro e w2 ⟨rfl, hb⟩; rw [HO.out, HK.out]; dsimp only [sv]; have HB2 := Lib.hid (HB1.out.trans (hb.mono HB1.out.size)); have HB3 := Lib.hid (HB2.out.alloc HB2.out.size (.cells #[.int .i64 (n' : Int), .int .i64 (O : Int), .int .i64 (K : Int)] 38)); have HX := Lib.hid (B3.new w2 n' O K 38); have HM0 := Lib.hid (World.ownsMap_made (H := Unit) (w2.alloc (.cells #[.int .i64 (n' : Int), .int .i64 (O : Int), .int .i64 (K : Int)] 38)) Tryd.prog 3 (plainElem Tryd.prog 4)); have HBM := Lib.hid ((Below.refl _ (w2.alloc (.cells #[.int .i64 (n' : Int), .int .i64 (O : Int), .int .i64 (K : Int)] 38))).alloc (Nat.le_refl _) (.map #[] 0)); obtain ⟨x0, x1, x2⟩ := HX.out.below HBM.out; clear hb) | (go_at_call 28; refine (all_yes n' O K HR.out HN.out.2.2.1 HN.out.2.2.2.1 HN.out.2.2.2.2.2 _).mono ?_; rintro e w4 ⟨va, rfl, hown, hb⟩; obtain ⟨aa, ca, rfl, hat, _, hca, hta⟩ := ints_own hown; unfold maxLen at hta; have HAT := Lib.hid hat; have HG := Lib.hid (iown_ge hown); have HX4 := Lib.hid ((HX.out.below HBM.out).below hb); have HB4 := Lib.hid ((HB3.out.alloc HB3.out.size (.map #[] 0)).trans (hb.mono (Nat.le_trans HB3.out.size (by simp)))); have HM4 := Lib.hid (seen_below HM0.out hb); clear hb hown hat))
    clear hmm
    rw [World.size_alloc] at HM4
    obtain ⟨MB, hMB⟩ : ∃ x, w2.heap.size + 1 = x := ⟨_, rfl⟩
    have HMB : Hid (w2.heap.size + 1 = MB ∧ w.heap.size ≤ MB) := Lib.hid ⟨hMB, by have := HB2.out.size; omega⟩
    rw [hMB] at HM4 ⊢
    have hpn : ps n' O K n' ≠ [] := by intro e; have := ps_length n' O K n'; rw [e] at this; simp at this; have := HN.out.2.1; omega
    obtain ⟨g, off, rfl, hc4⟩ := HAT.out.resolve_left hpn
    have HG2 : Hid (g ≠ MB) := Lib.hid (by
      have h1 : _ ≤ g := HG.out g rfl
      rw [World.size_alloc, World.size_alloc] at h1
      omega)
    have HC4 : Hid (∀ q, q < n' → w4.cell? ⟨g, off + q, none⟩ = some (.int .i64 ((pos n' O K q : Nat) : Int))) := Lib.hid fun q hq => by
      have := hc4 q (by rw [ps_length]; exact hq)
      rwa [ps_getD n' O K n' q hq] at this
    have HSB : Hid (w2.heap.size ≠ MB) := Lib.hid (by omega)
    clear hpn hc4 hMB x0 x1 x2
    go_loopw [31] (fun i wr => ∃ (j : Nat) (D : DataW Unit), j ≤ n' ∧ i = .int .i64 (j : Int) ∧ Seen wr MB j D ∧ Came n' O K j D ∧ (∀ b i v, b ≠ MB → w4.cell? ⟨b, i, none⟩ = some v → wr.cell? ⟨b, i, none⟩ = some v) ∧ Below w.heap.size w wr) (fun i _ => n' - (intOf i).toNat)
    case atStart => exact ⟨0, _, Nat.zero_le _, rfl, HM4.out, ⟨rfl, fun x h => by simp [Maps.has] at h⟩, fun b i v _ h => h, HB4.out⟩
    case round =>
      obtain ⟨j, D, hj, rfl, hsn, hcm, hkp, hB⟩ := hrel
      have HSN := Lib.hid hsn
      have HCM := Lib.hid hcm
      have HKP := Lib.hid hkp
      have HBR := Lib.hid hB
      clear hsn hcm hkp hB
      by_cases hlt : j < n'
      · have hlt' : (j : Int) < (n' : Int) := by omega
        have HLT := Lib.hid hlt
        obtain ⟨hP, h2, h251, ho, hk1, hk⟩ := HN.out
        have hx := HKP.out _ _ _ HG2.out (HC4.out j hlt)
        have hpl := pos_lt n' O K j (by omega)
        have hwf : (Lit.int .i64 ((pos n' O K j : Nat) : Int)).wf = true := by simp [Lit.wf, IntKind.min, IntKind.max, IntKind.signed, IntKind.bits]; omega
        have hlk := seen_not HSN.out _ hwf (HCM.out.fresh hP ho hk1 hk hlt)
        have HPUT := Lib.hid (HCM.out.put (HSN.out.tidy (Maps.int_keyed Tryd.underlying3)) hP ho hk1 hk hlt hwf)
        have HWH : Hid (∀ W, Calls Tryd.prog 27 #[.agg #[.int .i64 (n' : Int), .int .i64 (O : Int), .int .i64 (K : Int)], .int .i64 ((pos n' O K j : Nat) : Int)] W fun e w' => e = .returned (.int .i64 (j : Int)) ∧ Below W.heap.size W w') := Lib.hid fun W => by
          have := when_yes n' O K (pos n' O K j) HR.out hP h251 ho hk1 hk hpl W
          rwa [whn_pos n' O K _ j (by omega) ho hlt (inv_one n' K hP hk1 hk)] at this
        have HPL : Hid (∀ W, Calls Tryd.prog 26 #[.agg #[.int .i64 (n' : Int), .int .i64 (O : Int), .int .i64 (K : Int)], .int .i64 ((j : Int) + (n' : Int))] W fun e w' => e = .returned (.int .i64 ((pos n' O K j : Nat) : Int)) ∧ Below W.heap.size W w') := Lib.hid fun W => by
          have := place_yes n' O K ((j : Int) + (n' : Int)) HR.out h251 ho hk W
          have e : rb ((j : Int) + (n' : Int)) n' = j := by
            have h3 := rb_int ((j : Int) + (n' : Int)) n' (by omega)
            rw [Int.add_emod_right, Int.emod_eq_of_lt (by omega) (by omega)] at h3
            omega
          rwa [e] at this
        obtain ⟨x, hxx⟩ : ∃ x, pos n' O K j = x := ⟨_, rfl⟩
        rw [hxx] at hx hpl hwf hlk HPUT HWH HPL
        have HWF := Lib.hid hwf
        have hpx : (x : Int) < (n' : Int) := by omega
        have hs0 := HKP.out _ _ _ HSB.out HX4.out.c0
        have hs1 := HKP.out _ _ _ HSB.out HX4.out.c1
        have hs2 := HKP.out _ _ _ HSB.out HX4.out.c2
        have HX5 := Lib.hid (B3.mk hs0 hs1 hs2)
        clear hP h2 h251 ho hk1 hk hxx hpl hwf hlt
        go_wp2_with (first | (go_at_call 27; refine (HWH.out _).mono ?_; rintro e w5 ⟨rfl, hb⟩; have HB5 := Lib.hid hb; obtain ⟨y0, y1, y2⟩ := HX5.out.below hb; clear hb) | (go_at_call 26; refine (HPL.out _).mono ?_; rintro e w6 ⟨rfl, hb⟩; have HB6 := Lib.hid (HB5.out.trans (hb.mono HB5.out.size)); have HSN6 := Lib.hid (seen_below HSN.out HB6.out); clear hb) | (at_mapUpdate; refine wpList_mapUpdate_own _ rfl _ _ _ 50 rfl 3 4 (Maps.int_keyed Tryd.underlying3) Tryd.underlying50 _ MB j D rfl HSN6.out (by have := HLT.out; have := HN.out.2.2.1; unfold maxLen; omega) _ _ _ rfl rfl (Maps.keyOf_int_mk Tryd.underlying3 HWF.out) _ [] (plainElem_bool Tryd.underlying4 true) ?_; intro w7 hs7 hg7; have HS7 := Lib.hid hs7; have HG7 := Lib.hid hg7; clear hs7 hg7))
        refine ⟨⟨j + 1, _, by have := HLT.out; omega, by go_num, HS7.out, HPUT.out, fun b i v hb hv => ?_, ?_⟩, by have := HLT.out; simp [intOf]; omega⟩
        · have h1 := HKP.out b i v hb hv
          have h2 := (HB6.out.cell (p := ⟨b, i, none⟩) (World.block_lt_of_cell? wr _ h1)).trans h1
          rw [World.cell?_of_block (w := w6) (w' := w7) (a := ⟨b, i, none⟩) (HG7.out.block b (World.block_lt_of_cell? w6 _ h2) (fun e => hb (by cases e; rfl)))]
          exact h2
        · have h1 := HBR.out.trans (HB6.out.mono HBR.out.size)
          exact h1.grown HG7.out h1.size (fun r h => by cases h; exact HMB.out.2)
      · obtain rfl : j = n' := by omega
        have hln := HSN.out.len Tryd.underlying50 3
        rw [HCM.out.size] at hln
        clear hlt
        go_wp2_with fail
        go_ret
        exact ⟨rfl, HBR.out⟩
end Go.Proofs.YtifdbjombgcfcaaDoor.strideOnce
