/- The walk of the law StridePlaces. -/
import Derived.Test.YtifdbjombgcfcaaDoorStAll
import Derived.Test.YtifdbjombgcfcaaDoorLaid
import Derived.Deep.RegionHeld3
import Derived.OpenShut
import Derived.ChangeArms
namespace Go.Proofs.YtifdbjombgcfcaaDoor.stridePlaces
open Go.RowKit StMath PrimeMath
set_option linter.unusedVariables false

/-- A stride that comes in. -/
def IsStride (v : Value) : Prop := ∃ n o k : Int, v = sv n o k
section
variable {H : Type} {enc : TypeId × Value → H} {w : World} {base : Nat} {spare : Nat → Bool} {held : Bool}
set_option maxRecDepth 100000 in
theorem open0 {r : Reach} {b0 : Nat} {v : Value} {d : DataW H} {ps : List MemPlace} {w0 : World} (hval : Value.okWide Tryd.prog w0 r b0 38 v) (h : DataW.Trod enc Tryd.prog w base spare held 38 v d ps) : IsStride v := by
  obtain ⟨cs, rfl, hsz, _⟩ : ∃ cs, v = .agg cs ∧ cs.size = Tryd.prog.cellsOf 38 ∧ Row.okWide Tryd.prog w0 r b0 38 cs := by
    unfold Value.okWide at hval
    rw [Tryd.underlying38] at hval
    exact hval
  obtain ⟨fuel, hf⟩ := h
  have hv : (Value.agg cs).cells = cs := rfl
  rw [hv] at hf
  obtain ⟨xs, n, _, _, hl, hxs, hg⟩ := DataW.trod_struct Tryd.underlying38 hf
  have hlen : cs.toList.length = 3 := by rw [hl]; kernel_rfl
  simp at hxs
  have h0 : DataW.trod enc Tryd.prog w base spare held n 3 ((cs.toList.drop 0).take (Tryd.prog.cellsOf 3)) = xs[0]? := hg 0 _ rfl
  have h1 : DataW.trod enc Tryd.prog w base spare held n 3 ((cs.toList.drop 1).take (Tryd.prog.cellsOf 3)) = xs[1]? := hg 1 _ rfl
  have h2 : DataW.trod enc Tryd.prog w base spare held n 3 ((cs.toList.drop 2).take (Tryd.prog.cellsOf 3)) = xs[2]? := hg 2 _ rfl
  rw [show Tryd.prog.cellsOf 3 = 1 by kernel_rfl, List.getElem?_eq_getElem (by omega)] at h0 h1 h2
  obtain ⟨a, ha, _, _⟩ := DataW.trod_int Tryd.underlying3 h0
  obtain ⟨b, hb, _, _⟩ := DataW.trod_int Tryd.underlying3 h1
  obtain ⟨c, hc, _, _⟩ := DataW.trod_int Tryd.underlying3 h2
  refine ⟨a, b, c, ?_⟩
  obtain ⟨cs⟩ := cs
  match cs, hlen with
  | [x, y, z], _ =>
    simp at ha hb hc
    rw [ha, hb, hc]; rfl
end
/-- When a place comes, looked for from the front. -/
structure Finds (n o k : Nat) (p : Int) (f : Nat → Int) : Prop where
  start : f 0 = -1
  hit : ∀ q, q < n → ((pos n o k q : Nat) : Int) = p → f (q + 1) = (q : Int)
  miss : ∀ q, q < n → ((pos n o k q : Nat) : Int) ≠ p → f (q + 1) = f q
theorem finds_out (n o k : Nat) (p : Int) (h : p < 0 ∨ (n : Int) ≤ p) (hn : 0 < n) : Finds n o k p (fun _ => -1) where
  start := rfl
  hit := fun q hq e => by have := pos_lt n o k q hn; omega
  miss := fun q hq e => rfl
theorem finds_in (n o k p : Nat) (hP : isP n = true) (ho : o < n) (hk1 : 1 ≤ k) (hk : k < n) (hp : p < n) : Finds n o k (p : Int) (fun q => if whn n o (inv n k) p < q then ((whn n o (inv n k) p : Nat) : Int) else -1) where
  start := rfl
  hit := fun q hq e => by
    have hi := inv_one n k hP hk1 hk
    have h1 : pos n o k q = p := by omega
    have h2 := whn_pos n o k (inv n k) q (by omega) ho hq hi
    rw [h1] at h2
    simp only [h2]
    rw [if_pos (by omega)]
  miss := fun q hq e => by
    have hi := inv_one n k hP hk1 hk
    have h1 := pos_whn n o k (inv n k) p (by omega) ho hp hi
    have h2 : whn n o (inv n k) p ≠ q := by
      intro h
      rw [h] at h1
      exact e (by omega)
    by_cases h3 : whn n o (inv n k) p < q
    · show (if _ then _ else _) = (if _ then _ else _)
      rw [if_pos h3, if_pos (by omega)]
    · show (if _ then _ else _) = (if _ then _ else _)
      rw [if_neg h3, if_neg (by omega)]
/-- The boxed stride and one place. -/
theorem four {b : Nat} {n o k : Int} {g i : Nat} {v : Value} {W : World} (h : B3 b n o k W) (hc : W.cell? ⟨g, i, none⟩ = some v) : W.cell? ⟨b, 0, none⟩ = some (.int .i64 n) ∧ W.cell? ⟨b, 1, none⟩ = some (.int .i64 o) ∧ W.cell? ⟨b, 2, none⟩ = some (.int .i64 k) ∧ W.cell? ⟨g, i, none⟩ = some v := ⟨h.c0, h.c1, h.c2, hc⟩
theorem cell_up {W W' : World} {g i : Nat} {v : Value} (h : W.cell? ⟨g, i, none⟩ = some v) (hb : Below W.heap.size W W') : W'.cell? ⟨g, i, none⟩ = some v := (hb.cell (p := ⟨g, i, none⟩) (World.block_lt_of_cell? W _ h)).trans h

set_option maxRecDepth 100000 in
set_option maxHeartbeats 8000000 in
theorem walk (v : Value) (j p : Int) (w : World) (h0 : IsStride v) (hj : (Lit.int .i64 j).wf = true) (hp : (Lit.int .i64 p).wf = true) :
    Calls Tryd.prog 7 #[v, .int .i64 j, .int .i64 p] w fun e w' => e = .returned (.bool true) ∧ Below w.heap.size w w' := by
  obtain ⟨n, o, k, rfl⟩ := h0
  clear hj hp
  cases hr : rtB n o k with
  | false =>
    have HB := Lib.hid ((Below.refl _ w).alloc (Nat.le_refl _) (.cells #[.int .i64 n, .int .i64 o, .int .i64 k] 38))
    have HX := Lib.hid (B3.new w n o k 38)
    have HR := Lib.hid hr
    unfold sv
    clear hr
    go_enter Tryd.func7, Tryd.ntmps7
    go_wp2_with (first | (go_at_call 22; refine (alive09_any _).mono ?_; rintro e w1 ⟨rfl, hb⟩; have HB1 := Lib.hid (HB.out.trans (hb.mono HB.out.size)); have HX1 := Lib.hid (HX.out.below hb); obtain ⟨c10, c11, c12⟩ := HX1.out; clear hb) | (go_at_call 23; refine (refright_any _ _ _ _).mono ?_; rintro e w' ⟨rfl, rfl⟩; rw [HR.out]) | (go_at_call 24; refine (cursor_no n o k HR.out _).mono ?_; rintro e w2 ⟨Bc, rfl, hcn, hb, hBc⟩; have HB2 := Lib.hid (HB1.out.trans (hb.mono HB1.out.size)); have HX2 := Lib.hid (HX1.out.below hb); have HCN2 := Lib.hid hcn; have HBC : Hid (w.heap.size ≤ Bc) := Lib.hid (Nat.le_trans HB1.out.size hBc); obtain ⟨c20, c21, c22⟩ := HX2.out; clear hb hcn hBc) | (go_at_call 25; refine (right_any _ _ _ _).mono ?_; rintro e w3 ⟨rfl, hb⟩; rw [HR.out]; have HB3 := Lib.hid (HB2.out.trans (hb.mono HB2.out.size)); have HX3 := Lib.hid (HX2.out.below hb); have HCN3 := Lib.hid (HCN2.out.below hb); obtain ⟨c30, c31, c32⟩ := HX3.out; clear hb) | (go_at_call 26; refine (place_no n o k j HR.out _).mono ?_; rintro e w4 ⟨rfl, hb⟩; have HB4 := Lib.hid (HB3.out.trans (hb.mono HB3.out.size)); have HX4 := Lib.hid (HX3.out.below hb); have HCN4 := Lib.hid (HCN3.out.below hb); obtain ⟨c40, c41, c42⟩ := HX4.out; clear hb) | (go_at_call 27; refine (when_no n o k p (.inl HR.out) _).mono ?_; rintro e w5 ⟨rfl, hb⟩; have HB5 := Lib.hid (HB4.out.trans (hb.mono HB4.out.size)); have HX5 := Lib.hid (HX4.out.below hb); have HCN5 := Lib.hid (HCN4.out.below hb); obtain ⟨c50, c51, c52⟩ := HX5.out; clear hb) | (go_at_call 28; refine (all_no n o k HR.out _).mono ?_; rintro e w6 ⟨rfl, hb⟩; have HB6 := Lib.hid (HB5.out.trans (hb.mono HB5.out.size)); have HCN6 := Lib.hid (HCN5.out.below hb); clear hb) | (go_at_call 29; refine (next_no Bc 0 _ HCN6.out (by omega)).mono ?_; rintro e w7 ⟨rfl, hw⟩; have HCN7 : Hid (CN Bc 1 w7 ∧ Below w.heap.size w w7) := Lib.hid (by rw [hw]; exact ⟨HCN6.out.step 1, HB6.out.setCell (p := ⟨Bc, 3, none⟩) HBC.out _⟩); clear hw) | (go_at_call 30; refine (done_any Bc 1 _ HCN7.out.1.c3).mono ?_; rintro e w8 ⟨rfl, rfl⟩))
    go_ret
    exact ⟨rfl, HCN7.out.2⟩
  | true =>
    obtain ⟨n, o, k, rfl, rfl, rfl, hP, hn, ho, hk1, hk⟩ := rtB_nat hr
    have HNN : Hid (isP n = true ∧ n ≤ 251 ∧ o < n ∧ 1 ≤ k ∧ k < n) := Lib.hid ⟨hP, hn, ho, hk1, hk⟩
    have HB := Lib.hid ((Below.refl _ w).alloc (Nat.le_refl _) (.cells #[.int .i64 (n : Int), .int .i64 (o : Int), .int .i64 (k : Int)] 38))
    have HX := Lib.hid (B3.new w n o k 38)
    have HR := Lib.hid hr
    obtain ⟨f, hf, hfw⟩ : ∃ f, Finds n o k p f ∧ ∀ W, Calls Tryd.prog 27 #[sv n o k, .int .i64 p] W fun e w' => e = .returned (.int .i64 (f n)) ∧ Below W.heap.size W w' := by
      by_cases hp : p < 0 ∨ (n : Int) ≤ p
      · exact ⟨_, finds_out n o k p hp (by omega), fun W => when_no n o k p (.inr hp) W⟩
      · obtain ⟨q, rfl⟩ := Int.eq_ofNat_of_zero_le (show 0 ≤ p by omega)
        refine ⟨_, finds_in n o k q hP ho hk1 hk (by omega), fun W => ?_⟩
        have := when_yes n o k q hr hP hn ho hk1 hk (by omega) W
        rw [if_pos (whn_lt n o _ q (by omega))]
        exact this
    have HF := Lib.hid hf
    have HW := Lib.hid hfw
    have t1 := tmod_lo j n (by omega)
    have t2 := tmod_hi j n (by omega)
    obtain ⟨kk, hkk⟩ : ∃ kk, rb j n = kk := ⟨_, rfl⟩
    have HKK : Hid (kk < n ∧ (∀ W, Calls Tryd.prog 26 #[sv n o k, .int .i64 j] W fun e w' => e = .returned (.int .i64 ((pos n o k kk : Nat) : Int)) ∧ Below W.heap.size W w') ∧ (j.tmod (n : Int) < 0 → j.tmod (n : Int) + (n : Int) = (kk : Int)) ∧ (¬ j.tmod (n : Int) < 0 → j.tmod (n : Int) = (kk : Int))) := Lib.hid (by
      have h1 := rb_int j n (by omega)
      rw [hkk] at h1
      refine ⟨by rw [← hkk]; exact rb_lt j n (by omega), fun W => ?_, fun h => ?_, fun h => ?_⟩
      · have := place_yes n o k j hr hn ho hk W
        rwa [hkk] at this
      · rw [h1]; exact tmod_neg j n (by omega) h t1
      · rw [h1]; exact tmod_nonneg' j n (by omega) (by omega) t2)
    have b1 : (n : Int) ≤ 251 := by omega
    have b2 : (0 : Int) < (n : Int) := by omega
    have hn0 : ¬ n = 0 := by omega
    unfold sv at HW HKK ⊢
    clear hr hP hn ho hk1 hk hf hfw hkk
    have hsplit : j.tmod (n : Int) < 0 ∨ ¬ j.tmod (n : Int) < 0 := by omega
    rcases hsplit with hs | hs
    · have HS := Lib.hid hs
      go_enter Tryd.func7, Tryd.ntmps7
      go_wp2_with (first | (go_at_call 22; refine (alive09_any _).mono ?_; rintro e w1 ⟨rfl, hb⟩; have HB1 := Lib.hid (HB.out.trans (hb.mono HB.out.size)); have HX1 := Lib.hid (HX.out.below hb); obtain ⟨c10, c11, c12⟩ := HX1.out; clear hb) | (go_at_call 23; refine (refright_any _ _ _ _).mono ?_; rintro e w' ⟨rfl, rfl⟩; rw [HR.out]) | (go_at_call 24; refine (cursor_yes n o k HR.out HNN.out.2.1 HNN.out.2.2.1 HNN.out.2.2.2.2 _).mono ?_; rintro e w2 ⟨Bc, Ba, Bs, rfl, hcs, hb, hBc, hBa, hBc', hBa'⟩; have HB2 := Lib.hid (HB1.out.trans (hb.mono HB1.out.size)); have HX2 := Lib.hid (HX1.out.below hb); have HCS2 := Lib.hid hcs; have HLE : Hid (w.heap.size ≤ Bc ∧ w.heap.size ≤ Ba ∧ Bc < w2.heap.size ∧ Ba < w2.heap.size) := Lib.hid ⟨Nat.le_trans HB1.out.size hBc, Nat.le_trans HB1.out.size hBa, hBc', hBa'⟩; obtain ⟨c20, c21, c22⟩ := HX2.out; clear hb hcs hBc hBa hBc' hBa') | (go_at_call 25; refine (right_any _ _ _ _).mono ?_; rintro e w3 ⟨rfl, hb⟩; rw [HR.out]; have HB3 := Lib.hid (HB2.out.trans (hb.mono HB2.out.size)); have HX3 := Lib.hid (HX2.out.below hb); have HCS3 := Lib.hid (HCS2.out.below hb); have HSZ3 := Lib.hid hb.size; obtain ⟨c30, c31, c32⟩ := HX3.out; clear hb) | (go_at_call 31; refine (refall_any n o k HNN.out.2.1 HNN.out.2.2.1 HNN.out.2.2.2.2 _).mono ?_; rintro e w4 ⟨vr, rfl, hown, hb⟩; obtain ⟨ar, cr, rfl, hat, _, hcr, htr⟩ := ints_own hown; unfold maxLen at htr; have HB4 := Lib.hid (HB3.out.trans (hb.mono HB3.out.size)); have HX4 := Lib.hid (HX3.out.below hb); have HCS4 := Lib.hid (HCS3.out.below hb); have HO4 := Lib.hid hown; have HAT4 := Lib.hid hat; obtain ⟨c40, c41, c42⟩ := HX4.out; clear hb hown hat))
      have eK := HKK.out.2.2.1 HS.out
      rw [eK]
      clear eK
      have hpn : ps n o k n ≠ [] := by intro e; have := ps_length n o k n; rw [e] at this; simp at this; omega
      obtain ⟨g, off, rfl, hc4⟩ := HAT4.out.resolve_left hpn
      have HC4 : Hid (∀ q, q < n → w4.cell? ⟨g, off + q, none⟩ = some (.int .i64 ((pos n o k q : Nat) : Int))) := Lib.hid fun q hq => by
        have := hc4 q (by rw [ps_length]; exact hq)
        rwa [ps_getD n o k n q hq] at this
      have HNP := Lib.hid hpn
      clear hpn hc4
      go_loop [11, 81] (fun fv i => ∃ q : Nat, q ≤ n ∧ i = .int .i64 (q : Int) ∧ fv = .int .i64 (f q)) (fun _ i => n - (intOf i).toNat)
      case atStart => exact ⟨0, Nat.zero_le _, rfl, by rw [HF.out.start]⟩
      case round =>
        obtain ⟨q, hq, rfl, rfl⟩ := hrel
        by_cases hlt : q < n
        · have hx := HC4.out q hlt
          have hlt' : (q : Int) < (n : Int) := by omega
          have HLT := Lib.hid hlt
          have HH := Lib.hid (HF.out.hit q hlt)
          have HM := Lib.hid (HF.out.miss q hlt)
          obtain ⟨x, hxx⟩ : ∃ x, pos n o k q = x := ⟨_, rfl⟩
          rw [hxx] at hx HH HM
          clear hxx hlt
          by_cases hh : (x : Int) = p
          · have hb : ((x : Int) == p) = true := by rw [beq_iff_eq]; exact hh
            have HE := Lib.hid hh
            clear hh
            go_wp2_with fail
            exact ⟨⟨q + 1, by have := HLT.out; omega, by go_num, by rw [HH.out HE.out]⟩, by have := HLT.out; simp [intOf]; omega⟩
          · have hb : ((x : Int) == p) = false := by rw [beq_eq_false_iff_ne]; exact hh
            have HE := Lib.hid hh
            clear hh
            go_wp2_with fail
            exact ⟨⟨q + 1, by have := HLT.out; omega, by go_num, by rw [HM.out HE.out]⟩, by have := HLT.out; simp [intOf]; omega⟩
        · obtain rfl : q = n := by omega
          clear hlt
          go_wp2_with fail
          have ck := HC4.out kk HKK.out.1
          have k1 : (kk : Int) < (q : Int) := by have := HKK.out.1; omega
          have k2 : (0 : Int) ≤ (kk : Int) := by omega
          have HCK := Lib.hid ck
          go_region_held3 (fun W => W.cell? ⟨w.heap.size, 0, none⟩ = some (.int .i64 (q : Int)) ∧ W.cell? ⟨w.heap.size, 1, none⟩ = some (.int .i64 (o : Int)) ∧ W.cell? ⟨w.heap.size, 2, none⟩ = some (.int .i64 (k : Int)) ∧ W.cell? ⟨g, off + kk, none⟩ = some (.int .i64 ((pos q o k kk : Nat) : Int))) (first | exact four HX8.out HCK8.out | exact four HX7.out HCK7.out | exact four HX6.out HCK6.out | exact four HX5.out HCK5.out | exact four (HX4.out.below (Below.refl _ _).drew) (cell_up HCK.out (Below.refl _ _).drew)) (first | (go_at_call 26; refine (HKK.out.2.1 _).mono ?_; rintro e w5 ⟨rfl, hb⟩; have HB5 := Lib.hid ((Below.refl w4.heap.size w4).drew.trans hb); have HX5 := Lib.hid (HX4.out.below HB5.out); have HCK5 := Lib.hid (cell_up HCK.out HB5.out); clear hb) | (go_at_call 27; refine (HW.out _).mono ?_; rintro e w6 ⟨rfl, hb⟩; have HB6 := Lib.hid (HB5.out.trans (hb.mono HB5.out.size)); have HX6 := Lib.hid (HX4.out.below HB6.out); have HCK6 := Lib.hid (cell_up HCK.out HB6.out); clear hb) | (go_at_call 28; refine (all_yes q o k HR.out HNN.out.2.1 HNN.out.2.2.1 HNN.out.2.2.2.2 _).mono ?_; rintro e w7 ⟨va, rfl, hown7, hb⟩; obtain ⟨aa, ca, rfl, hat7, _, _, _⟩ := ints_own hown7; have HAT7 := Lib.hid hat7; have HB7 := Lib.hid (HB6.out.trans (hb.mono HB6.out.size)); have HX7 := Lib.hid (HX4.out.below HB7.out); have HCK7 := Lib.hid (cell_up HCK.out HB7.out); clear hb hown7 hat7) | (go_at_call 32; refine (sameInts_any aa (some ⟨g, off, none⟩) q ca cr (ps q o k q) _ (ps_length _ _ _ _) (by have := HNN.out.2.1; omega) HAT7.out (HAT4.out.below HB7.out)).mono ?_; rintro e w8 ⟨rfl, k8, rfl⟩; have HB8 := Lib.hid (HB7.out.trans (drewN_below _ _ k8)); have HX8 := Lib.hid (HX4.out.below HB8.out); have HCK8 := Lib.hid (cell_up HCK.out HB8.out)))
          clear ck
          have HCS8 := Lib.hid (HCS4.out.below HB8.out)
          have HO8 := Lib.hid (iown_below (B := 0) HO4.out HB8.out)
          have HBW := Lib.hid (HB4.out.trans (HB8.out.mono HB4.out.size))
          obtain ⟨W8, hW8⟩ : ∃ W, w7.drewN k8 = W := ⟨_, rfl⟩
          simp only [hW8] at HCS8 HO8 HBW ⊢
          go_wp2_with fail
          go_loopw [117] (fun i wr => ∃ m : Nat, m ≤ 2 * q + 1 ∧ i = .int .i64 (m : Int) ∧ CS Bc Ba Bs q k (pos q o k m) m wr ∧ wr.ownsRow w3.heap.size 3 1 (.slice (some ⟨g, off, none⟩) q cr) q ((ps q o k q).map iv) ∧ Below w.heap.size w wr) (fun i _ => 2 * q + 1 - (intOf i).toNat)
          case atStart => exact ⟨0, Nat.zero_le _, rfl, by rw [pos_zero q o k HNN.out.2.2.1]; exact HCS8.out, HO8.out, HBW.out⟩
          case round =>
            obtain ⟨m, hm, rfl, hcs, hown, hB⟩ := hrel
            have HC := Lib.hid hcs
            have HO := Lib.hid hown
            have HBR := Lib.hid hB
            clear hcs hown hB
            by_cases hlt : m < 2 * q + 1
            · have hlt' : (m : Int) < 2 * (q : Int) + 1 := by omega
              have HLT := Lib.hid hlt
              obtain ⟨r, hr⟩ : ∃ r, m % q = r := ⟨_, rfl⟩
              have er : (m : Int) % (q : Int) = (r : Int) := by rw [← hr, Int.natCast_emod]
              have er2 : (m : Int).tmod (q : Int) = (r : Int) := by rw [Int.tmod_eq_emod_of_nonneg (by omega)]; exact er
              have hrq : r < q := by rw [← hr]; exact Nat.mod_lt _ (by omega)
              have hx : wr.cell? ⟨g, off + r, none⟩ = some (.int .i64 ((pos q o k m : Nat) : Int)) := by
                obtain ⟨a', c', e', hat, _⟩ := ints_own HO.out
                simp only [Value.slice.injEq, true_and] at e'
                obtain ⟨rfl, rfl⟩ := e'
                obtain ⟨g', off', e2, hc⟩ := hat.resolve_left HNP.out
                simp only [Option.some.injEq, Addr.mk.injEq, and_true] at e2
                obtain ⟨rfl, rfl⟩ := e2
                have h1 := hc r (by rw [ps_length]; exact hrq)
                rw [ps_getD q o k q r hrq, ← hr, pos_mod] at h1
                rw [← hr]; exact h1
              have HXX := Lib.hid hx
              have hr1 : (r : Int) < (q : Int) := by omega
              have hr2 : (0 : Int) ≤ (r : Int) := by omega
              have HPO := Lib.hid (pos_succ q o k m)
              have HPL := Lib.hid (pos_lt q o k m (by omega))
              obtain ⟨pp, hpp⟩ : ∃ x, pos q o k m = x := ⟨_, rfl⟩
              rw [hpp] at hx HXX HC HPO HPL
              have HCD := Lib.hid (HC.out.below (Below.refl _ wr).drew)
              have HNX : Hid (∀ r, (stepW Bc Ba ((pp + k) % q) (m + 1) wr.drew).cell? ⟨g, off + r, none⟩ = wr.cell? ⟨g, off + r, none⟩) := Lib.hid fun r => by
                have hg : w3.heap.size ≤ g := by
                  have := iown_ge HO.out g rfl
                  exact this
                have hl := HLE.out
                have h3 := HSZ3.out
                unfold stepW
                rw [World.cell?_setCell_other _ _ _ _ (fun e => by have := congrArg Addr.block e; simp only [] at this; omega), World.cell?_setCell_other _ _ _ _ (fun e => by have := congrArg Addr.block e; simp only [] at this; omega)]
                exact World.cell?_drew _ _
              clear hr hrq hpp hlt
              go_wp2_with fail
              go_region_held3 (fun W => W.cell? ⟨g, off + r, none⟩ = some (.int .i64 (pp : Int))) (first | (rw [HW9.out, HNX.out]; exact HXX.out) | exact cell_up HXX.out (Below.refl _ _).drew) (first | (go_at_call 30; refine (done_any Bc m _ HCD.out.c3).mono ?_; rintro e w8 ⟨rfl, rfl⟩) | (go_at_call 29; refine (next_yes Bc Ba Bs q k pp m _ HCD.out HNN.out.2.1 HNN.out.2.2.2.2 HPL.out (by have := HLT.out; have := HNN.out.2.1; omega)).mono ?_; rintro e w9 ⟨rfl, hw9⟩; have HW9 := Lib.hid hw9; clear hw9))
              go_wp2_with fail
              have hl := HLE.out
              have h3 := HSZ3.out
              refine ⟨⟨m + 1, by have := HLT.out; omega, by go_num, ?_, ?_, ?_⟩, by have := HLT.out; simp [intOf]; omega⟩
              · rw [HPO.out, HW9.out]; exact HCD.out.step _ _
              · rw [HW9.out]; exact stepW_own (iown_below (B := 0) HO.out (Below.refl _ wr).drew) (by omega) (by omega) _ _
              · rw [HW9.out]; exact stepW_below HBR.out.drew hl.1 hl.2.1 _ _
            · go_wp2_with fail
              go_ret
              exact ⟨rfl, HBR.out⟩
    · have HS := Lib.hid hs
      go_enter Tryd.func7, Tryd.ntmps7
      go_wp2_with (first | (go_at_call 22; refine (alive09_any _).mono ?_; rintro e w1 ⟨rfl, hb⟩; have HB1 := Lib.hid (HB.out.trans (hb.mono HB.out.size)); have HX1 := Lib.hid (HX.out.below hb); obtain ⟨c10, c11, c12⟩ := HX1.out; clear hb) | (go_at_call 23; refine (refright_any _ _ _ _).mono ?_; rintro e w' ⟨rfl, rfl⟩; rw [HR.out]) | (go_at_call 24; refine (cursor_yes n o k HR.out HNN.out.2.1 HNN.out.2.2.1 HNN.out.2.2.2.2 _).mono ?_; rintro e w2 ⟨Bc, Ba, Bs, rfl, hcs, hb, hBc, hBa, hBc', hBa'⟩; have HB2 := Lib.hid (HB1.out.trans (hb.mono HB1.out.size)); have HX2 := Lib.hid (HX1.out.below hb); have HCS2 := Lib.hid hcs; have HLE : Hid (w.heap.size ≤ Bc ∧ w.heap.size ≤ Ba ∧ Bc < w2.heap.size ∧ Ba < w2.heap.size) := Lib.hid ⟨Nat.le_trans HB1.out.size hBc, Nat.le_trans HB1.out.size hBa, hBc', hBa'⟩; obtain ⟨c20, c21, c22⟩ := HX2.out; clear hb hcs hBc hBa hBc' hBa') | (go_at_call 25; refine (right_any _ _ _ _).mono ?_; rintro e w3 ⟨rfl, hb⟩; rw [HR.out]; have HB3 := Lib.hid (HB2.out.trans (hb.mono HB2.out.size)); have HX3 := Lib.hid (HX2.out.below hb); have HCS3 := Lib.hid (HCS2.out.below hb); have HSZ3 := Lib.hid hb.size; obtain ⟨c30, c31, c32⟩ := HX3.out; clear hb) | (go_at_call 31; refine (refall_any n o k HNN.out.2.1 HNN.out.2.2.1 HNN.out.2.2.2.2 _).mono ?_; rintro e w4 ⟨vr, rfl, hown, hb⟩; obtain ⟨ar, cr, rfl, hat, _, hcr, htr⟩ := ints_own hown; unfold maxLen at htr; have HB4 := Lib.hid (HB3.out.trans (hb.mono HB3.out.size)); have HX4 := Lib.hid (HX3.out.below hb); have HCS4 := Lib.hid (HCS3.out.below hb); have HO4 := Lib.hid hown; have HAT4 := Lib.hid hat; obtain ⟨c40, c41, c42⟩ := HX4.out; clear hb hown hat))
      have eK := HKK.out.2.2.2 (by have := HS.out; omega)
      rw [eK]
      clear eK
      have hpn : ps n o k n ≠ [] := by intro e; have := ps_length n o k n; rw [e] at this; simp at this; omega
      obtain ⟨g, off, rfl, hc4⟩ := HAT4.out.resolve_left hpn
      have HC4 : Hid (∀ q, q < n → w4.cell? ⟨g, off + q, none⟩ = some (.int .i64 ((pos n o k q : Nat) : Int))) := Lib.hid fun q hq => by
        have := hc4 q (by rw [ps_length]; exact hq)
        rwa [ps_getD n o k n q hq] at this
      have HNP := Lib.hid hpn
      clear hpn hc4
      go_loop [11, 81] (fun fv i => ∃ q : Nat, q ≤ n ∧ i = .int .i64 (q : Int) ∧ fv = .int .i64 (f q)) (fun _ i => n - (intOf i).toNat)
      case atStart => exact ⟨0, Nat.zero_le _, rfl, by rw [HF.out.start]⟩
      case round =>
        obtain ⟨q, hq, rfl, rfl⟩ := hrel
        by_cases hlt : q < n
        · have hx := HC4.out q hlt
          have hlt' : (q : Int) < (n : Int) := by omega
          have HLT := Lib.hid hlt
          have HH := Lib.hid (HF.out.hit q hlt)
          have HM := Lib.hid (HF.out.miss q hlt)
          obtain ⟨x, hxx⟩ : ∃ x, pos n o k q = x := ⟨_, rfl⟩
          rw [hxx] at hx HH HM
          clear hxx hlt
          by_cases hh : (x : Int) = p
          · have hb : ((x : Int) == p) = true := by rw [beq_iff_eq]; exact hh
            have HE := Lib.hid hh
            clear hh
            go_wp2_with fail
            exact ⟨⟨q + 1, by have := HLT.out; omega, by go_num, by rw [HH.out HE.out]⟩, by have := HLT.out; simp [intOf]; omega⟩
          · have hb : ((x : Int) == p) = false := by rw [beq_eq_false_iff_ne]; exact hh
            have HE := Lib.hid hh
            clear hh
            go_wp2_with fail
            exact ⟨⟨q + 1, by have := HLT.out; omega, by go_num, by rw [HM.out HE.out]⟩, by have := HLT.out; simp [intOf]; omega⟩
        · obtain rfl : q = n := by omega
          clear hlt
          go_wp2_with fail
          have ck := HC4.out kk HKK.out.1
          have k1 : (kk : Int) < (q : Int) := by have := HKK.out.1; omega
          have k2 : (0 : Int) ≤ (kk : Int) := by omega
          have HCK := Lib.hid ck
          go_region_held3 (fun W => W.cell? ⟨w.heap.size, 0, none⟩ = some (.int .i64 (q : Int)) ∧ W.cell? ⟨w.heap.size, 1, none⟩ = some (.int .i64 (o : Int)) ∧ W.cell? ⟨w.heap.size, 2, none⟩ = some (.int .i64 (k : Int)) ∧ W.cell? ⟨g, off + kk, none⟩ = some (.int .i64 ((pos q o k kk : Nat) : Int))) (first | exact four HX8.out HCK8.out | exact four HX7.out HCK7.out | exact four HX6.out HCK6.out | exact four HX5.out HCK5.out | exact four (HX4.out.below (Below.refl _ _).drew) (cell_up HCK.out (Below.refl _ _).drew)) (first | (go_at_call 26; refine (HKK.out.2.1 _).mono ?_; rintro e w5 ⟨rfl, hb⟩; have HB5 := Lib.hid ((Below.refl w4.heap.size w4).drew.trans hb); have HX5 := Lib.hid (HX4.out.below HB5.out); have HCK5 := Lib.hid (cell_up HCK.out HB5.out); clear hb) | (go_at_call 27; refine (HW.out _).mono ?_; rintro e w6 ⟨rfl, hb⟩; have HB6 := Lib.hid (HB5.out.trans (hb.mono HB5.out.size)); have HX6 := Lib.hid (HX4.out.below HB6.out); have HCK6 := Lib.hid (cell_up HCK.out HB6.out); clear hb) | (go_at_call 28; refine (all_yes q o k HR.out HNN.out.2.1 HNN.out.2.2.1 HNN.out.2.2.2.2 _).mono ?_; rintro e w7 ⟨va, rfl, hown7, hb⟩; obtain ⟨aa, ca, rfl, hat7, _, _, _⟩ := ints_own hown7; have HAT7 := Lib.hid hat7; have HB7 := Lib.hid (HB6.out.trans (hb.mono HB6.out.size)); have HX7 := Lib.hid (HX4.out.below HB7.out); have HCK7 := Lib.hid (cell_up HCK.out HB7.out); clear hb hown7 hat7) | (go_at_call 32; refine (sameInts_any aa (some ⟨g, off, none⟩) q ca cr (ps q o k q) _ (ps_length _ _ _ _) (by have := HNN.out.2.1; omega) HAT7.out (HAT4.out.below HB7.out)).mono ?_; rintro e w8 ⟨rfl, k8, rfl⟩; have HB8 := Lib.hid (HB7.out.trans (drewN_below _ _ k8)); have HX8 := Lib.hid (HX4.out.below HB8.out); have HCK8 := Lib.hid (cell_up HCK.out HB8.out)))
          clear ck
          have HCS8 := Lib.hid (HCS4.out.below HB8.out)
          have HO8 := Lib.hid (iown_below (B := 0) HO4.out HB8.out)
          have HBW := Lib.hid (HB4.out.trans (HB8.out.mono HB4.out.size))
          obtain ⟨W8, hW8⟩ : ∃ W, w7.drewN k8 = W := ⟨_, rfl⟩
          simp only [hW8] at HCS8 HO8 HBW ⊢
          go_wp2_with fail
          go_loopw [117] (fun i wr => ∃ m : Nat, m ≤ 2 * q + 1 ∧ i = .int .i64 (m : Int) ∧ CS Bc Ba Bs q k (pos q o k m) m wr ∧ wr.ownsRow w3.heap.size 3 1 (.slice (some ⟨g, off, none⟩) q cr) q ((ps q o k q).map iv) ∧ Below w.heap.size w wr) (fun i _ => 2 * q + 1 - (intOf i).toNat)
          case atStart => exact ⟨0, Nat.zero_le _, rfl, by rw [pos_zero q o k HNN.out.2.2.1]; exact HCS8.out, HO8.out, HBW.out⟩
          case round =>
            obtain ⟨m, hm, rfl, hcs, hown, hB⟩ := hrel
            have HC := Lib.hid hcs
            have HO := Lib.hid hown
            have HBR := Lib.hid hB
            clear hcs hown hB
            by_cases hlt : m < 2 * q + 1
            · have hlt' : (m : Int) < 2 * (q : Int) + 1 := by omega
              have HLT := Lib.hid hlt
              obtain ⟨r, hr⟩ : ∃ r, m % q = r := ⟨_, rfl⟩
              have er : (m : Int) % (q : Int) = (r : Int) := by rw [← hr, Int.natCast_emod]
              have er2 : (m : Int).tmod (q : Int) = (r : Int) := by rw [Int.tmod_eq_emod_of_nonneg (by omega)]; exact er
              have hrq : r < q := by rw [← hr]; exact Nat.mod_lt _ (by omega)
              have hx : wr.cell? ⟨g, off + r, none⟩ = some (.int .i64 ((pos q o k m : Nat) : Int)) := by
                obtain ⟨a', c', e', hat, _⟩ := ints_own HO.out
                simp only [Value.slice.injEq, true_and] at e'
                obtain ⟨rfl, rfl⟩ := e'
                obtain ⟨g', off', e2, hc⟩ := hat.resolve_left HNP.out
                simp only [Option.some.injEq, Addr.mk.injEq, and_true] at e2
                obtain ⟨rfl, rfl⟩ := e2
                have h1 := hc r (by rw [ps_length]; exact hrq)
                rw [ps_getD q o k q r hrq, ← hr, pos_mod] at h1
                rw [← hr]; exact h1
              have HXX := Lib.hid hx
              have hr1 : (r : Int) < (q : Int) := by omega
              have hr2 : (0 : Int) ≤ (r : Int) := by omega
              have HPO := Lib.hid (pos_succ q o k m)
              have HPL := Lib.hid (pos_lt q o k m (by omega))
              obtain ⟨pp, hpp⟩ : ∃ x, pos q o k m = x := ⟨_, rfl⟩
              rw [hpp] at hx HXX HC HPO HPL
              have HCD := Lib.hid (HC.out.below (Below.refl _ wr).drew)
              have HNX : Hid (∀ r, (stepW Bc Ba ((pp + k) % q) (m + 1) wr.drew).cell? ⟨g, off + r, none⟩ = wr.cell? ⟨g, off + r, none⟩) := Lib.hid fun r => by
                have hg : w3.heap.size ≤ g := by
                  have := iown_ge HO.out g rfl
                  exact this
                have hl := HLE.out
                have h3 := HSZ3.out
                unfold stepW
                rw [World.cell?_setCell_other _ _ _ _ (fun e => by have := congrArg Addr.block e; simp only [] at this; omega), World.cell?_setCell_other _ _ _ _ (fun e => by have := congrArg Addr.block e; simp only [] at this; omega)]
                exact World.cell?_drew _ _
              clear hr hrq hpp hlt
              go_wp2_with fail
              go_region_held3 (fun W => W.cell? ⟨g, off + r, none⟩ = some (.int .i64 (pp : Int))) (first | (rw [HW9.out, HNX.out]; exact HXX.out) | exact cell_up HXX.out (Below.refl _ _).drew) (first | (go_at_call 30; refine (done_any Bc m _ HCD.out.c3).mono ?_; rintro e w8 ⟨rfl, rfl⟩) | (go_at_call 29; refine (next_yes Bc Ba Bs q k pp m _ HCD.out HNN.out.2.1 HNN.out.2.2.2.2 HPL.out (by have := HLT.out; have := HNN.out.2.1; omega)).mono ?_; rintro e w9 ⟨rfl, hw9⟩; have HW9 := Lib.hid hw9; clear hw9))
              go_wp2_with fail
              have hl := HLE.out
              have h3 := HSZ3.out
              refine ⟨⟨m + 1, by have := HLT.out; omega, by go_num, ?_, ?_, ?_⟩, by have := HLT.out; simp [intOf]; omega⟩
              · rw [HPO.out, HW9.out]; exact HCD.out.step _ _
              · rw [HW9.out]; exact stepW_own (iown_below (B := 0) HO.out (Below.refl _ wr).drew) (by omega) (by omega) _ _
              · rw [HW9.out]; exact stepW_below HBR.out.drew hl.1 hl.2.1 _ _
            · go_wp2_with fail
              go_ret
              exact ⟨rfl, HBR.out⟩
end Go.Proofs.YtifdbjombgcfcaaDoor.stridePlaces
