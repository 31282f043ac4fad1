/- The walk of the law FrameFeeds. -/
import Derived.Test.YtpidkpjhhabefaaDoorFeedInv
import Derived.Test.YtpidkpjhhabefaaDoorLaid
namespace Go.Proofs.YtpidkpjhhabefaaDoor.frameFeeds
open Go.RowKit FrameMath
set_option linter.unusedVariables false

set_option maxRecDepth 100000 in
theorem sents {w : World} (hL : laidMetH Tryd.prog Rows.frameFeedsRow.laid w) : ∃ adr, Sents w adr := by
  refine sents_of_laid hL (by kernel_rfl) (fun k => [0, 1, 2, 3, 4, 5, 6, 7, 8, 9, 10, 11, 12, 13, 14, 15, 16, 17].getD k 0) ?_ ?_
  · intro i j hi hj h
    have : ∀ i : Fin 18, ∀ j : Fin 18, [0, 1, 2, 3, 4, 5, 6, 7, 8, 9, 10, 11, 12, 13, 14, 15, 16, 17].getD i.1 0 = [0, 1, 2, 3, 4, 5, 6, 7, 8, 9, 10, 11, 12, 13, 14, 15, 16, 17].getD j.1 0 → i.1 = j.1 := by decide
    exact this ⟨i, hi⟩ ⟨j, hj⟩ h
  · intro k hk
    match k, hk with
    | 0, _ => exact ⟨_, _, 1, rfl, by kernel_rfl, by kernel_rfl, rfl⟩
    | 1, _ => exact ⟨_, _, 2, rfl, by kernel_rfl, by kernel_rfl, rfl⟩
    | 2, _ => exact ⟨_, _, 3, rfl, by kernel_rfl, by kernel_rfl, rfl⟩
    | 3, _ => exact ⟨_, _, 0, rfl, by kernel_rfl, by kernel_rfl, rfl⟩
    | 4, _ => exact ⟨_, _, 4, rfl, by kernel_rfl, by kernel_rfl, rfl⟩
    | 5, _ => exact ⟨_, _, 5, rfl, by kernel_rfl, by kernel_rfl, rfl⟩
    | 6, _ => exact ⟨_, _, 6, rfl, by kernel_rfl, by kernel_rfl, rfl⟩
    | 7, _ => exact ⟨_, _, 7, rfl, by kernel_rfl, by kernel_rfl, rfl⟩
    | 8, _ => exact ⟨_, _, 8, rfl, by kernel_rfl, by kernel_rfl, rfl⟩
    | 9, _ => exact ⟨_, _, 9, rfl, by kernel_rfl, by kernel_rfl, rfl⟩
    | 10, _ => exact ⟨_, _, 10, rfl, by kernel_rfl, by kernel_rfl, rfl⟩
    | 11, _ => exact ⟨_, _, 11, rfl, by kernel_rfl, by kernel_rfl, rfl⟩
    | 12, _ => exact ⟨_, _, 12, rfl, by kernel_rfl, by kernel_rfl, rfl⟩
    | 13, _ => exact ⟨_, _, 13, rfl, by kernel_rfl, by kernel_rfl, rfl⟩
    | 14, _ => exact ⟨_, _, 14, rfl, by kernel_rfl, by kernel_rfl, rfl⟩
    | 15, _ => exact ⟨_, _, 15, rfl, by kernel_rfl, by kernel_rfl, rfl⟩
    | 16, _ => exact ⟨_, _, 16, rfl, by kernel_rfl, by kernel_rfl, rfl⟩
    | 17, _ => exact ⟨_, _, 17, rfl, by kernel_rfl, by kernel_rfl, rfl⟩
    | n + 18, h => exact absurd h (by omega)
theorem open0 {H : Type} {enc : TypeId × Value → H} {w : World} {base : Nat} {held : Bool} {r : Reach} {b0 : Nat} {v : Value} {d : DataW H} {ps : List MemPlace} {w0 : World} (hval : Value.okWide Tryd.prog w0 r b0 38 v) (h : DataW.Trod enc Tryd.prog w base (fun _ => true) held 38 v d ps) : IsParts w v := open_parts hval h
/-- What holds at each round. -/
def Rel (w : World) (B n : Nat) (v4 v5 i : Value) (wr : World) : Prop := ∃ (k : Nat) (vw : Value) (A : List UInt8) (fsg : List Fr), k ≤ n ∧ i = .int .i64 (k : Int) ∧ Inv w B k v4 v5 vw A fsg wr
theorem inv_start (w w1 : World) (hb : Below w.heap.size w w1) :
    Inv w w1.heap.size 0 (.slice (some ⟨w1.heap.size + 1, 0, none⟩) 0 0) (.slice (some ⟨w1.heap.size + 1 + 1, 0, none⟩) 0 0) (.slice none 0 0) [] [] (((w1.alloc (.cells #[.slice none 0 0, .bool false, .int .i64 0] 56)).alloc (.cells #[] 5)).alloc (.cells #[] 52)) := by
  have hc : cut [] [] = ([], 0, false) := cut_short [] [] (by decide)
  have hs := hb.size
  have b1 : Below w1.heap.size.succ (w1.alloc (.cells #[.slice none 0 0, .bool false, .int .i64 0] 56)) (((w1.alloc (.cells #[.slice none 0 0, .bool false, .int .i64 0] 56)).alloc (.cells #[] 5)).alloc (.cells #[] 52)) := ((Below.refl _ _).alloc (by simp) _).alloc (by simp) _
  have o1 : ((w1.alloc (.cells #[.slice none 0 0, .bool false, .int .i64 0] 56)).alloc (.cells #[] 5)).ownsRow w.heap.size 5 1 (.slice (some ⟨w1.heap.size + 1, 0, none⟩) 0 0) 0 (([] : List UInt8).map u8v) := by
    have := own_fresh w.heap.size (w1.alloc (.cells #[.slice none 0 0, .bool false, .int .i64 0] 56)) (by simp; omega)
    simpa using this
  have f1 := Frames.fresh w.heap.size ((w1.alloc (.cells #[.slice none 0 0, .bool false, .int .i64 0] 56)).alloc (.cells #[] 5)) 52 (by simp; omega)
  simp only [World.size_alloc] at f1
  refine ⟨Nat.zero_le _, own_below o1 ((Below.refl _ _).alloc (Nat.le_refl _) _) (Nat.le_refl _), ?_, f1, by rw [hc]; rfl, ((hb.alloc hs _).alloc (by simp; omega) _).alloc (by simp; omega) _, ?_, ?_, fun f hf => by simp at hf⟩
  · rw [hc]
    have hw : wt [] = [] := by unfold wt; simp
    rw [hw]
    exact {
      c0 := by rw [b1.cell (p := ⟨w1.heap.size, 0, none⟩) (Nat.lt_succ_self _), World.cell?_alloc_mark]; rfl
      c1 := by rw [b1.cell (p := ⟨w1.heap.size, 1, none⟩) (Nat.lt_succ_self _), World.cell?_alloc_mark]; rfl
      c2 := by rw [b1.cell (p := ⟨w1.heap.size, 2, none⟩) (Nat.lt_succ_self _), World.cell?_alloc_mark]; rfl
      f0 := by rw [b1.frozen (p := ⟨w1.heap.size, 0, none⟩) (Nat.lt_succ_self _), World.frozen?_alloc_new]
      f1 := by rw [b1.frozen (p := ⟨w1.heap.size, 1, none⟩) (Nat.lt_succ_self _), World.frozen?_alloc_new]
      f2 := by rw [b1.frozen (p := ⟨w1.heap.size, 2, none⟩) (Nat.lt_succ_self _), World.frozen?_alloc_new]
      own := World.ownsRow_nil _ _ _ _
      ne := by simp [Value.ownBlock]
      ge := hs }
  · intro g hg
    simp [Value.ownBlock] at hg
    exact ⟨by omega, by simp [Value.ownBlock]⟩
  · intro g hg
    simp [Value.ownBlock] at hg
    exact ⟨by omega, by simp [Value.ownBlock], by simp [Value.ownBlock]; omega⟩

theorem ref_told (ao : Option Addr) (n c : Nat) (l : List UInt8) (fr : List (UInt8 × List UInt8)) (k : Nat) (bad : Bool) (hcut : cut [] l = (fr, k, bad)) (w : World) (hn : l.length = n) (hcap : n ≤ c) (htop : c ≤ 9223372036854775807) (hsz : n ≤ 1000000) (hc : Cells w ao l) :
    Calls Tryd.prog 9 #[.slice ao n c] w fun e w' => ∃ v fs, e = .returned (.tuple #[v, .int .i64 (k : Int), .bool bad]) ∧ Below w.heap.size w w' ∧ Frames w' w.heap.size 52 v fs ∧ cont fs = fr :=
  (refcut_any _ _ _ l w hn hcap htop hsz hc).mono fun e w' ⟨v, fs, he, h1, h2, h3⟩ => ⟨v, fs, by rw [he, hcut], h1, h2, by rw [h3, hcut]⟩
set_option maxRecDepth 100000 in
set_option maxHeartbeats 8000000 in
theorem walk (v0 : Value) (w : World) (h1 : IsParts w v0) (hL : laidMetH Tryd.prog Rows.frameFeedsRow.laid w) :
    Calls Tryd.prog 4 #[v0] w fun e w' => e = .returned (.bool true) ∧ Below w.heap.size w w' := by
  obtain ⟨adr, hS⟩ := sents hL
  obtain ⟨ao, n, c, rfl, hcap, htop, hparts⟩ := h1
  have HS := Lib.hid hS
  have HPA := Lib.hid hparts
  clear hL hS hparts
  by_cases hbig : 30 < n
  · have hbig' : (30 : Int) < (n : Int) := by omega
    go_enter Tryd.func4, Tryd.ntmps4
    go_wp2_with (go_at_call 6; refine (alive12_any adr _ HS.out).mono ?_; rintro e w' ⟨rfl, hb⟩)
    go_ret
    exact ⟨rfl, hb⟩
  have hsm : (n : Int) ≤ 30 := by omega
  have HSM : Hid (n ≤ 30) := Lib.hid (by omega)
  clear hbig hcap htop
  go_enter Tryd.func4, Tryd.ntmps4
  go_wp2_with (first | (go_at_call 6; refine (alive12_any adr _ HS.out).mono ?_; rintro e w1 ⟨rfl, hb1⟩; have HB1 := Lib.hid hb1; clear hb1) | (go_at_call 14; refine (new_any _).mono ?_; rintro e w2 ⟨rfl, rfl⟩))
  go_loopw [4, 5, 28] (fun v4 v5 i wr => Rel w w1.heap.size n v4 v5 i wr) (fun _ _ i _ => n - (intOf i).toNat)
  case atStart => exact ⟨0, _, _, _, Nat.zero_le _, rfl, inv_start w w1 HB1.out⟩
  case round =>
    obtain ⟨k, vw, A, fsg, hk, rfl, hI⟩ := hrel
    have I := Lib.hid hI
    clear hI
    by_cases hlt : k < n
    case neg =>
      obtain rfl : k = n := by omega
      go_wp2_with fail
      go_ret
      exact ⟨rfl, I.out.below⟩
    obtain ⟨b, off, a, m, kc, l, rfl, hcell, h8⟩ := HPA.out k hlt
    have hcr := (I.out.below.cell (p := ⟨b, off + k, none⟩) (World.block_lt_of_cell? w _ hcell)).trans hcell
    have H8 := Lib.hid h8
    have hlt' : (k : Int) < (n : Int) := by omega
    have HLT := Lib.hid hlt
    clear hcell h8 hk hlt
    by_cases hl : 1500 < m
    · have hl' : (1500 : Int) < (m : Int) := by omega
      go_wp2_with fail
      go_ret
      exact ⟨rfl, I.out.below⟩
    have hl' : (m : Int) ≤ 1500 := by omega
    have HM : Hid (m ≤ 1500) := Lib.hid (by omega)
    obtain ⟨a4, c4, hv4, hc4, hl4, hno4, hcap4, htop4⟩ := own_cells I.out.own4
    have hal : A.length ≤ 45000 := by have := I.out.small; have := HSM.out; have := HLT.out; omega
    obtain ⟨⟨fr, left, brk⟩, hcut⟩ : ∃ x, cut [] A = x := ⟨_, rfl⟩
    have HCUT := Lib.hid hcut
    have HRC := Lib.hid (fun w' (hc : Cells w' a4 A) => ref_told a4 A.length c4 A fr left brk hcut w' rfl hcap4 (by unfold maxLen at htop4; omega) (by omega) hc)
    have HST : Hid (∀ W, Below wr.heap.size wr W → StreamAt W w.heap.size w1.heap.size (wt A) vw brk fr.length) := Lib.hid fun W hb => by
      have := (I.out.go hb).str
      rw [hcut] at this
      exact this
    have HC4 := Lib.hid hc4
    have HAL := Lib.hid hal
    have HV4 := Lib.hid hv4
    subst hv4
    clear hcut hc4 hl4 hno4 hcap4 htop4 hal hl
    have HSI : Hid (∀ W, Below wr.heap.size wr W → Sents W adr) := Lib.hid fun W hb => HS.out.below (I.out.below.trans (hb.mono I.out.below.size))
    cases brk
    case true =>
      go_wp2_with (first | (go_at_call 9; (with_reducible refine (HRC.out _ HC4.out).mono ?_); rintro e W1 ⟨v1, fs1, rfl, hb1, _, _⟩; have HB1' := Lib.hid hb1; clear hb1; try dsimp only) | (go_at_call 15; (with_reducible refine (feed_broken adr _ _ _ _ _ _ _ (HSI.out _ HB1'.out) (HST.out _ HB1'.out)).mono ?_); rintro e w' ⟨rfl, d, rfl⟩; have HB2' := Lib.hid (HB1'.out.trans (drewN_below wr.heap.size W1 d)); unfold errV; try dsimp only) | (go_at_call 12; refine (num_sent adr 14 (by decide) _ (HSI.out _ HB2'.out)).mono ?_; rintro e W3 ⟨rfl, hb3⟩; have HB3' := Lib.hid (HB2'.out.trans (hb3.mono HB2'.out.size)); clear hb3; try dsimp only) | (go_at_call 16; (with_reducible refine (broken_any _ _ _ _ _ _ _ (HST.out _ HB3'.out)).mono ?_); rintro e w' ⟨rfl, rfl⟩; try dsimp only))
      exact ⟨⟨k + 1, vw, A, fsg, by have := HLT.out; omega, by go_num, (I.out.go HB3'.out).next⟩, by have := HLT.out; simp [intOf]; omega⟩
    case false =>
      have hwl : (wt A).length ≤ 100000 := by have := HAL.out; unfold wt; rw [List.length_drop]; omega
      have hfr : fr.length ≤ 45000 := by have := cut_len0 A; rw [HCUT.out] at this; have := HAL.out; simp only at *; omega
      have HWL := Lib.hid hwl
      have HFR := Lib.hid hfr
      obtain ⟨⟨fr2, left2, brk2⟩, hcut2⟩ : ∃ x, cut [] (wt A ++ l) = x := ⟨_, rfl⟩
      have HCUT2 := Lib.hid hcut2
      have HCUT3 : Hid (cut [] (A ++ l) = (fr ++ fr2, left2, brk2)) := Lib.hid (by
        rw [cut_feed A l (by rw [HCUT.out])]
        show ((cut [] A).1 ++ (cut [] (wt A ++ l)).1, (cut [] (wt A ++ l)).2.1, (cut [] (wt A ++ l)).2.2) = _
        rw [HCUT.out, hcut2])
      have hfr2 : fr2.length ≤ 100000 := by
        have := cut_len0 (wt A ++ l)
        rw [hcut2] at this
        simp only [List.length_append] at this
        have h3 := H8.out.len
        have h4 := HM.out
        have h5 := HAL.out
        have h6 : (wt A).length ≤ A.length := by unfold wt; rw [List.length_drop]; omega
        omega
      have HFR2 := Lib.hid hfr2
      have hwt2 : (wt (A ++ l)).length = left2 := by
        have h1 := cut_left0 (A ++ l)
        rw [HCUT3.out] at h1
        unfold wt
        rw [List.length_drop, HCUT3.out]
        simp only at h1 ⊢
        omega
      have HWT2 := Lib.hid hwt2
      clear hwl hfr hcut2 hfr2 hwt2
      cases brk2
      · go_wp2_with fail
        go_at_call 9
        refine (HRC.out _ HC4.out).mono ?_
        rintro e W1 ⟨v1, fs1, rfl, hb1, _, _⟩
        have I1 := Lib.hid (I.out.go hb1)
        have HFE := Lib.hid (feed_any adr w W1 w1.heap.size (wt A) l vw fr.length a m kc I1.out.below (fun W hb => HS.out.below hb) HWL.out H8.out.len HM.out H8.out.none (H8.out.cells.below I1.out.below rfl) (fun b' off' e' hne h => by
          have h1 := own_ge I1.out.str.own b' h
          have h2 := H8.out.cells
          rw [e'] at h2
          have h3 : b' < w.heap.size := World.block_lt_of_cell? w _ (h2.at 0 (List.length_pos_iff.2 hne))
          omega) (by have := HFR.out; omega) (HST.out _ hb1))
        clear hb1
        have HFE2 : Hid (Calls Tryd.prog 15 #[.pointer (some ⟨w1.heap.size, 0, none⟩), .slice a m kc] W1 fun e w' => ∃ v fs vw', e = .returned (.tuple #[v, .nilIface]) ∧ Fed adr w W1 w1.heap.size vw (wt A ++ l) (cut [] A).1.length v fs vw' w') := Lib.hid (by
          refine HFE.out.mono ?_
          rintro e w' ⟨v, fs, vw', h1, h2⟩
          rw [HCUT2.out] at h1
          refine ⟨v, fs, vw', h1, ?_⟩
          rw [HCUT.out]
          exact h2)
        go_wp2_with fail
        go_at_call 15
        refine HFE2.out.mono ?_
        rintro e W2 ⟨v2, fs, vw', rfl, hfd⟩
        have FD := Lib.hid hfd
        have HFS : Hid (fs.length = fr2.length) := Lib.hid (by have := congrArg List.length hfd.cont; rw [HCUT2.out] at this; simpa [cont] using this)
        have HFG : Hid (fsg.length = fr.length) := Lib.hid (by have := congrArg List.length I1.out.cont; rw [HCUT.out] at this; simpa [cont] using this)
        clear hfd
        go_wp2_with (first | (at_builtin; refine wpList_append_u8_at rfl (.tmp 61) (.tmp 62) rfl w.heap.size (.slice a4 A.length c4) A.length A rfl (st_own4 I1.out FD.out) a m kc l rfl H8.out.len H8.out.none (H8.out.cells.below FD.out.below rfl) (by have := HAL.out; have := HM.out; omega) FD.out.below.size ?_; intro v4' W3 hown3 hg3 hat3; have HO3 := Lib.hid hown3; have HG3 := Lib.hid hg3; have HA3 := Lib.hid hat3; clear hown3 hg3 hat3) | (go_at_call 11; (with_reducible refine (of_any W1.heap.size v2 fs W3 (st_fr3 I1.out FD.out HG3.out) (by have := HFS.out; have := HFR2.out; omega)).mono ?_); rintro e W4 ⟨v3, rfl, hb4, hF4⟩; have HB4 := Lib.hid hb4; have HF4 := Lib.hid hF4; clear hb4 hF4; try dsimp only) | (at_builtin; refine wpList_append_frames frT' rfl (.tmp 64) (.tmp 66) rfl w.heap.size W3.heap.size u5 v3 fsg fs rfl rfl ((st_got3 I1.out FD.out HG3.out).below HB4.out) HF4.out (st_hap I1.out FD.out HF4.out) (by have := HFS.out; have := HFG.out; have := HFR2.out; have := HFR.out; omega) (by have := FD.out.below.size; have := HG3.out.size; have := HB4.out.size; omega) ?_; intro v5' W5 hgot hg5 hat5; have HG5 := Lib.hid hgot; have HGR := Lib.hid hg5; have HA5 := Lib.hid hat5; clear hgot hg5 hat5))
        have I5 := Lib.hid (st_next (adr := adr) I1.out (by rw [HCUT.out]) (by rw [H8.out.len]; exact HM.out) FD.out HG3.out HA3.out (by rw [List.length_append, H8.out.len]; exact HO3.out) HB4.out HGR.out HA5.out HG5.out)
        obtain ⟨na, hna⟩ : ∃ x, (A ++ l).length = x := ⟨_, rfl⟩
        have ho6 := I5.out.own4
        rw [hna] at ho6
        obtain ⟨a6, c6, hv6, hc6, hl6, hno6, hcap6, htop6⟩ := own_cells ho6
        have hbd6 : (A ++ l).length ≤ 1000000 := by rw [List.length_append, H8.out.len]; have := HAL.out; have := HM.out; omega
        have HR6 := Lib.hid (ref_told a6 na c6 (A ++ l) (fr ++ fr2) left2 _ HCUT3.out _ hna hcap6 (by unfold maxLen at htop6; omega) (by rw [← hna]; exact hbd6) hc6)
        subst hv6
        clear hc6 hl6 hno6 hcap6 htop6 hbd6 ho6 hna
        go_at_call 9
        refine HR6.out.mono ?_
        rintro e W6 ⟨v6, fs6, rfl, hb6, hF6, hcn6⟩
        have I6 := Lib.hid (I5.out.go hb6)
        have HF6 := Lib.hid hF6
        have HSA : Hid (cont (fsg ++ fs) = cont fs6) := Lib.hid (by rw [I5.out.cont, HCUT3.out, hcn6])
        have HN6 : Hid (fs6.length = (fr ++ fr2).length) := Lib.hid (by have := congrArg List.length hcn6; simpa [cont] using this)
        obtain ⟨ao6, cap6, rfl, _⟩ := frames_form hF6
        obtain ⟨nf6, hnf6⟩ : ∃ x, fs6.length = x := ⟨_, rfl⟩
        have HSAME := Lib.hid (same_any w.heap.size W5.heap.size v5' _ (fsg ++ fs) fs6 W6 I6.out.got HF6.out HSA.out (by rw [List.length_append, HFS.out, HFG.out]; have := HFR.out; have := HFR2.out; omega))
        rw [hnf6] at HN6 HSAME ⊢
        clear hb6 hF6 hcn6 hnf6
        have HST6 := Lib.hid (fun d => (I6.out.go (drewN_below W6.heap.size W6 d)).str)
        rw [HCUT3.out] at HST6
        simp only at HST6
        rw [← HN6.out] at HST6
        have HWA : Hid (∀ d, Calls Tryd.prog 17 #[.pointer (some ⟨w1.heap.size, 0, none⟩)] (W6.drewN d) fun e w' => e = .returned (.int .i64 (left2 : Int)) ∧ W6.drewN d = w') := Lib.hid fun d => by
          have := waits_any _ _ _ _ _ _ _ (HST6.out d)
          rwa [HWT2.out] at this
        go_wp2_with (first | (go_at_call 10; (with_reducible refine HSAME.out.mono ?_); rintro e w' ⟨rfl, d7, rfl⟩; try dsimp only) | (go_at_call 17; (with_reducible refine (HWA.out _).mono ?_); rintro e w' ⟨rfl, rfl⟩; try dsimp only) | (go_at_call 16; (with_reducible refine (broken_any _ _ _ _ _ _ _ (HST6.out _)).mono ?_); rintro e w' ⟨rfl, rfl⟩; try dsimp only) | (go_at_call 18; (with_reducible refine (count_any _ _ _ _ _ _ _ (HST6.out _)).mono ?_); rintro e w' ⟨rfl, rfl⟩; try dsimp only) | (go_at_call 12; (first | ((with_reducible refine (num_nil _).mono ?_); rintro e w' ⟨rfl, rfl⟩; have HB9 := Lib.hid (Below.refl (W6.drewN d7).heap.size (W6.drewN d7)); try dsimp only) | (refine (num_sent adr 3 (by decide) _ (HS.out.below (I6.out.go (drewN_below W6.heap.size W6 d7)).below)).mono ?_; rintro e W9 ⟨rfl, hb9⟩; have HB9 := Lib.hid hb9; clear hb9; try dsimp only) | fail)))
        exact ⟨⟨k + 1, vw', A ++ l, fsg ++ fs, by have := HLT.out; omega, by go_num, (I6.out.go (drewN_below W6.heap.size W6 d7)).go HB9.out⟩, by have := HLT.out; simp [intOf]; omega⟩
      · go_wp2_with fail
        go_at_call 9
        refine (HRC.out _ HC4.out).mono ?_
        rintro e W1 ⟨v1, fs1, rfl, hb1, _, _⟩
        have I1 := Lib.hid (I.out.go hb1)
        have HFE := Lib.hid (feed_any adr w W1 w1.heap.size (wt A) l vw fr.length a m kc I1.out.below (fun W hb => HS.out.below hb) HWL.out H8.out.len HM.out H8.out.none (H8.out.cells.below I1.out.below rfl) (fun b' off' e' hne h => by
          have h1 := own_ge I1.out.str.own b' h
          have h2 := H8.out.cells
          rw [e'] at h2
          have h3 : b' < w.heap.size := World.block_lt_of_cell? w _ (h2.at 0 (List.length_pos_iff.2 hne))
          omega) (by have := HFR.out; omega) (HST.out _ hb1))
        clear hb1
        have HFE2 : Hid (Calls Tryd.prog 15 #[.pointer (some ⟨w1.heap.size, 0, none⟩), .slice a m kc] W1 fun e w' => ∃ v fs vw', e = .returned (.tuple #[v, errV adr 3]) ∧ Fed adr w W1 w1.heap.size vw (wt A ++ l) (cut [] A).1.length v fs vw' w') := Lib.hid (by
          refine HFE.out.mono ?_
          rintro e w' ⟨v, fs, vw', h1, h2⟩
          rw [HCUT2.out] at h1
          refine ⟨v, fs, vw', h1, ?_⟩
          rw [HCUT.out]
          exact h2)
        go_wp2_with fail
        go_at_call 15
        refine HFE2.out.mono ?_
        rintro e W2 ⟨v2, fs, vw', rfl, hfd⟩
        have FD := Lib.hid hfd
        have HFS : Hid (fs.length = fr2.length) := Lib.hid (by have := congrArg List.length hfd.cont; rw [HCUT2.out] at this; simpa [cont] using this)
        have HFG : Hid (fsg.length = fr.length) := Lib.hid (by have := congrArg List.length I1.out.cont; rw [HCUT.out] at this; simpa [cont] using this)
        clear hfd
        go_wp2_with (first | (at_builtin; refine wpList_append_u8_at rfl (.tmp 61) (.tmp 62) rfl w.heap.size (.slice a4 A.length c4) A.length A rfl (st_own4 I1.out FD.out) a m kc l rfl H8.out.len H8.out.none (H8.out.cells.below FD.out.below rfl) (by have := HAL.out; have := HM.out; omega) FD.out.below.size ?_; intro v4' W3 hown3 hg3 hat3; have HO3 := Lib.hid hown3; have HG3 := Lib.hid hg3; have HA3 := Lib.hid hat3; clear hown3 hg3 hat3) | (go_at_call 11; (with_reducible refine (of_any W1.heap.size v2 fs W3 (st_fr3 I1.out FD.out HG3.out) (by have := HFS.out; have := HFR2.out; omega)).mono ?_); rintro e W4 ⟨v3, rfl, hb4, hF4⟩; have HB4 := Lib.hid hb4; have HF4 := Lib.hid hF4; clear hb4 hF4; try dsimp only) | (at_builtin; refine wpList_append_frames frT' rfl (.tmp 64) (.tmp 66) rfl w.heap.size W3.heap.size u5 v3 fsg fs rfl rfl ((st_got3 I1.out FD.out HG3.out).below HB4.out) HF4.out (st_hap I1.out FD.out HF4.out) (by have := HFS.out; have := HFG.out; have := HFR2.out; have := HFR.out; omega) (by have := FD.out.below.size; have := HG3.out.size; have := HB4.out.size; omega) ?_; intro v5' W5 hgot hg5 hat5; have HG5 := Lib.hid hgot; have HGR := Lib.hid hg5; have HA5 := Lib.hid hat5; clear hgot hg5 hat5))
        have I5 := Lib.hid (st_next (adr := adr) I1.out (by rw [HCUT.out]) (by rw [H8.out.len]; exact HM.out) FD.out HG3.out HA3.out (by rw [List.length_append, H8.out.len]; exact HO3.out) HB4.out HGR.out HA5.out HG5.out)
        obtain ⟨na, hna⟩ : ∃ x, (A ++ l).length = x := ⟨_, rfl⟩
        have ho6 := I5.out.own4
        rw [hna] at ho6
        obtain ⟨a6, c6, hv6, hc6, hl6, hno6, hcap6, htop6⟩ := own_cells ho6
        have hbd6 : (A ++ l).length ≤ 1000000 := by rw [List.length_append, H8.out.len]; have := HAL.out; have := HM.out; omega
        have HR6 := Lib.hid (ref_told a6 na c6 (A ++ l) (fr ++ fr2) left2 _ HCUT3.out _ hna hcap6 (by unfold maxLen at htop6; omega) (by rw [← hna]; exact hbd6) hc6)
        subst hv6
        clear hc6 hl6 hno6 hcap6 htop6 hbd6 ho6 hna
        go_at_call 9
        refine HR6.out.mono ?_
        rintro e W6 ⟨v6, fs6, rfl, hb6, hF6, hcn6⟩
        have I6 := Lib.hid (I5.out.go hb6)
        have HF6 := Lib.hid hF6
        have HSA : Hid (cont (fsg ++ fs) = cont fs6) := Lib.hid (by rw [I5.out.cont, HCUT3.out, hcn6])
        have HN6 : Hid (fs6.length = (fr ++ fr2).length) := Lib.hid (by have := congrArg List.length hcn6; simpa [cont] using this)
        obtain ⟨ao6, cap6, rfl, _⟩ := frames_form hF6
        obtain ⟨nf6, hnf6⟩ : ∃ x, fs6.length = x := ⟨_, rfl⟩
        have HSAME := Lib.hid (same_any w.heap.size W5.heap.size v5' _ (fsg ++ fs) fs6 W6 I6.out.got HF6.out HSA.out (by rw [List.length_append, HFS.out, HFG.out]; have := HFR.out; have := HFR2.out; omega))
        rw [hnf6] at HN6 HSAME ⊢
        clear hb6 hF6 hcn6 hnf6
        have HST6 := Lib.hid (fun d => (I6.out.go (drewN_below W6.heap.size W6 d)).str)
        rw [HCUT3.out] at HST6
        simp only at HST6
        rw [← HN6.out] at HST6
        have HWA : Hid (∀ d, Calls Tryd.prog 17 #[.pointer (some ⟨w1.heap.size, 0, none⟩)] (W6.drewN d) fun e w' => e = .returned (.int .i64 (left2 : Int)) ∧ W6.drewN d = w') := Lib.hid fun d => by
          have := waits_any _ _ _ _ _ _ _ (HST6.out d)
          rwa [HWT2.out] at this
        go_wp2_with (first | (go_at_call 10; (with_reducible refine HSAME.out.mono ?_); rintro e w' ⟨rfl, d7, rfl⟩; try dsimp only) | (go_at_call 17; (with_reducible refine (HWA.out _).mono ?_); rintro e w' ⟨rfl, rfl⟩; try dsimp only) | (go_at_call 16; (with_reducible refine (broken_any _ _ _ _ _ _ _ (HST6.out _)).mono ?_); rintro e w' ⟨rfl, rfl⟩; try dsimp only) | (go_at_call 18; (with_reducible refine (count_any _ _ _ _ _ _ _ (HST6.out _)).mono ?_); rintro e w' ⟨rfl, rfl⟩; try dsimp only) | (go_at_call 12; (first | ((with_reducible refine (num_nil _).mono ?_); rintro e w' ⟨rfl, rfl⟩; have HB9 := Lib.hid (Below.refl (W6.drewN d7).heap.size (W6.drewN d7)); try dsimp only) | (refine (num_sent adr 3 (by decide) _ (HS.out.below (I6.out.go (drewN_below W6.heap.size W6 d7)).below)).mono ?_; rintro e W9 ⟨rfl, hb9⟩; have HB9 := Lib.hid hb9; clear hb9; try dsimp only) | fail)))
        exact ⟨⟨k + 1, vw', A ++ l, fsg ++ fs, by have := HLT.out; omega, by go_num, (I6.out.go (drewN_below W6.heap.size W6 d7)).go HB9.out⟩, by have := HLT.out; simp [intOf]; omega⟩
end Go.Proofs.YtpidkpjhhabefaaDoor.frameFeeds
