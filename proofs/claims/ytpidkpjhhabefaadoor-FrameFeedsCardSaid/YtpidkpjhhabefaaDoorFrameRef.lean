/- The walk of the reference's Cut. -/
import Derived.Test.YtpidkpjhhabefaaDoorFrameCutGo
namespace Go.Proofs.YtpidkpjhhabefaaDoor
open Go.RowKit FrameMath
set_option linter.unusedVariables false

/-- What holds at each round. -/
structure RefAt (w0 : World) (l0 : List UInt8) (a : Nat) (v : Value) (fs : List Fr) (w : World) : Prop where
  le : a ≤ l0.length
  frames : Frames w w0.heap.size 52 v fs
  few : 3 * fs.length ≤ a
  below : Below w0.heap.size w0 w
  same : cut (cont fs) (l0.drop a) = cut [] l0
def RefPost (l0 : List UInt8) (w0 : World) (e : Ending) (w' : World) : Prop :=
  ∃ v fs, e = .returned (.tuple #[v, .int .i64 ((cut [] l0).2.1 : Nat), .bool (cut [] l0).2.2]) ∧ Below w0.heap.size w0 w' ∧ Frames w' w0.heap.size 52 v fs ∧ cont fs = (cut [] l0).1
theorem Frames.fresh (base : Nat) (w : World) (e : TypeId) (hb : base ≤ w.heap.size) : Frames (w.alloc (.cells #[] e)) base e (.slice (some ⟨w.heap.size, 0, none⟩) 0 0) [] := by
  refine ⟨⟨rfl, .inr ⟨w.heap.size, 0, #[], rfl, hb, ?_, Nat.le_refl _, by unfold maxLen; omega, rfl, rfl⟩⟩, fun f hf => by simp at hf⟩
  exact heap_alloc_new w (.cells #[] e)

/-- A fresh row of bytes as a body. -/
theorem body_of_own {wr w3 : World} {row : Option Nat} {v3 : Value} {n : Nat} {l : List UInt8} (hown : w3.ownsRow wr.heap.size 5 1 v3 n (l.map u8v)) (hn : n ≤ 1000000) (hrow : ∀ g, row = some g → g < wr.heap.size) :
    ∃ ao c, v3 = (Piece.mk ao n c l).val ∧ BodyOk w3 row ⟨ao, n, c, l⟩ := by
  obtain ⟨ao, c, rfl, hcc, hl, hno, _, _⟩ := own_cells hown
  refine ⟨ao, c, rfl, hl, hn, hno, ?_⟩
  rcases hcc with h | ⟨b', o', e, hx⟩
  · exact .inl h
  · refine .inr ⟨b', o', e, ?_, hx⟩
    intro h
    have h1 := hrow b' h.symm
    have h2 := own_ge hown b' (by rw [show ao = some ⟨b', o', none⟩ from e]; rfl)
    omega
set_option maxRecDepth 1000000 in
set_option maxHeartbeats 8000000 in
theorem refcut_any (ao : Option Addr) (n c : Nat) (l : List UInt8) (w : World) (hn : l.length = n) (hcap : n ≤ c) (htop : c ≤ 9223372036854775807) (hsm : n ≤ 1000000) (hc : Cells w ao l) :
    Calls Tryd.prog 9 #[.slice ao n c] w (RefPost l w) := by
  have HN := Lib.hid hn
  have HC := Lib.hid hc
  have HTOP := Lib.hid htop
  have HF0 := Lib.hid (Frames.fresh w.heap.size w 52 (Nat.le_refl _))
  have HB0 := Lib.hid ((Below.refl w.heap.size w).alloc (Nat.le_refl _) (.cells #[] 52))
  clear hn hc htop
  go_enter Tryd.func9, Tryd.ntmps9
  go_wp2_with fail
  go_loopw [5, 6, 7] (fun v a _ wr => ∃ (k : Nat) (fs : List Fr), a = .int .i64 (k : Int) ∧ RefAt w l k v fs wr) (fun _ a _ _ => n + 1 - (intOf a).toNat)
  case atStart => exact ⟨0, [], rfl, Nat.zero_le _, HF0.out, Nat.le_refl _, HB0.out, by rw [List.drop_zero]; rfl⟩
  case round =>
    obtain ⟨k, fs, rfl, hr⟩ := hrel
    have HR := Lib.hid hr
    clear hr
    have hkn : k ≤ n := by have := HR.out.le; have := HN.out; omega
    have hd : (l.drop k).length = n - k := by rw [List.length_drop, HN.out]
    have HD := Lib.hid hd
    obtain ⟨q, hq⟩ : ∃ q, n - k = q := ⟨_, rfl⟩
    have eQ : (n : Int) - (k : Int) = (q : Int) := by omega
    have HQ := Lib.hid hq
    clear hd hq
    by_cases hA : q < 2
    · have hA' : (q : Int) < 2 := by omega
      have HA := Lib.hid hA
      clear hA
      go_wp2_with fail
      go_ret3
      have hc := cut_short (cont fs) (l.drop k) (by rw [HD.out, HQ.out]; exact HA.out)
      rw [HR.out.same, HD.out, HQ.out] at hc
      refine ⟨_, fs, ?_, HR.out.below, HR.out.frames, ?_⟩
      · rw [hc]; rfl
      · rw [hc]
    · obtain ⟨b, off, rfl, hcells⟩ : ∃ b off, ao = some ⟨b, off, none⟩ ∧ Cells w (some ⟨b, off, none⟩) l := by
        rcases HC.out with h | ⟨b, off, e, h⟩
        · have := HN.out; rw [h] at this; simp at this; omega
        · exact ⟨b, off, e, .inr ⟨b, off, rfl, h⟩⟩
      have hcr := hcells.below HR.out.below rfl
      have HCR := Lib.hid hcr
      have c0 := hcr.at k (by have := HN.out; omega)
      have c1 := hcr.at (k + 1) (by have := HN.out; omega)
      have HT : Hid (two (l.drop k) = (l.getD k 0).toNat * 256 + (l.getD (k + 1) 0).toNat) := Lib.hid (by simp [two, List.getD])
      have HNL : Hid (¬ (l.drop k).length < 2) := Lib.hid (by rw [HD.out, HQ.out]; exact hA)
      have hx := (l.getD k 0).toNat_lt
      have hy := (l.getD (k + 1) 0).toNat_lt
      obtain ⟨x, ex⟩ : ∃ x, (l.getD k 0).toNat = x := ⟨_, rfl⟩
      obtain ⟨y, ey⟩ : ∃ x, (l.getD (k + 1) 0).toNat = x := ⟨_, rfl⟩
      rw [ex] at c0 hx HT
      rw [ey] at c1 hy HT
      obtain ⟨t, et⟩ : ∃ t, x * 256 + y = t := ⟨_, rfl⟩
      rw [et] at HT
      have eT : (x : Int) * 256 + (y : Int) = (t : Int) := by omega
      have i0 : (k : Int) < (n : Int) := by have := HQ.out; omega
      have i1 : (k : Int) + 1 < (n : Int) := by have := HQ.out; omega
      have HA := Lib.hid hA
      have hA' : (2 : Int) ≤ (q : Int) := by omega
      clear hcr hcells ex ey et hA
      by_cases hz : t = 0
      · have HBAD : Hid (two (l.drop k) = 0 ∨ 1200 < two (l.drop k)) := Lib.hid (by rw [HT.out]; exact .inl hz)
        have t3 : ((t : Int) == 0) = true := by rw [beq_iff_eq]; omega
        clear hz
        go_wp2_with fail
        go_quiet (fail)
        go_wp2_with fail
        go_ret3
        have hc := cut_bad (cont fs) (l.drop k) HNL.out HBAD.out
        rw [HR.out.same] at hc
        refine ⟨_, fs, ?_, HR.out.below.trans (drewN_below _ _ _), HR.out.frames.below (drewN_below _ _ _), ?_⟩
        · rw [hc]; rfl
        · rw [hc]
      by_cases hbig : 1200 < t
      · have HBAD : Hid (two (l.drop k) = 0 ∨ 1200 < two (l.drop k)) := Lib.hid (by rw [HT.out]; exact .inr hbig)
        have t3 : ((t : Int) == 0) = false := by rw [beq_eq_false_iff_ne]; omega
        have t2 : (1200 : Int) < (t : Int) := by omega
        clear hz hbig
        go_wp2_with fail
        go_quiet (fail)
        go_wp2_with fail
        go_ret3
        have hc := cut_bad (cont fs) (l.drop k) HNL.out HBAD.out
        rw [HR.out.same] at hc
        refine ⟨_, fs, ?_, HR.out.below.trans (drewN_below _ _ _), HR.out.frames.below (drewN_below _ _ _), ?_⟩
        · rw [hc]; rfl
        · rw [hc]
      have t1 : (1 : Int) ≤ (t : Int) := by omega
      have t2 : (t : Int) ≤ 1200 := by omega
      have t3 : ((t : Int) == 0) = false := by rw [beq_eq_false_iff_ne]; omega
      have HG : Hid (¬ (two (l.drop k) = 0 ∨ 1200 < two (l.drop k))) := Lib.hid (by rw [HT.out]; omega)
      have HT1 : Hid (1 ≤ t ∧ t ≤ 1200) := Lib.hid (by omega)
      clear hz hbig
      by_cases hW : q < 2 + t
      · have hW' : (q : Int) - 2 < (t : Int) := by omega
        have HW := Lib.hid hW
        clear hW
        go_wp2_with fail
        go_quiet (fail)
        go_wp2_with fail
        go_ret3
        have hc := cut_wait (cont fs) (l.drop k) HNL.out HG.out (by rw [HD.out, HQ.out, HT.out]; exact HW.out)
        rw [HR.out.same, HD.out, HQ.out] at hc
        refine ⟨_, fs, ?_, HR.out.below.trans (drewN_below _ _ _), HR.out.frames.below (drewN_below _ _ _), ?_⟩
        · rw [hc]; rfl
        · rw [hc]
      · have hW' : (t : Int) ≤ (q : Int) - 2 := by omega
        have HW := Lib.hid hW
        clear hW
        obtain ⟨j2, hj2⟩ : ∃ j, k + 2 = j := ⟨_, rfl⟩
        obtain ⟨j3, hj3⟩ : ∃ j, k + 3 = j := ⟨_, rfl⟩
        obtain ⟨j5, hj5⟩ : ∃ j, k + 2 + t = j := ⟨_, rfl⟩
        obtain ⟨u, hu⟩ : ∃ u, t - 1 = u := ⟨_, rfl⟩
        have HJ : Hid (k + 2 = j2 ∧ k + 3 = j3 ∧ k + 2 + t = j5 ∧ t - 1 = u ∧ k + q = n) := Lib.hid ⟨hj2, hj3, hj5, hu, by have := HQ.out; omega⟩
        have g2 : (k : Int) + 2 = (j2 : Int) := by omega
        have g3 : (k : Int) + 3 = (j3 : Int) := by omega
        have g5 : (j2 : Int) + (t : Int) = (j5 : Int) := by omega
        have q2 : IntKind.i64.wrap (j2 : Int) = (j2 : Int) := by rw [IntKind.wrap_i64]; omega
        have q3 : IntKind.i64.wrap (j3 : Int) = (j3 : Int) := by rw [IntKind.wrap_i64]; omega
        have q5 : IntKind.i64.wrap (j5 : Int) = (j5 : Int) := by rw [IntKind.wrap_i64]; have := HQ.out; have := HW.out; omega
        have hjn : j5 ≤ n := by have := HQ.out; have := HW.out; omega
        have g6 : j5 - j3 = u := by omega
        have i2 : (j2 : Int) < (n : Int) := by omega
        have i3 : (j3 : Int) ≤ (j5 : Int) := by omega
        have i5 : (j5 : Int) ≤ (c : Int) := by omega
        have hx2 := HCR.out.at j2 (by rw [HN.out]; omega)
        obtain ⟨x2, ex2⟩ : ∃ x, l.getD j2 0 = x := ⟨_, rfl⟩
        rw [ex2] at hx2
        have HEX := Lib.hid ex2
        have eW : IntKind.i64.wrap (x2.toNat : Int) = (x2.toNat : Int) := by have := x2.toNat_lt; rw [IntKind.wrap_i64]; omega
        have hxw := HC.out.at j2 (by rw [HN.out]; omega)
        rw [HEX.out] at hxw
        have hblk := World.block_lt_of_cell? w _ hxw
        have HRX : Hid (∀ W, Below w.heap.size w W → W.cell? ⟨b, off + j2, none⟩ = some (.int .u8 (x2.toNat : Int))) := Lib.hid fun W hb => by rw [hb.cell (p := ⟨b, off + j2, none⟩) hblk]; exact hxw
        clear hxw
        obtain ⟨oB, eB, HBODY⟩ : ∃ oB, (if c = j3 then some (⟨b, off, none⟩ : Addr) else some ⟨b, off + j3, none⟩) = some ⟨b, oB, none⟩ ∧ Hid (∀ W, Cells W (some ⟨b, off, none⟩) l → Cells W (some ⟨b, oB, none⟩) ((l.drop j3).take u)) := by
          by_cases h1 : c = j3
          · refine ⟨off, by rw [if_pos h1], Lib.hid fun W h => ?_⟩
            have : u = 0 := by omega
            rw [this, List.take_zero]
            exact .inl rfl
          · exact ⟨off + j3, by rw [if_neg h1], Lib.hid fun W h => (Cells.drop' h j3).left' u⟩
        have HBL : Hid (((l.drop j3).take u).length = u) := Lib.hid (by have := HN.out; simp; omega)
        clear hj2 hj3 hj5 hu hblk ex2 hjn
        go_wp2_with fail
        go_quiet (fail)
        go_wp2_with fail
        have HB1 := Lib.hid ((drewN_below wr.heap.size wr (nq + 1)).alloc (Nat.le_refl _) (.cells #[] 5))
        have HVB := Lib.hid (frames_block HR.out.frames)
        have HU6 : Hid (u ≤ 1000000) := Lib.hid (by have := HJ.out; have := HT1.out; omega)
        go_region_held3 (fun w' => w'.cell? ⟨b, off + j2, none⟩ = some (.int .u8 (x2.toNat : Int))) (first | exact HRX.out _ HB6.out | exact HRX.out _ (HR.out.below.trans ((HB3.out.alloc HB3.out.size _).mono HR.out.below.size)) | exact HRX.out _ (HR.out.below.trans (HB3.out.mono HR.out.below.size)) | exact HRX.out _ (HR.out.below.trans (HB1.out.mono HR.out.below.size)) | exact HRX.out _ (HR.out.below.trans (drewN_below _ _ _)) | (simpa using hx2)) (first | ((refine step_append_u8 ?_ (.tmp 58) (.tmp 66) ?_ wr.heap.size (.slice (some ⟨wr.heap.size, 0, none⟩) 0 0) 0 [] ?_ ?_ (some ⟨b, oB, none⟩) u (c - j3) ((l.drop j3).take u) ?_ ?_ ?_ ?_ ?_ ?_ ?_; rfl; rfl; rfl; exact own_fresh wr.heap.size (wr.drewN (nq + 1)) (Nat.le_refl _); rfl; exact HBL.out; (intro h; cases h); exact HBODY.out _ (HCR.out.below HB1.out rfl); (have := HU6.out; omega); exact HB1.out.size; intro v3 w3 hown3 hg3; simp only [Nat.zero_add, List.nil_append] at hown3; have HB3 := Lib.hid (HB1.out.grown hg3 HB1.out.size (fun k h => by cases h; exact Nat.le_refl _)); obtain ⟨ao3, c3, rfl, hbok⟩ := body_of_own hown3 HU6.out HVB.out; have HOK3 := Lib.hid hbok; clear hown3 hg3 hbok; dsimp only [Piece.val])) | ((refine step_append_frame frT' ?_ (.tmp 51) (.tmp 69) ?_ w.heap.size u5 fs x2 ⟨ao3, u, c3, (l.drop j3).take u⟩ w3.heap.size ?_ ?_ ?_ ?_ ?_ ?_ ?_ ?_ ?_; rfl; rfl; rfl; rfl; exact (HR.out.frames.below HB3.out).below ((Below.refl w3.heap.size w3).alloc (Nat.le_refl _) _); exact HOK3.out.below ((Below.refl w3.heap.size w3).alloc (Nat.le_refl _) _) rfl; (rw [World.cell?_alloc_mark]; rfl); (rw [World.cell?_alloc_mark]; rfl); (have := HR.out.few; have := HR.out.le; have := HN.out; omega); (exact Nat.le_trans HR.out.below.size (Nat.le_trans HB3.out.size (by simp))); intro v5 w5 hF5 hg5; have HF5 := Lib.hid hF5; have HB5 := Lib.hid ((HR.out.below.trans (HB3.out.mono HR.out.below.size)).alloc (Nat.le_trans HR.out.below.size HB3.out.size) (.cells #[.int .i64 (x2.toNat : Int), .slice ao3 u c3] 52)); have HB6 := Lib.hid (HB5.out.grown hg5 (Nat.le_trans HR.out.below.size (Nat.le_trans HB3.out.size (by simp))) (fun k h => own_ge HR.out.frames.1 k h)); clear hF5 hg5)))
        go_wp2_with fail
        have hj := HJ.out
        have hle : j5 ≤ n := by have := HW.out; omega
        refine ⟨⟨j5, fs ++ [(x2, ⟨ao3, u, c3, (l.drop j3).take u⟩)], by rw [show (k : Int) + (2 + (t : Int)) = (j5 : Int) by omega], ⟨by rw [HN.out]; exact hle, HF5.out, by have := HR.out.few; have := HT1.out; rw [List.length_append]; simp; omega, HB6.out, ?_⟩⟩, by simp [intOf]; omega⟩
        have hcut := cut_on (cont fs) (l.drop k) HNL.out HG.out (by rw [HD.out, HQ.out, HT.out]; exact HW.out)
        rw [HR.out.same, HT.out] at hcut
        rw [hcut]
        have e1 : (l.drop k).getD 2 0 = x2 := by rw [← HEX.out, ← hj.1]; simp [List.getD]
        have e2 : ((l.drop k).drop 3).take (t - 1) = (l.drop j3).take u := by rw [List.drop_drop, hj.2.1, hj.2.2.2.1]
        have e3 : (l.drop k).drop (2 + t) = l.drop j5 := by rw [List.drop_drop, ← hj.2.2.1, Nat.add_assoc]
        rw [e1, e2, e3]
        simp [cont]
end Go.Proofs.YtpidkpjhhabefaaDoor
