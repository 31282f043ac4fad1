/- The walk of frame.Cut: a label and a goto. -/
import Derived.Test.YtpidkpjhhabefaaDoorFrameCut
namespace Go.Proofs.YtpidkpjhhabefaaDoor
open Go.RowKit FrameMath
set_option linter.unusedVariables false

/-! ### frame.Cut -/
def cont (fs : List Fr) : List (UInt8 × List UInt8) := fs.map fun f => (f.1, f.2.l)
def lenOf : Value → Nat
  | .slice _ n _ => n
  | _ => 0
/-- The body's bytes lie behind a block. -/
def Far (base : Nat) (p : Piece) : Prop := p.l = [] ∨ ∃ b off, p.ao = some ⟨b, off, none⟩ ∧ base ≤ b
theorem far_of {w w3 : World} {p : Piece} {B : Nat} (hB : B ≤ w.heap.size) (h : ∀ row, (∀ g, row = some g → g < w.heap.size) → BodyOk w3 row p) : Far B p := by
  rcases (h none (fun g hg => by cases hg)).2.2.2 with h0 | ⟨b, off, e, _, _⟩
  · exact .inl h0
  · by_cases hb : b < B
    · rcases (h (some b) (fun g hg => by cases hg; omega)).2.2.2 with h0 | ⟨b', off', e', hne, _⟩
      · exact .inl h0
      · rw [e] at e'
        simp at e'
        exact (hne (by rw [e'.1])).elim
    · exact .inr ⟨b, off, e, by omega⟩
/-- What holds at the label. -/
structure CutAt (w0 : World) (l0 : List UInt8) (ao : Option Addr) (n c : Nat) (l : List UInt8) (v : Value) (fs : List Fr) (w : World) : Prop where
  len : l.length = n
  cap : n ≤ c
  top : c ≤ 9223372036854775807
  cells : Cells w ao l
  frames : Frames w w0.heap.size 46 v fs
  few : fs.length + n ≤ 1000000
  below : Below w0.heap.size w0 w
  same : cut (cont fs) l = cut [] l0
  low : ∀ b off, ao = some ⟨b, off, none⟩ → l ≠ [] → b < w0.heap.size
  far : ∀ f ∈ fs, Far w0.heap.size f.2
/-- How the call ends. -/
def CutPost (adr : Nat → Addr) (l0 : List UInt8) (w0 : World) (e : Ending) (w' : World) : Prop :=
  ∃ v fs, e = .returned (.tuple #[v, .int .i64 ((cut [] l0).2.1 : Nat), if (cut [] l0).2.2 = true then errV adr 3 else .nilIface]) ∧ Below w0.heap.size w0 w' ∧ Frames w' w0.heap.size 46 v fs ∧ cont fs = (cut [] l0).1

/-- .. and where the bodies lie. -/
def CutPost2 (adr : Nat → Addr) (l0 : List UInt8) (w0 : World) (e : Ending) (w' : World) : Prop :=
  ∃ v fs, e = .returned (.tuple #[v, .int .i64 ((cut [] l0).2.1 : Nat), if (cut [] l0).2.2 = true then errV adr 3 else .nilIface]) ∧ Below w0.heap.size w0 w' ∧ Frames w' w0.heap.size 46 v fs ∧ cont fs = (cut [] l0).1 ∧ ∀ f ∈ fs, Far w0.heap.size f.2

theorem Cells.drop' {w : World} {b off : Nat} {l : List UInt8} (h : Cells w (some ⟨b, off, none⟩) l) (k : Nat) : Cells w (some ⟨b, off + k, none⟩) (l.drop k) := by
  refine .inr ⟨b, off + k, rfl, fun i hi => ?_⟩
  have h1 := h.at (k + i) (by simp at hi; omega)
  rw [← Nat.add_assoc] at h1
  rw [h1]
  simp [List.getD]
theorem cells_low {w w' : World} {b off B : Nat} {l : List UInt8} (h : Cells w (some ⟨b, off, none⟩) l) (hb : Below B w w') (hB : b < B) : Cells w' (some ⟨b, off, none⟩) l := by
  refine .inr ⟨b, off, rfl, fun i hi => ?_⟩
  rw [hb.cell (p := ⟨b, off + i, none⟩) hB]
  exact h.at i hi
theorem frames_block {w : World} {base : Nat} {e : TypeId} {v : Value} {fs : List Fr} (h : Frames w base e v fs) : ∀ g, v.ownBlock = some g → g < w.heap.size := by
  intro g hg
  rcases h.1.2 with ⟨rfl, _⟩ | ⟨g', cap, cur, rfl, _, hb, _⟩
  · simp [Value.ownBlock] at hg
  · simp [Value.ownBlock] at hg
    subst hg
    exact (Array.getElem?_eq_some_iff.1 hb).1
theorem wp_scope_twice {P : Program} {a : Act} {w : World} {Q : Exit → Act → World → Prop} {c rest : Code} (l : Nat) (J : Act → World → Prop) (μ : Act → World → Nat) (hf : findLabel c l = some (Code.skip.seq rest))
    (pass : ∀ a w, J a w → rest.wp P (Exit.jump l (fun a' w' => J a' w' ∧ μ a' w' < μ a w) Q) a w)
    (first : (∀ a w, J a w → rest.wp P (Exit.jump l J Q) a w) → c.wp P (Exit.jump l J Q) a w) : (Code.scope c).wp P Q a w :=
  wp_scope_jumps l J μ hf (first fun a w h => Code.wp_mono (fun e a' w' h => by
    cases e <;> first | exact h | exact ⟨h.1, h.2.1⟩) (pass a w h)) fun a w h => wp_seq (wp_skip (pass a w h))
set_option maxRecDepth 1000000 in
set_option maxHeartbeats 8000000 in
theorem cut_any2 (adr : Nat → Addr) (ao0 : Option Addr) (n0 c0 : Nat) (l0 : List UInt8) (w0 : World) (hS : Sents w0 adr) (h0 : CutAt w0 l0 ao0 n0 c0 l0 (.slice none 0 0) [] w0) :
    Calls Tryd.prog 8 #[.slice ao0 n0 c0] w0 (CutPost2 adr l0 w0) := by
  have HS := Lib.hid hS
  have H0 := Lib.hid h0
  clear hS h0
  go_enter Tryd.func8, Tryd.ntmps8
  go_wp2_with fail
  refine wp_scope_twice 0 (fun a' w' => ∃ (ao : Option Addr) (n c : Nat) (l : List UInt8) (v : Value) (fs : List Fr) (u1 u6 u7 u8 u9 u10 u11 u12 u13 u14 u15 u16 u17 u18 u19 u20 u21 u22 u23 u24 u25 u26 u27 u28 u29 u30 u31 u32 u33 u34 u35 u36 u37 u38 u39 u40 u41 u42 u43 u44 u45 u46 u47 u48 u49 u50 : Value), a' = { tmps := #[.slice ao n c, u1, .slice none 0 0, .int .i64 0, .nilIface, v, u6, u7, u8, u9, u10, u11, u12, u13, u14, u15, u16, u17, u18, u19, u20, u21, u22, u23, u24, u25, u26, u27, u28, u29, u30, u31, u32, u33, u34, u35, u36, u37, u38, u39, u40, u41, u42, u43, u44, u45, u46, u47, u48, u49, u50], defers := [] } ∧ CutAt w0 l0 ao n c l v fs w') (fun a' _ => lenOf (a'.tmps.getD 0 undef)) rfl ?_ ?_
  · rintro a' w' ⟨ao, n, c, l, v, fs, u1, u6, u7, u8, u9, u10, u11, u12, u13, u14, u15, u16, u17, u18, u19, u20, u21, u22, u23, u24, u25, u26, u27, u28, u29, u30, u31, u32, u33, u34, u35, u36, u37, u38, u39, u40, u41, u42, u43, u44, u45, u46, u47, u48, u49, u50, rfl, hJ⟩
    have HJ := Lib.hid hJ
    clear hJ
    by_cases hA : n < 2
    · have hA' : (n : Int) < 2 := by omega
      go_wp2_with fail
      simp only [Exit.jump]
      go_ret3
      have hc := cut_short (cont fs) l (by rw [HJ.out.len]; exact hA)
      rw [HJ.out.same, HJ.out.len] at hc
      refine ⟨v, fs, ?_, HJ.out.below, HJ.out.frames, ?_, HJ.out.far⟩
      · rw [hc]; rfl
      · rw [hc]
    · obtain ⟨b, off, rfl, hcells⟩ : ∃ b off, ao = some ⟨b, off, none⟩ ∧ Cells w' (some ⟨b, off, none⟩) l := by
        rcases HJ.out.cells with h | ⟨b, off, e, h⟩
        · have := HJ.out.len; rw [h] at this; simp at this; omega
        · exact ⟨b, off, e, .inr ⟨b, off, rfl, h⟩⟩
      have HC := Lib.hid hcells
      have HLOW : Hid (b < w0.heap.size) := Lib.hid (HJ.out.low b off rfl (by intro h; have := HJ.out.len; rw [h] at this; simp at this; omega))
      clear hcells
      have hA' : (2 : Int) ≤ (n : Int) := by omega
      have HN2 : Hid (2 ≤ n) := Lib.hid (by omega)
      have HNL : Hid (¬ l.length < 2) := Lib.hid (by rw [HJ.out.len]; exact hA)
      obtain ⟨t, ht⟩ : ∃ t, two l = t := ⟨_, rfl⟩
      have HT := Lib.hid ht
      have HLG : Hid (∀ w', Cells w' (some ⟨b, off, none⟩) l → Calls Tryd.prog 21 #[.slice (some ⟨b, off, none⟩) n c] w' fun e w'' => e = .returned (.tuple #[.int .i64 (t : Int), .bool (okLen t)]) ∧ ∃ k, w'' = w'.drewN k) := Lib.hid fun w' h => by
        have := long_any b off n c l w' HJ.out.len HN2.out h
        rwa [ht] at this
      clear ht hA
      cases hok : okLen t with
      | false =>
        have HBAD : Hid (two l = 0 ∨ 1200 < two l) := Lib.hid (by rw [HT.out]; simp [okLen] at hok; omega)
        have c3 := (HS.out.below HJ.out.below).cell 3 _ rfl
        go_wp2_with (go_at_call 21; refine (HLG.out _ HC.out).mono ?_; rintro e w2 ⟨rfl, k2, rfl⟩; rw [hok])
        go_quiet (fail)
        go_wp2_with fail
        simp only [Exit.jump]
        go_ret3
        have hc := cut_bad (cont fs) l HNL.out HBAD.out
        rw [HJ.out.same] at hc
        refine ⟨v, fs, ?_, HJ.out.below.trans (drewN_below _ _ _), HJ.out.frames.below (drewN_below _ _ _), ?_, HJ.out.far⟩
        · rw [hc]; rfl
        · rw [hc]
      | true =>
        have hk1 : 1 ≤ t ∧ t ≤ 1200 := by simp [okLen] at hok; exact hok
        have HGOOD : Hid (¬ (two l = 0 ∨ 1200 < two l)) := Lib.hid (by rw [HT.out]; omega)
        have t1 : (1 : Int) ≤ (t : Int) := by omega
        have t2 : (t : Int) ≤ 1200 := by omega
        by_cases hW : n < 2 + t
        · have hW' : (n : Int) < 2 + (t : Int) := by omega
          clear hk1
          go_wp2_with (go_at_call 21; refine (HLG.out _ HC.out).mono ?_; rintro e w2 ⟨rfl, k2, rfl⟩; rw [hok])
          simp only [Exit.jump]
          go_ret3
          have hc := cut_wait (cont fs) l HNL.out HGOOD.out (by rw [HJ.out.len, HT.out]; exact hW)
          rw [HJ.out.same, HJ.out.len] at hc
          refine ⟨v, fs, ?_, HJ.out.below.trans (drewN_below _ _ _), HJ.out.frames.below (drewN_below _ _ _), ?_, HJ.out.far⟩
          · rw [hc]; rfl
          · rw [hc]
        · have hW' : (2 : Int) + (t : Int) ≤ (n : Int) := by omega
          have hcap := HJ.out.cap
          have htop := HJ.out.top
          have s1 : (2 : Int) + (t : Int) ≤ (c : Int) := by omega
          have HW := Lib.hid hW
          clear hk1 hW hcap htop
          have t0 : (0 : Int) < (t : Int) := by omega
          have t0' : 0 < t := by omega
          have e2 : 2 + t - 2 = t := by omega
          obtain ⟨m, hm⟩ : ∃ m, c - 2 = m := ⟨_, rfl⟩
          have HM := Lib.hid hm
          have s2 : (t : Int) ≤ (m : Int) := by omega
          obtain ⟨oB, eB, HBODY⟩ : ∃ oB, (if m = 1 then some (⟨b, off + 2, none⟩ : Addr) else some ⟨b, off + 2 + 1, none⟩) = some ⟨b, oB, none⟩ ∧ Hid (∀ W, Cells W (some ⟨b, off, none⟩) l → Cells W (some ⟨b, oB, none⟩) ((l.drop 3).take (t - 1))) := by
            by_cases h1 : m = 1
            · refine ⟨off + 2, by rw [if_pos h1], Lib.hid fun W h => ?_⟩
              have : t - 1 = 0 := by omega
              rw [this, List.take_zero]
              exact .inl rfl
            · exact ⟨off + 2 + 1, by rw [if_neg h1], Lib.hid fun W h => (Cells.drop' h 3).left' (t - 1)⟩
          obtain ⟨A2, eA2, HA2, HA2n⟩ : ∃ A2, (if c = 2 + t then some (⟨b, off, none⟩ : Addr) else some ⟨b, off + (2 + t), none⟩) = A2 ∧ Hid (∀ W, Cells W (some ⟨b, off, none⟩) l → Cells W A2 (l.drop (2 + t))) ∧ Hid (A2 ≠ none) := by
            by_cases h1 : c = 2 + t
            · refine ⟨_, by rw [if_pos h1], Lib.hid fun W h => ?_, Lib.hid (by simp)⟩
              have := HJ.out.len
              have := HJ.out.cap
              rw [List.drop_eq_nil_of_le (by omega)]
              exact .inl rfl
            · exact ⟨_, by rw [if_neg h1], Lib.hid fun W h => Cells.drop' h (2 + t), Lib.hid (by simp)⟩
          have HBL : Hid (((l.drop 3).take (t - 1)).length = t - 1) := Lib.hid (by have := HJ.out.len; have := HW.out; simp; omega)
          have HBS : Hid (t - 1 ≤ 1000000) := Lib.hid (by omega)
          have hx := HC.out.at 2 (by rw [HJ.out.len]; omega)
          have HX : ∀ k, (w'.drewN k).cell? ⟨b, off + 2, none⟩ = some (.int .u8 ((l.getD 2 0).toNat : Int)) := fun k => by simpa using hx
          obtain ⟨x, ex⟩ : ∃ x, l.getD 2 0 = x := ⟨_, rfl⟩
          rw [ex] at hx HX
          have HEX := Lib.hid ex
          have HRX : Hid (∀ W, Below w0.heap.size w' W → W.cell? ⟨b, off + 2, none⟩ = some (.int .u8 (x.toNat : Int))) := Lib.hid fun W hb => by rw [hb.cell (p := ⟨b, off + 2, none⟩) HLOW.out]; exact hx
          have eW : IntKind.i64.wrap (x.toNat : Int) = (x.toNat : Int) := by have := x.toNat_lt; rw [IntKind.wrap_i64]; omega
          clear hx ex
          go_wp2_with (go_at_call 21; refine (HLG.out _ HC.out).mono ?_; rintro e w2 ⟨rfl, k2, rfl⟩; rw [hok])
          have hx := HX k2
          clear HX
          go_region_held3 (fun w' => w'.cell? ⟨b, off + 2, none⟩ = some (.int .u8 (x.toNat : Int))) (first | exact HRX.out _ HB5.out | exact HRX.out _ (drewN_below _ _ _) | exact HRX.out _ HB3.out | exact HRX.out _ (HB3.out.alloc HS3.out _) | (simpa using hx)) (first | ((go_at_call 22; refine (clone_some b oB (t - 1) (m - 1) ((l.drop 3).take (t - 1)) _ HBL.out HBS.out (HBODY.out _ (HC.out.drewN _))).mono ?_; rintro e w3 ⟨⟨aoP, nP, cP, lP⟩, rfl, hpn, hpl, hb3, hbok⟩; dsimp only [Piece.val] at *; subst hpn; subst hpl; have HFAR := Lib.hid (far_of HJ.out.below.size hbok); have HB3' := Lib.hid hb3; have HB3 := Lib.hid ((drewN_below w0.heap.size w' (k2 + 1)).trans (hb3.mono HJ.out.below.size)); have HS3 := Lib.hid (Nat.le_trans HJ.out.below.size HB3.out.size); have HOK3 := Lib.hid (hbok v.ownBlock (fun g hg => frames_block HJ.out.frames g hg)); clear hb3 hbok)) | ((refine step_append_frame frT ?_ (.tmp 36) (.tmp 45) ?_ w0.heap.size v fs x ⟨aoP, t - 1, cP, (l.drop 3).take (t - 1)⟩ w3.heap.size ?_ ?_ ?_ ?_ ?_ ?_ ?_ ?_ ?_; rfl; rfl; rfl; rfl; exact ((HJ.out.frames.below (drewN_below _ _ (k2 + 1))).below HB3'.out).below ((Below.refl w3.heap.size w3).alloc (Nat.le_refl _) _); exact HOK3.out.below ((Below.refl w3.heap.size w3).alloc (Nat.le_refl _) _) rfl; (rw [World.cell?_alloc_mark]; rfl); (rw [World.cell?_alloc_mark]; rfl); (have := HJ.out.few; omega); (exact Nat.le_trans HS3.out (by simp)); intro v5 w5 hF5 hg5; have HF5 := Lib.hid hF5; have HB5 := Lib.hid ((HB3.out.alloc HS3.out _).grown hg5 (Nat.le_trans HS3.out (by simp)) (fun k h => own_ge HJ.out.frames.1 k h)); clear hF5 hg5)))
          have HNEXT : Hid (∀ A n' c', A = A2 → n' = n - (2 + t) → c' = c - (2 + t) → CutAt w0 l0 A n' c' (l.drop (2 + t)) v5 (fs ++ [(x, ⟨aoP, t - 1, cP, (l.drop 3).take (t - 1)⟩)]) w5 ∧ n' < n) := Lib.hid fun A n' c' hA hn' hc' => by
            subst hA; subst hn'; subst hc'
            refine ⟨⟨by rw [List.length_drop, HJ.out.len], by have := HJ.out.cap; omega, by have := HJ.out.top; omega, HA2.out _ (cells_low HC.out HB5.out HLOW.out), HF5.out, by have := HJ.out.few; have := HW.out; simp; omega, HJ.out.below.trans HB5.out, ?_, ?_, ?_⟩, by have := HW.out; omega⟩
            · have hc := cut_on (cont fs) l HNL.out HGOOD.out (by rw [HJ.out.len, HT.out]; exact HW.out)
              rw [HJ.out.same, HT.out, HEX.out] at hc
              rw [hc]
              simp [cont]
            · intro b' off' h1 h2
              rw [← eA2] at h1
              have : b = b' := by
                split at h1 <;> (simp at h1; exact h1.1)
              rw [← this]; exact HLOW.out
            · intro f hf
              rcases List.mem_append.1 hf with hf | hf
              · exact HJ.out.far f hf
              · simp at hf
                subst hf
                exact HFAR.out
          have HEA := Lib.hid eA2
          clear eA2
          by_cases hc2 : c = 2 + t
          · subst hc2
            go_wp2_with fail
            go_step3
            have hq := HNEXT.out (some ⟨b, off, none⟩) (n - (2 + t)) 0 (by rw [← HEA.out]; simp) rfl (by omega)
            exact ⟨rfl, ⟨_, _, _, _, _, _, _, _, _, _, _, _, _, _, _, _, _, _, _, _, _, _, _, _, _, _, _, _, _, _, _, _, _, _, _, _, _, _, _, _, _, _, _, _, _, _, _, _, _, _, _, _, rfl, hq.1⟩, hq.2⟩
          · go_wp2_with fail
            go_step3
            have hq := HNEXT.out (some ⟨b, off + (2 + t), none⟩) (n - (2 + t)) (c - (2 + t)) (by rw [← HEA.out, if_neg hc2]) rfl rfl
            exact ⟨rfl, ⟨_, _, _, _, _, _, _, _, _, _, _, _, _, _, _, _, _, _, _, _, _, _, _, _, _, _, _, _, _, _, _, _, _, _, _, _, _, _, _, _, _, _, _, _, _, _, _, _, _, _, _, _, rfl, hq.1⟩, hq.2⟩
  · intro hr
    go_wp2_with fail
    go_step3
    rename_i hK
    exact hK _ _ (hr _ _ ⟨_, _, _, _, _, _, _, _, _, _, _, _, _, _, _, _, _, _, _, _, _, _, _, _, _, _, _, _, _, _, _, _, _, _, _, _, _, _, _, _, _, _, _, _, _, _, _, _, _, _, _, _, rfl, H0.out⟩)
theorem cut_any (adr : Nat → Addr) (ao0 : Option Addr) (n0 c0 : Nat) (l0 : List UInt8) (w0 : World) (hS : Sents w0 adr) (h0 : CutAt w0 l0 ao0 n0 c0 l0 (.slice none 0 0) [] w0) :
    Calls Tryd.prog 8 #[.slice ao0 n0 c0] w0 (CutPost adr l0 w0) :=
  (cut_any2 adr ao0 n0 c0 l0 w0 hS h0).mono fun e w' ⟨v, fs, h1, h2, h3, h4, _⟩ => ⟨v, fs, h1, h2, h3, h4⟩
end Go.Proofs.YtpidkpjhhabefaaDoor
