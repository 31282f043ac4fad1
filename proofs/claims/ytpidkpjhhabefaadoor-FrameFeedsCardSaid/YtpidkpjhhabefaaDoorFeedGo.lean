/- The walk of Feed. -/
import Derived.Test.YtpidkpjhhabefaaDoorFeed
import Derived.Deep.DeepCutAuto
namespace Go.Proofs.YtpidkpjhhabefaaDoor
open Go.RowKit FrameMath
set_option linter.unusedVariables false

/-- How a Feed of a stream that is not broken ends. -/
structure Fed (adr : Nat → Addr) (w0 w : World) (B : Nat) (vw : Value) (A : List UInt8) (ct : Nat) (v : Value) (fs : List Fr) (vw' : Value) (w' : World) : Prop where
  frames : Frames w' w.heap.size 46 v fs
  cont : cont fs = (cut [] A).1
  far : ∀ f ∈ fs, Far w.heap.size f.2
  apart : ∀ f ∈ fs, BodyOk w' vw'.ownBlock f.2
  stream : StreamAt w' w0.heap.size B (A.drop (A.length - (cut [] A).2.1)) vw' (cut [] A).2.2 (ct + fs.length)
  fresh : ∀ k, vw'.ownBlock = some k → w.heap.size ≤ k
  off : Off (fun k => k = B ∨ vw.ownBlock = some k) w w'
  below : Below w0.heap.size w0 w'
def FeedPost (adr : Nat → Addr) (w0 w : World) (B : Nat) (vw : Value) (A : List UInt8) (ct : Nat) (e : Ending) (w' : World) : Prop :=
  ∃ v fs vw', e = .returned (.tuple #[v, if (cut [] A).2.2 = true then errV adr 3 else .nilIface]) ∧ Fed adr w0 w B vw A ct v fs vw' w'

set_option maxHeartbeats 4000000 in
theorem feed_broken (adr : Nat → Addr) (w : World) (base B : Nat) (wl : List UInt8) (vw x : Value) (ct : Nat) (S : Sents w adr) (h : StreamAt w base B wl vw true ct) :
    Calls Tryd.prog 15 #[.pointer (some ⟨B, 0, none⟩), x] w fun e w' => e = .returned (.tuple #[.slice none 0 0, errV adr 14]) ∧ ∃ d, w' = w.drewN d := by
  have c1 := h.c1
  have g14 := S.cell 14 _ rfl
  clear h S
  go_enter Tryd.func15, Tryd.ntmps15
  go_wp2_with fail
  go_quiet (fail)
  go_wp2_with fail
  go_ret2
  exact ⟨rfl, _, rfl⟩

/-- A row's frames grow elsewhere. -/
theorem Frames.off {bad : Nat → Prop} {w w' : World} {base : Nat} {e : TypeId} {v : Value} {fs : List Fr} (h : Frames w base e v fs) (ho : Off bad w w') (hv : ∀ k, v.ownBlock = some k → ¬ bad k) (hb : ∀ f ∈ fs, ∀ b off, f.2.ao = some ⟨b, off, none⟩ → f.2.l ≠ [] → ¬ bad b) : Frames w' base e v fs :=
  ⟨own_off h.1 ho hv, fun f hf => by
    obtain ⟨h1, h2, h3, h4⟩ := h.2 f hf
    refine ⟨h1, h2, h3, ?_⟩
    rcases h4 with h4 | ⟨b, off, e, hr, hc⟩
    · exact .inl h4
    · by_cases hl : f.2.l = []
      · exact .inl hl
      · exact .inr ⟨b, off, e, hr, fun i hi => ho.cell (hc i hi) (hb f hf b off e hl)⟩⟩

theorem Far.weaken {a b : Nat} {p : Piece} (h : Far b p) (hab : a ≤ b) : Far a p := by
  rcases h with h | ⟨g, off, e, hg⟩
  · exact .inl h
  · exact .inr ⟨g, off, e, Nat.le_trans hab hg⟩
theorem BodyOk.lt {w : World} {row : Option Nat} {p : Piece} (h : BodyOk w row p) (b off : Nat) (e : p.ao = some ⟨b, off, none⟩) (hl : p.l ≠ []) : b < w.heap.size := by
  rcases h.2.2.2 with h0 | ⟨b', off', e', _, hc⟩
  · exact (hl h0).elim
  · rw [e] at e'
    simp at e'
    rw [e'.1]
    have := World.block_lt_of_cell? w _ (hc 0 (List.length_pos_iff.2 hl))
    exact this

theorem fed_mk {adr : Nat → Addr} {w0 w w2 w3 w4 : World} {B : Nat} {wl A : List UInt8} {vw v v' : Value} {ct : Nat} {fs : List Fr} {left : Nat} {brk : Bool} {fr : List (UInt8 × List UInt8)} (H : StreamAt w w0.heap.size B wl vw false ct) (hb0 : Below w0.heap.size w0 w) (hg2 : w.grownBy w2 vw.ownBlock)
    (hb3 : Below w2.heap.size w2 w3) (hF : Frames w3 w2.heap.size 46 v fs) (hfar : ∀ f ∈ fs, Far w2.heap.size f.2) (hcut : cut [] A = (fr, left, brk)) (hcn : FrameMath.cut [] A = (cont fs, left, brk)) (hb4 : Below w3.heap.size w3 w4) (wt : List UInt8) (hwt : A.drop (A.length - left) = wt) (hown4 : w4.ownsRow w3.heap.size 5 1 v' wt.length (wt.map u8v)) :
    Fed adr w0 w B vw A ct v fs v' (((w4.setCell ⟨B, 0, none⟩ v').setCell ⟨B, 1, none⟩ (.bool brk)).setCell ⟨B, 2, none⟩ (.int .i64 ((ct : Int) + (fs.length : Int)))) := by
  have hB : B < w.heap.size := H.lt
  have s2 := hg2.size
  have s3 := hb3.size
  have s4 := hb4.size
  have o2 : Off (fun k => k = B ∨ vw.ownBlock = some k) w w4 := ((Off.grown hg2 (fun k h => .inr h)).trans (Off.below hb3)).trans (Off.below hb4)
  have o2' : Off (fun k => vw.ownBlock = some k) w w4 := ((Off.grown hg2 (fun k h => h)).trans (Off.below hb3)).trans (Off.below hb4)
  have o5 : ∀ {bad : Nat → Prop}, bad B → Off bad w4 (((w4.setCell ⟨B, 0, none⟩ v').setCell ⟨B, 1, none⟩ (.bool brk)).setCell ⟨B, 2, none⟩ (.int .i64 ((ct : Int) + (fs.length : Int)))) := fun hb => (((Off.refl _ w4).setCell B 0 _ hb).setCell B 1 _ hb).setCell B 2 _ hb
  have d0 := o2'.cell H.c0 H.ne
  have d1 := o2'.cell H.c1 H.ne
  have d2 := o2'.cell H.c2 H.ne
  have e0 : w4.frozen? ⟨B, 0, none⟩ = false := by rw [World.frozen?_of_block (a := ⟨B, 0, none⟩) (o2'.block B hB H.ne)]; exact H.f0
  have e1 : w4.frozen? ⟨B, 1, none⟩ = false := by rw [World.frozen?_of_block (a := ⟨B, 1, none⟩) (o2'.block B hB H.ne)]; exact H.f1
  have e2 : w4.frozen? ⟨B, 2, none⟩ = false := by rw [World.frozen?_of_block (a := ⟨B, 2, none⟩) (o2'.block B hB H.ne)]; exact H.f2
  have hge := own_ge hown4
  have n10 : (⟨B, 1, none⟩ : Addr) ≠ ⟨B, 0, none⟩ := by intro h; cases h
  have n20 : (⟨B, 2, none⟩ : Addr) ≠ ⟨B, 0, none⟩ := by intro h; cases h
  have n21 : (⟨B, 2, none⟩ : Addr) ≠ ⟨B, 1, none⟩ := by intro h; cases h
  have oB : Off (fun k => k = B) w4 (((w4.setCell ⟨B, 0, none⟩ v').setCell ⟨B, 1, none⟩ (.bool brk)).setCell ⟨B, 2, none⟩ (.int .i64 ((ct : Int) + (fs.length : Int)))) := o5 rfl
  have F4 : Frames w4 w2.heap.size 46 v fs := hF.below hb4
  have farB : ∀ f ∈ fs, ∀ b off, f.2.ao = some ⟨b, off, none⟩ → f.2.l ≠ [] → ¬ b = B := fun f hf b off e hl hbB => by
    rcases hfar f hf with h | ⟨b', off', e', hb'⟩
    · exact hl h
    · rw [e] at e'
      have e2 := congrArg (fun o : Option Addr => o.map (·.block)) e'
      simp only [Option.map_some, Option.some.injEq] at e2
      omega
  have F5 := F4.off oB (fun k hk hkB => by have := own_ge F4.1 k hk; omega) farB
  have h1 : (cut [] A).1 = cont fs := by rw [hcn]
  have h2 : (cut [] A).2.1 = left := by rw [hcut]
  have h3 : (cut [] A).2.2 = brk := by rw [hcut]
  refine ⟨⟨own_weaken' F5.1 s2, F5.2⟩, h1.symm, fun f hf => (hfar f hf).weaken s2, ?_, ?_, fun k hk => by have := hge k hk; omega, o2.trans (o5 (.inl rfl)), ?_⟩
  · intro f hf
    obtain ⟨b1, b2, b3, b4⟩ := F5.2 f hf
    refine ⟨b1, b2, b3, ?_⟩
    rcases b4 with b4 | ⟨b, off, e, hr, hc⟩
    · exact .inl b4
    · by_cases hl : f.2.l = []
      · exact .inl hl
      · refine .inr ⟨b, off, e, ?_, hc⟩
        intro hh
        have := hge b hh.symm
        have := (hF.2 f hf).lt b off e hl
        omega
  · rw [h2, h3, hwt]
    exact {
      c0 := by
        rw [World.cell?_setCell_other _ _ _ _ n20, World.cell?_setCell_other _ _ _ _ n10]
        exact World.cell?_setCell_same _ _ _ d0
      c1 := by
        rw [World.cell?_setCell_other _ _ _ _ n21]
        exact World.cell?_setCell_same _ _ _ (u := .bool false) (by rw [World.cell?_setCell_other _ _ _ _ (fun h => n10 h.symm)]; exact d1)
      c2 := by
        rw [show (((ct + fs.length : Nat) : Int)) = (ct : Int) + (fs.length : Int) by omega]
        exact World.cell?_setCell_same _ _ _ (u := .int .i64 (ct : Int)) (by rw [World.cell?_setCell_other _ _ _ _ (fun h => n21 h.symm), World.cell?_setCell_other _ _ _ _ (fun h => n20 h.symm)]; exact d2)
      f0 := by rw [World.frozen?_setCell, World.frozen?_setCell, World.frozen?_setCell]; exact e0
      f1 := by rw [World.frozen?_setCell, World.frozen?_setCell, World.frozen?_setCell]; exact e1
      f2 := by rw [World.frozen?_setCell, World.frozen?_setCell, World.frozen?_setCell]; exact e2
      own := own_weaken' (own_off hown4 oB (fun k hk hkB => by have := hge k hk; omega)) (by have := hb0.size; omega)
      ne := fun hh => by have := hge B hh; omega
      ge := H.ge }
  · have q2 : Below w0.heap.size w0 w2 := hb0.grown hg2 hb0.size (fun k hk => own_ge H.own k hk)
    have q4 := (q2.trans (hb3.mono q2.size)).trans (hb4.mono (by have := q2.size; omega))
    exact ((q4.setCell (p := ⟨B, 0, none⟩) H.ge _).setCell (p := ⟨B, 1, none⟩) H.ge _).setCell (p := ⟨B, 2, none⟩) H.ge _

set_option maxRecDepth 100000 in
set_option maxHeartbeats 8000000 in
theorem feed_any (adr : Nat → Addr) (w0 w : World) (B : Nat) (wl lb : List UInt8) (vw : Value) (ct : Nat) (ao : Option Addr) (n c : Nat) (hb0 : Below w0.heap.size w0 w) (HSS : ∀ W, Below w0.heap.size w0 W → Sents W adr)
    (hw : wl.length ≤ 100000) (hlb : lb.length = n) (hn : n ≤ 1500) (hnone : ao = none → n = 0 ∧ c = 0) (hC : Cells w ao lb) (hao : ∀ b off, ao = some ⟨b, off, none⟩ → lb ≠ [] → vw.ownBlock ≠ some b) (hct : ct ≤ 1000000) (h : StreamAt w w0.heap.size B wl vw false ct) :
    Calls Tryd.prog 15 #[.pointer (some ⟨B, 0, none⟩), .slice ao n c] w (FeedPost adr w0 w B vw (wl ++ lb) ct) := by
  have c0 := h.c0
  have c1 := h.c1
  have H := Lib.hid h
  have HLB := Lib.hid hlb
  have HC := Lib.hid hC
  have HNO := Lib.hid hnone
  have HB0 := Lib.hid hb0
  have HS := Lib.hid HSS
  have HW := Lib.hid hw
  have HN := Lib.hid hn
  clear h hlb hC hnone hb0 HSS hao hw hn
  go_enter Tryd.func15, Tryd.ntmps15
  go_upto_region 4 with (at_builtin; refine wpList_append_u8 rfl (.tmp 18) (.tmp 19) rfl w0.heap.size vw wl.length wl rfl H.out.own ao n c lb rfl HLB.out HNO.out HC.out (by have := HW.out; have := HN.out; omega) HB0.out.size ?_; intro v2 w2 hown2 hg2; have HO2 := Lib.hid hown2; have HG2 := Lib.hid hg2; clear hown2 hg2)
  obtain ⟨m, hm⟩ : ∃ m, wl.length + n = m := ⟨_, rfl⟩
  obtain ⟨A, hA⟩ : ∃ A, wl ++ lb = A := ⟨_, rfl⟩
  have HAL : Hid (A.length = m) := Lib.hid (by rw [← hA, List.length_append, HLB.out]; exact hm)
  rw [hm, hA] at HO2
  have HA := Lib.hid hA
  have hmb : m ≤ 101500 := by have := HW.out; have := HN.out; omega
  have HMB := Lib.hid hmb
  have HBw2 := Lib.hid (HB0.out.grown HG2.out HB0.out.size (fun k hk => own_ge H.out.own k hk))
  have HS2 := Lib.hid (HS.out _ HBw2.out)
  obtain ⟨ao2, c2, hv2, hc2, hl2, hno2, hcap2, htop2⟩ := own_cells HO2.out
  have HCUT := Lib.hid (cut_any2 adr ao2 m c2 A w2 HS2.out (CutAt.start hl2 hcap2 (by unfold maxLen at htop2; omega) (by omega) hc2))
  obtain ⟨⟨fr, left, brk⟩, hcut⟩ : ∃ x, cut [] A = x := ⟨_, rfl⟩
  have HCT := Lib.hid hcut
  have hleft : left ≤ m := by have := cut_left0 A; rw [hcut, HAL.out] at this; exact this
  have hfrl : fr.length ≤ 200000 := by have := cut_len0 A; rw [hcut, HAL.out] at this; simp only at this; omega
  have HCU : Hid (Calls Tryd.prog 8 #[.slice ao2 m c2] w2 fun e w' => ∃ (v : Value) (fs : List Fr), e = .returned (.tuple #[v, .int .i64 (left : Int), if brk = true then errV adr 3 else .nilIface]) ∧ Below w2.heap.size w2 w' ∧ Frames w' w2.heap.size 46 v fs ∧ cont fs = fr ∧ ∀ f ∈ fs, Far w2.heap.size f.2) := Lib.hid (by
    refine HCUT.out.mono ?_
    rintro e w' ⟨v, fs, h1, h2, h3, h4, h5⟩
    rw [hcut] at h1 h4
    exact ⟨v, fs, h1, h2, h3, h4, h5⟩)
  obtain ⟨j, hj⟩ : ∃ j, m - left = j := ⟨_, rfl⟩
  have hji : (m : Int) - (left : Int) = (j : Int) := by omega
  have HJ := Lib.hid hj
  have HLF := Lib.hid hleft
  have HFL := Lib.hid hfrl
  have HC2 := Lib.hid hc2
  have HCP := Lib.hid hcap2
  have HNN := Lib.hid hno2
  have HWT : Hid ((A.drop j).length = left) := Lib.hid (by rw [List.length_drop, HAL.out]; omega)
  have HCI : Hid (∀ fs : List Fr, cont fs = fr → cut [] A = (cont fs, left, brk)) := Lib.hid fun fs h => by rw [h]; exact hcut
  have HLN : Hid (∀ fs : List Fr, cont fs = fr → fs.length ≤ 200000) := Lib.hid fun fs h => by have := congrArg List.length h; simp [cont] at this; omega
  have hjm : (j : Int) ≤ (m : Int) := by omega
  have hjb : (j : Int) ≤ 101500 := by omega
  have hjc : (j : Int) ≤ (c2 : Int) := by omega
  have h0ct : (0 : Int) ≤ (ct : Int) := by omega
  have hct' : (ct : Int) ≤ 1000000 := by omega
  subst hv2
  clear hcut hj hleft hfrl hc2 hl2 hno2 hcap2 htop2 hA hm HCUT hct hmb
  go_upto_region 5 with (go_at_call 8; (with_reducible refine HCU.out.mono ?_); rintro e w3 ⟨v3, fs, rfl, hb3, hF3, hcn3, hfar3⟩; have HB3 := Lib.hid hb3; have HF3 := Lib.hid hF3; have HCN := Lib.hid hcn3; have HFA := Lib.hid hfar3; clear hb3 hF3 hcn3 hfar3; try dsimp only)
  obtain ⟨ao3, cap3, rfl, hcap3, htop3, hnil3, hcell3⟩ := frames_form HF3.out
  obtain ⟨nf, hnf⟩ : ∃ k, fs.length = k := ⟨_, rfl⟩
  rw [hnf]
  have hnf2 : nf ≤ 200000 := by rw [← hnf]; exact HLN.out fs HCN.out
  have hnf' : (nf : Int) ≤ 200000 := by omega
  have HNF := Lib.hid hnf
  clear hcap3 htop3 hnil3 hcell3 hnf hnf2
  have hw1 : IntKind.i64.wrap ((ct : Int) + (nf : Int)) = (ct : Int) + (nf : Int) := by rw [IntKind.wrap_i64]; omega
  have HBB : Hid (∀ w4, Below w3.heap.size w3 w4 → (w4.cell? ⟨B, 0, none⟩ = some vw ∧ w4.cell? ⟨B, 1, none⟩ = some (.bool false) ∧ w4.cell? ⟨B, 2, none⟩ = some (.int .i64 (ct : Int))) ∧ w4.frozen? ⟨B, 0, none⟩ = false ∧ w4.frozen? ⟨B, 1, none⟩ = false ∧ w4.frozen? ⟨B, 2, none⟩ = false) := Lib.hid fun w4 hb4 => by
    have o2' : Off (fun k => vw.ownBlock = some k) w w4 := ((Off.grown HG2.out (fun k h => h)).trans (Off.below HB3.out)).trans (Off.below hb4)
    have hB := H.out.lt
    exact ⟨⟨o2'.cell H.out.c0 H.out.ne, o2'.cell H.out.c1 H.out.ne, o2'.cell H.out.c2 H.out.ne⟩, by rw [World.frozen?_of_block (a := ⟨B, 0, none⟩) (o2'.block B hB H.out.ne)]; exact H.out.f0, by rw [World.frozen?_of_block (a := ⟨B, 1, none⟩) (o2'.block B hB H.out.ne)]; exact H.out.f1, by rw [World.frozen?_of_block (a := ⟨B, 2, none⟩) (o2'.block B hB H.out.ne)]; exact H.out.f2⟩
  rcases HO2.out.2 with ⟨hvn, hm0⟩ | ⟨g, cc, cur, hvs, _⟩
  · -- nothing at all
    simp only [Value.slice.injEq] at hvn
    obtain ⟨rfl, hmz, rfl⟩ := hvn
    subst hmz
    have hj0 : j = 0 := by have := HJ.out; omega
    subst hj0
    have hl0 : left = 0 := by have := HLF.out; omega
    subst hl0
    obtain ⟨⟨q0, q1, q2⟩, r0, r1, r2⟩ := HBB.out w3 (Below.refl _ _)
    have HFIN := Lib.hid (fun (b2 : Bool) (hb2 : brk = b2) => fed_mk (adr := adr) (v' := .slice none 0 0) H.out HB0.out HG2.out HB3.out HF3.out HFA.out (hb2 ▸ HCT.out) (hb2 ▸ HCI.out fs HCN.out) (Below.refl _ w3) [] (by rw [List.drop_eq_nil_of_le (by rw [HAL.out]; omega)]) (World.ownsRow_nil _ _ _ _))
    rw [HNF.out] at HFIN
    cases brk
    all_goals
      have HFN := Lib.hid (HFIN.out _ rfl)
      unfold errV at *
      go_wp2_with (go_at_call 22; (with_reducible refine (clone_nil _).mono ?_); rintro e w4 ⟨rfl, rfl⟩; try dsimp only)
      go_ret2
      rw [HA.out]
      exact ⟨_, fs, _, by rw [HCT.out]; rfl, HFN.out⟩
  · simp only [Value.slice.injEq] at hvs
    obtain ⟨rfl, _, rfl⟩ := hvs
    have hmj : m - j = left := by have := HJ.out; have := HLF.out; omega
    have HFIN := Lib.hid (fun (b2 : Bool) (hb2 : brk = b2) (w4 : World) (hb4 : Below w3.heap.size w3 w4) (v' : Value) (hown : w4.ownsRow w3.heap.size 5 1 v' left ((A.drop j).map u8v)) => fed_mk (adr := adr) (v' := v') H.out HB0.out HG2.out HB3.out HF3.out HFA.out (hb2 ▸ HCT.out) (hb2 ▸ HCI.out fs HCN.out) hb4 (A.drop j) (by rw [HAL.out, HJ.out]) (by rw [HWT.out]; exact hown))
    rw [HNF.out] at HFIN
    by_cases hcj : c2 = j
    · subst hcj
      have HCL := Lib.hid (clone_own g 0 left 0 (A.drop c2) w3 HWT.out (by have := HMB.out; omega) (by
        have h0 : left = 0 := by have := HJ.out; have := HCP.out; have := HLF.out; omega
        rw [List.eq_nil_of_length_eq_zero (HWT.out.trans h0)]; exact .inl rfl))
      cases brk
      all_goals
        have HFN := Lib.hid (HFIN.out _ rfl)
        unfold errV at *
        go_wp2_with (go_at_call 22; (with_reducible refine HCL.out.mono ?_); rintro e w4 ⟨v4, rfl, hb4, ho4⟩; obtain ⟨⟨q0, q1, q2⟩, r0, r1, r2⟩ := HBB.out w4 hb4; have HB4 := Lib.hid hb4; have HO4 := Lib.hid ho4; obtain ⟨ao4, cap4, rfl, _⟩ := own_cells ho4; clear hb4 ho4; try dsimp only)
        go_ret2
        rw [HA.out]
        exact ⟨_, fs, _, by rw [HCT.out]; rfl, HFN.out _ HB4.out _ HO4.out⟩
    · have HCL := Lib.hid (clone_own g j left (c2 - j) (A.drop j) w3 HWT.out (by have := HMB.out; omega) (by
        have := (HC2.out.below HB3.out rfl).drop' j
        rwa [Nat.zero_add] at this))
      cases brk
      all_goals
        have HFN := Lib.hid (HFIN.out _ rfl)
        unfold errV at *
        go_wp2_with (go_at_call 22; (with_reducible refine HCL.out.mono ?_); rintro e w4 ⟨v4, rfl, hb4, ho4⟩; obtain ⟨⟨q0, q1, q2⟩, r0, r1, r2⟩ := HBB.out w4 hb4; have HB4 := Lib.hid hb4; have HO4 := Lib.hid ho4; obtain ⟨ao4, cap4, rfl, _⟩ := own_cells ho4; clear hb4 ho4; try dsimp only)
        go_ret2
        rw [HA.out]
        exact ⟨_, fs, _, by rw [HCT.out]; rfl, HFN.out _ HB4.out _ HO4.out⟩
end Go.Proofs.YtpidkpjhhabefaaDoor
