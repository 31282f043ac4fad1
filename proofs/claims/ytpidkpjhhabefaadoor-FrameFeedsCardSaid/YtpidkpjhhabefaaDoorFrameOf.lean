/- The walks of the law's 'of', the reference's Same, and the chapter's example. -/
import Derived.Test.YtpidkpjhhabefaaDoorFrameRef
namespace Go.Proofs.YtpidkpjhhabefaaDoor
open Go.RowKit FrameMath
set_option linter.unusedVariables false

/-- A row of frames as a value, and its cells. -/
theorem frames_form {w : World} {base : Nat} {e : TypeId} {v : Value} {fs : List Fr} (H : Frames w base e v fs) :
    ∃ ao cap, v = .slice ao fs.length cap ∧ fs.length ≤ cap ∧ cap ≤ maxLen ∧ (ao = none → fs = []) ∧ ∀ k (h : k < fs.length), ∃ g, ao = some ⟨g, 0, none⟩ ∧ w.cell? ⟨g, k * 2, none⟩ = some (.int .i64 (fs[k].1.toNat : Int)) ∧ w.cell? ⟨g, k * 2 + 1, none⟩ = some fs[k].2.val := by
  have h1 := H.1
  rcases h1.2 with ⟨rfl, h0⟩ | ⟨g, cap, cur, rfl, hg, hb, hn, hm, hr⟩
  · have hf : fs = [] := List.eq_nil_of_length_eq_zero h0
    subst hf
    exact ⟨none, 0, rfl, Nat.le_refl _, Nat.zero_le _, fun _ => rfl, fun k h => by simp at h⟩
  · refine ⟨_, cap, rfl, hn, hm, fun h => by (cases h), fun k h => ⟨g, rfl, ?_, ?_⟩⟩
    · have := h1.cells (g := g) rfl (2 * k) _ (frCells_get fs k h).1
      rw [Addr.add_lit, Nat.zero_add, Nat.mul_comm] at this
      exact this
    · have := h1.cells (g := g) rfl (2 * k + 1) _ (frCells_get fs k h).2
      rw [Addr.add_lit, Nat.zero_add, Nat.mul_comm] at this
      exact this
/-- A body keeps to itself where another row grows beyond it. -/
theorem BodyOk.apart {w wr : World} {row row' : Option Nat} {p : Piece} (h : BodyOk w row p) (hb : Below w.heap.size w wr) (hr : ∀ g, row' = some g → w.heap.size ≤ g) : BodyOk wr row' p := by
  obtain ⟨h1, h2, h3, h4⟩ := h.below hb rfl
  refine ⟨h1, h2, h3, ?_⟩
  rcases h4 with h4 | ⟨b, off, e, _, hc⟩
  · exact .inl h4
  · by_cases hl : p.l = []
    · exact .inl hl
    · refine .inr ⟨b, off, e, ?_, hc⟩
      intro hh
      have h5 := hr b hh.symm
      rcases h.2.2.2 with h6 | ⟨b2, off2, e2, _, hc2⟩
      · exact hl h6
      · rw [e] at e2
        simp at e2
        obtain ⟨rfl, rfl⟩ := e2
        have := World.block_lt_of_cell? w _ (hc2 0 (by cases hp : p.l with
          | nil => exact (hl hp).elim
          | cons _ _ => simp))
        have h7 : b < w.heap.size := this
        omega
theorem own_ge2 {w : World} {base e size n : Nat} {v : Value} {xs : List Value} (h : w.ownsRow base e size v n xs) : ∀ g, v.ownBlock = some g → base ≤ g := own_ge h
theorem take_snoc' {α : Type} (l : List α) (k : Nat) (h : k < l.length) : l.take (k + 1) = l.take k ++ [l[k]] := by
  rw [List.take_succ_eq_append_getElem h]

theorem cell_two (w : World) (A B : Array Value) (t t' : TypeId) (i : Nat) : ((w.alloc (.cells A t)).alloc (.cells B t')).cell? ⟨w.heap.size + 1, i, none⟩ = B[i]? := by
  have h := World.cell?_alloc_mark (w.alloc (.cells A t)) B t'
  rw [World.size_alloc] at h
  exact h (0, 0) i
def OfPost (fs : List Fr) (w : World) (e : Ending) (w' : World) : Prop := ∃ v, e = .returned v ∧ Below w.heap.size w w' ∧ Frames w' w.heap.size 52 v fs
set_option maxRecDepth 100000 in
set_option maxHeartbeats 4000000 in
theorem of_any (base : Nat) (v : Value) (fs : List Fr) (w : World) (H : Frames w base 46 v fs) (hsz : fs.length ≤ 1000000) :
    Calls Tryd.prog 11 #[v] w (OfPost fs w) := by
  obtain ⟨ao, cap, rfl, hcap, htop, hnil, hcells⟩ := frames_form H
  have HH := Lib.hid H
  have HCELL := Lib.hid hcells
  have HF0 := Lib.hid (Frames.fresh w.heap.size w 52 (Nat.le_refl _))
  have HB0 := Lib.hid ((Below.refl w.heap.size w).alloc (Nat.le_refl _) (.cells #[] 52))
  obtain ⟨len, hlen⟩ : ∃ n, fs.length = n := ⟨_, rfl⟩
  have HLEN := Lib.hid hlen
  rw [hlen] at hsz hcap ⊢
  unfold maxLen at htop
  clear H hcells hnil hlen
  go_enter Tryd.func11, Tryd.ntmps11
  go_wp2_with fail
  go_loopw [3, 9] (fun v i wr => ∃ k : Nat, k ≤ len ∧ i = .int .i64 (k : Int) ∧ Frames wr w.heap.size 52 v (fs.take k) ∧ Below w.heap.size w wr) (fun _ i _ => len - (intOf i).toNat)
  case atStart => exact ⟨0, Nat.zero_le _, rfl, HF0.out, HB0.out⟩
  case round =>
    obtain ⟨k, hk, rfl, hF, hB⟩ := hrel
    have HF := Lib.hid hF
    have HB := Lib.hid hB
    clear hF hB
    by_cases hlt : k < len
    · obtain ⟨g, rfl, c0, c1⟩ := HCELL.out k (by rw [HLEN.out]; exact hlt)
      have c0' := (HB.out.cell (p := ⟨g, k * 2, none⟩) (World.block_lt_of_cell? w _ c0)).trans c0
      have c1' := (HB.out.cell (p := ⟨g, k * 2 + 1, none⟩) (World.block_lt_of_cell? w _ c1)).trans c1
      have hlt' : (k : Int) < (len : Int) := by omega
      have hg : k < fs.length := by rw [HLEN.out]; exact hlt
      have HS := Lib.hid (take_snoc' fs k hg)
      have HP := Lib.hid (HH.out.2 fs[k] (List.getElem_mem _))
      obtain ⟨f, hf⟩ : ∃ f, fs[k] = f := ⟨_, rfl⟩
      rw [hf] at HS HP c0' c1'
      obtain ⟨kd, ao2, n2, cp2, l2⟩ := f
      dsimp only [Piece.val] at c0' c1'
      have HTK : Hid ((fs.take k).length ≤ 1000000) := Lib.hid (by rw [List.length_take]; omega)
      have HPB : Hid (∀ W row', Below w.heap.size w W → (∀ g, row' = some g → w.heap.size ≤ g) → BodyOk W row' ⟨ao2, n2, cp2, l2⟩) := Lib.hid fun W row' hb hr => HP.out.apart hb hr
      have HBn : Hid (Below wr.heap.size wr ((wr.alloc (.cells #[.int .i64 (kd.toNat : Int), .slice ao2 n2 cp2] 46)).alloc (.cells #[.int .i64 (kd.toNat : Int), .slice ao2 n2 cp2] 52))) := Lib.hid (((Below.refl _ wr).alloc (Nat.le_refl _) _).alloc (by simp) _)
      clear c0 c1 hf hg
      go_wp2_with (at_builtin; refine wpList_append_frame frT' rfl (.tmp 13) (.tmp 19) rfl w.heap.size u3 (fs.take k) kd ⟨ao2, n2, cp2, l2⟩ (wr.heap.size + 1) (by rfl) (by rfl) (HF.out.below HBn.out) (HPB.out _ _ (HB.out.trans (HBn.out.mono HB.out.size)) (fun g hg => own_ge HF.out.1 g hg)) (by rw [cell_two]; rfl) (by rw [cell_two]; rfl) HTK.out (Nat.le_trans HB.out.size HBn.out.size) ?_; intro v5 w5 hF5 hg5; have HF5 := Lib.hid hF5; have HB5 := Lib.hid ((HB.out.trans (HBn.out.mono HB.out.size)).grown hg5 (Nat.le_trans HB.out.size HBn.out.size) (fun k h => own_ge HF.out.1 k h)); clear hF5 hg5)
      exact ⟨⟨k + 1, by omega, by go_num, by rw [HS.out]; exact HF5.out, HB5.out⟩, by simp [intOf]; omega⟩
    · obtain rfl : k = len := by omega
      go_wp2_with fail
      go_ret
      refine ⟨_, rfl, HB.out, ?_⟩
      have := HF.out
      rw [← HLEN.out, List.take_length] at this
      exact this
/-! ### Same -/
set_option maxRecDepth 100000 in
set_option maxHeartbeats 4000000 in
theorem same_any (ba bb : Nat) (va vb : Value) (fa fb : List Fr) (w : World) (HA : Frames w ba 52 va fa) (HB : Frames w bb 52 vb fb) (he : cont fa = cont fb) (hsz : fa.length ≤ 1000000) :
    Calls Tryd.prog 10 #[va, vb] w fun e w' => e = .returned (.bool true) ∧ ∃ k, w' = w.drewN k := by
  obtain ⟨ao, ca, rfl, hcapa, htopa, _, hca⟩ := frames_form HA
  obtain ⟨bo, cb, rfl, hcapb, htopb, _, hcb⟩ := frames_form HB
  have hl : fb.length = fa.length := by have := congrArg List.length he; simpa [cont] using this.symm
  have HCA := Lib.hid hca
  have HCB := Lib.hid hcb
  have HE : Hid (∀ k (h : k < fa.length) (h' : k < fb.length), fa[k].1 = fb[k].1 ∧ fa[k].2.l = fb[k].2.l) := Lib.hid fun k h h' => by
    have h1 : (cont fa)[k]? = (cont fb)[k]? := by rw [he]
    simpa [cont, List.getElem?_map, List.getElem?_eq_getElem h, List.getElem?_eq_getElem h'] using h1
  have HOA : Hid (∀ k (h : k < fa.length), ∃ row, BodyOk w row fa[k].2) := Lib.hid fun k h => ⟨_, HA.2 _ (List.getElem_mem _)⟩
  have HOB : Hid (∀ k (h : k < fb.length), ∃ row, BodyOk w row fb[k].2) := Lib.hid fun k h => ⟨_, HB.2 _ (List.getElem_mem _)⟩
  obtain ⟨len, hlen⟩ : ∃ n, fa.length = n := ⟨_, rfl⟩
  have HLA := Lib.hid hlen
  have HLB := Lib.hid (hl.trans hlen)
  rw [hl, hlen] at hcapb
  rw [hlen] at hsz hcapa
  unfold maxLen at htopa htopb
  rw [hl, hlen]
  clear HA HB hca hcb he hl hlen
  go_enter Tryd.func10, Tryd.ntmps10
  go_wp2_with fail
  go_loopw [5, 13] (fun _ i wr => ∃ k : Nat, k ≤ len ∧ i = .int .i64 (k : Int) ∧ ∃ m, wr = w.drewN m) (fun _ i _ => len - (intOf i).toNat)
  case atStart => exact ⟨0, Nat.zero_le _, rfl, 0, rfl⟩
  case round =>
    obtain ⟨k, hk, rfl, m, rfl⟩ := hrel
    by_cases hlt : k < len
    · have ha : k < fa.length := by rw [HLA.out]; exact hlt
      have hb : k < fb.length := by rw [HLB.out]; exact hlt
      obtain ⟨g, rfl, c0, c1⟩ := HCA.out k ha
      obtain ⟨g', rfl, d0, d1⟩ := HCB.out k hb
      obtain ⟨e1, e2⟩ := HE.out k ha hb
      obtain ⟨ra, oa⟩ := HOA.out k ha
      obtain ⟨rb, ob⟩ := HOB.out k hb
      rw [← e1] at d0
      have ka := fun j => conv_cells (c := fa[k].2.c) (oa.cells.drewN j) oa.1
      have kb := fun j => conv_cells (c := fb[k].2.c) (ob.cells.drewN j) ob.1
      rw [← e2] at kb
      obtain ⟨kd, hkd⟩ : ∃ x, fa[k].1 = x := ⟨_, rfl⟩
      obtain ⟨s, hs⟩ : ∃ x, fa[k].2.l = x := ⟨_, rfl⟩
      rw [hkd] at c0 d0
      rw [hs] at ka kb
      obtain ⟨pa, hpa⟩ : ∃ x, fa[k].2 = x := ⟨_, rfl⟩
      obtain ⟨pb, hpb⟩ : ∃ x, fb[k].2 = x := ⟨_, rfl⟩
      rw [hpa] at c1 ka
      rw [hpb] at d1 kb
      obtain ⟨ao2, an, ac, al⟩ := pa
      obtain ⟨bo2, bn, bc, bl⟩ := pb
      dsimp only [Piece.val] at c1 d1 ka kb
      have hlt' : (k : Int) < (len : Int) := by omega
      have hge : (0 : Int) ≤ (k : Int) := by omega
      clear e1 e2 oa ob hkd hs hpa hpb ha hb hlt
      go_wp2_with fail
      go_quiet (fail)
      clear ka kb
      go_wp2_with fail
      exact ⟨⟨k + 1, by omega, by go_num, _, rfl⟩, by simp [intOf]; omega⟩
    · obtain rfl : k = len := by omega
      go_wp2_with fail
      go_ret
      exact ⟨rfl, m, rfl⟩
end Go.Proofs.YtpidkpjhhabefaaDoor
