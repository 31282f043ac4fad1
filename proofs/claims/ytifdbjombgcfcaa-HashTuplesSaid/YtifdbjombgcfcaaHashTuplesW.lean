/- The walk of the law HashTuples. -/
import Derived.Test.YtifdbjombgcfcaaHashTuple
import Derived.Test.YtifdbjombgcfcaaHashMix
import Derived.Test.YtifdbjombgcfcaaOpenAddr
namespace Go.Proofs.Ytifdbjombgcfcaa.hashTuples
open Go.RowKit
set_option linter.unusedVariables false
attribute [local go_sem ↓] loadPoint_eq
attribute [local go_sem] run_loadPoint

/-- Two points, as one value. -/
def TwoPoints (v : Value) : Prop := ∃ P1 A1 six1 l1 port1 P2 A2 six2 l2 port2, v = .agg (P1 ++ P2).toArray ∧ IsPoint P1 A1 six1 l1 port1 ∧ (Lit.int .i64 port1).wf = true ∧ IsPoint P2 A2 six2 l2 port2 ∧ (Lit.int .i64 port2).wf = true
section
variable {H : Type} {enc : TypeId × Value → H} {w : World} {base : Nat} {spare : Nat → Bool} {held : Bool}
/-- A point's cells, read. -/
theorem open_point {fuel : Nat} {cs : List Value} {x : DataW H × List MemPlace} (h : DataW.trod enc Try.prog w base spare held fuel 38 cs = some x) : ∃ A six l port, IsPoint cs A six l port ∧ (Lit.int .i64 port).wf = true := by
  obtain ⟨xs, n, _, _, hl, hxs, hf⟩ := DataW.trod_struct Try.underlying38 h
  have hlen : cs.length = 18 := by rw [hl]; kernel_rfl
  have h0 : DataW.trod enc Try.prog w base spare held n 36 ((cs.drop 0).take (Try.prog.cellsOf 36)) = xs[0]? := hf 0 _ rfl
  have h1 : DataW.trod enc Try.prog w base spare held n 3 ((cs.drop 17).take (Try.prog.cellsOf 3)) = xs[1]? := hf 1 _ rfl
  simp at hxs
  obtain ⟨y0, hy0⟩ : ∃ y, xs[0]? = some y := ⟨_, List.getElem?_eq_getElem (by omega)⟩
  obtain ⟨y1, hy1⟩ : ∃ y, xs[1]? = some y := ⟨_, List.getElem?_eq_getElem (by omega)⟩
  rw [hy0, show Try.prog.cellsOf 36 = 17 by kernel_rfl, List.drop_zero] at h0
  rw [hy1, show Try.prog.cellsOf 3 = 1 by kernel_rfl] at h1
  obtain ⟨six, l, a⟩ := open_addr h0
  obtain ⟨k, hk, _, hw⟩ := DataW.trod_int Try.underlying3 h1
  refine ⟨cs.take 17, six, l, k, ⟨?_, a⟩, hw⟩
  rw [← hk, List.take_of_length_le (show (cs.drop 17).length ≤ 1 by simp; omega), List.take_append_drop]
/-- Two points. -/
theorem open1 {r : Reach} {b0 : Nat} {v : Value} {d : DataW H} {ps : List MemPlace} {w0 : World} (hval : Value.okWide Try.prog w0 r b0 39 v) (h : DataW.Trod enc Try.prog w base spare held 39 v d ps) : TwoPoints v := by
  obtain ⟨cs, rfl, hsz, _⟩ : ∃ cs, v = .agg cs ∧ cs.size = Try.prog.cellsOf 39 ∧ Row.okWide Try.prog w0 r b0 39 cs := by
    unfold Value.okWide at hval
    rw [Try.underlying39] at hval
    exact hval
  obtain ⟨fuel, hf⟩ := h
  have hv : (Value.agg cs).cells = cs := rfl
  rw [hv] at hf
  obtain ⟨xs, m, _, _, hl, hxs, hg⟩ := DataW.trod_array Try.underlying39 hf
  have hc : Try.prog.cellsOf 38 = 18 := by kernel_rfl
  have hc2 : Try.prog.cellsOf 39 = 36 := by kernel_rfl
  have g0 := hg 0 (by decide)
  have g1 := hg 1 (by decide)
  rw [hc, List.getElem?_eq_getElem (by omega)] at g0 g1
  obtain ⟨A1, six1, l1, p1, a1, w1⟩ := open_point g0
  obtain ⟨A2, six2, l2, p2, a2, w2⟩ := open_point g1
  refine ⟨_, A1, six1, l1, p1, _, A2, six2, l2, p2, ?_, a1, w1, a2, w2⟩
  have hlen : cs.toList.length = 36 := by rw [hl, hc2]
  have e2 : (cs.toList.drop (1 * 18)).take 18 = cs.toList.drop 18 := List.take_of_length_le (by simp at hlen ⊢; omega)
  rw [e2, Nat.zero_mul, List.drop_zero, List.take_append_drop, Array.toArray_toList]
end

theorem pair_boxed (A1 A2 : List Value) (t : TypeId) (w w' : World) (h1 : A1.length = 18) (h2 : A2.length = 18) (hb : Below (w.alloc (.cells (A1 ++ A2).toArray t)).heap.size (w.alloc (.cells (A1 ++ A2).toArray t)) w') : gat 18 w' w.heap.size 0 = some A1 ∧ gat 18 w' w.heap.size 18 = some A2 := by
  have g := gat_below (gat_box 36 w (A1 ++ A2) t (by simp [h1, h2])) hb (by simp)
  have g1 := gat_part (m := 18) (k := 0) g (by decide)
  have g2 := gat_part (m := 18) (k := 18) g (by decide)
  simp only [Nat.zero_add, List.drop_zero] at g1 g2
  rw [List.take_left' h1] at g1
  rw [List.drop_left' h1, List.take_of_length_le (by omega)] at g2
  exact ⟨g1, g2⟩

set_option maxRecDepth 100000 in
set_option maxHeartbeats 4000000 in
theorem walk (a0 : Int) (v1 : Value) (w : World) (w0 : (Lit.int .i64 a0).wf = true) (w1 : TwoPoints v1) :
    Calls Try.prog 6 #[.int .i64 a0, v1] w fun e w' => e = .returned (.bool true) ∧ Below w.heap.size w w' := by
  obtain ⟨P1, A1, six1, l1, p1, P2, A2, six2, l2, p2, rfl, h1, k1, h2, k2⟩ := w1
  have HL1 := Lib.hid h1
  have HL2 := Lib.hid h2
  have HK1 := Lib.hid k1
  have HK2 := Lib.hid k2
  have HG := Lib.hid fun w' => pair_boxed P1 P2 39 w w' h1.length h2.length
  clear w0 h1 h2 k1 k2
  obtain ⟨C, hC⟩ : ∃ C, (P1 ++ P2).toArray = C := ⟨_, rfl⟩
  rw [hC] at HG ⊢
  clear hC
  obtain ⟨W0, hW0⟩ : ∃ W, w.alloc (.cells C 39) = W := ⟨_, rfl⟩
  have HBW := Lib.hid (show Below w.heap.size w W0 from by rw [← hW0]; exact (Below.refl _ _).alloc (Nat.le_refl _) _)
  rw [hW0] at HG
  have HBA := Lib.hid (Below.refl W0.heap.size W0)
  go_enter Try.func6, Try.ntmps6
  go_wp2_with (go_at_call 7; refine (alive_any _).mono ?_; rintro e wa ⟨rfl, rfl⟩)
  obtain ⟨g1, g2⟩ := HG.out _ HBA.out
  go_region_held (fun w' => gat 18 w' w.heap.size 0 = some P1 ∧ gat 18 w' w.heap.size 18 = some P2) (first | exact HG.out _ HBA.out | exact HG.out _ HBA.out.drew | exact HG.out _ HBB.out | exact HG.out _ HBC.out) (first | (go_at_call 18; refine (tuple_any P1 A1 six1 l1 p1 P2 A2 six2 l2 p2 a0 _ HL1.out HK1.out HL2.out HK2.out).mono ?_; rintro e wb ⟨v, rfl, hbb, hO⟩; have HBB := Lib.hid (HBA.out.drew.trans (hbb.mono HBA.out.size)); obtain ⟨aop, cp, rfl, hcp, hlp, _, _, _⟩ := own_cells hO; have vB := conv_cells (c := cp) hcp hlp; have HCP := Lib.hid hcp; have HLP := Lib.hid hlp; clear hbb hO hcp hlp) | (go_at_call 19; refine (reftuple_any P1 A1 six1 l1 p1 P2 A2 six2 l2 p2 a0 _ HL1.out HL2.out).mono ?_; rintro e wc ⟨v', rfl, hbc, hO'⟩; have HBC := Lib.hid (HBB.out.trans (hbc.mono HBB.out.size)); obtain ⟨aoq, cq, rfl, hcq, hlq, _, _, _⟩ := own_cells hO'; have vC := conv_cells (c := cp) (HCP.out.below hbc rfl) HLP.out; have vD := conv_cells (c := cq) hcq hlq; clear hbc hO' hcq hlq))
  all_goals
    go_wp2_with fail
    go_ret
    exact ⟨ret_bool (by simp), HBW.out.trans (HBC.out.mono HBW.out.size)⟩
end Go.Proofs.Ytifdbjombgcfcaa.hashTuples
