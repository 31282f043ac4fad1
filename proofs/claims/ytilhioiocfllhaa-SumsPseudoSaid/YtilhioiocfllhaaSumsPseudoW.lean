/- The walk of the law SumsPseudo. -/
import Derived.Test.YtilhioiocfllhaaSumsPseudo
import Derived.Test.YtilhioiocfllhaaSumsFold
import Derived.Test.YtilhioiocfllhaaOpenAddr
namespace Go.Proofs.Ytilhioiocfllhaa.sumsPseudo
open Go.RowKit SumsMath
set_option linter.unusedVariables false
attribute [local go_sem ↓] loadAddr_eq
attribute [local go_sem] run_loadAddr

theorem open0 {H : Type} {enc : TypeId × Value → H} {w : World} {base : Nat} {spare : Nat → Bool} {held : Bool} {r : Reach} {b0 : Nat} {v : Value} {d : DataW H} {ps : List MemPlace} {w0 : World} (hval : Value.okWide Try.prog w0 r b0 39 v) (h : DataW.Trod enc Try.prog w base spare held 39 v d ps) : TwoAddrs v := open_addrs hval h

theorem pair_boxed (A1 A2 : List Value) (t : TypeId) (w w' : World) (h1 : A1.length = 17) (h2 : A2.length = 17) (hb : Below (w.alloc (.cells (A1 ++ A2).toArray t)).heap.size (w.alloc (.cells (A1 ++ A2).toArray t)) w') : gat 17 w' w.heap.size 0 = some A1 ∧ gat 17 w' w.heap.size 17 = some A2 := by
  have g := gat_below (gat_box 34 w (A1 ++ A2) t (by simp [h1, h2])) hb (by simp)
  have g1 := gat_part (m := 17) (k := 0) g (by decide)
  have g2 := gat_part (m := 17) (k := 17) g (by decide)
  simp only [Nat.zero_add, List.drop_zero] at g1 g2
  rw [List.take_left' h1] at g1
  rw [List.drop_left' h1, List.take_of_length_le (by omega)] at g2
  exact ⟨g1, g2⟩

set_option maxRecDepth 100000 in
set_option maxHeartbeats 4000000 in
theorem walk (v0 : Value) (a1 a2 : Int) (w : World) (w0 : TwoAddrs v0) (w1 : (Lit.int .i64 a1).wf = true) (w2 : (Lit.int .i64 a2).wf = true) :
    Calls Try.prog 6 #[v0, .int .i64 a1, .int .i64 a2] w fun e w' => e = .returned (.bool true) ∧ Below w.heap.size w w' := by
  obtain ⟨A1, six1, l1, A2, six2, l2, rfl, h1, h2⟩ := w0
  have HW1 := Lib.hid w1
  have HW2 := Lib.hid w2
  have HL1 := Lib.hid h1
  have HL2 := Lib.hid h2
  have HG := Lib.hid fun w' => pair_boxed A1 A2 39 w w' h1.length h2.length
  clear w1 w2 h1 h2
  obtain ⟨C, hC⟩ : ∃ C, (A1 ++ A2).toArray = C := ⟨_, rfl⟩
  rw [hC] at HG ⊢
  clear hC
  obtain ⟨W0, hW0⟩ : ∃ W, w.alloc (.cells C 39) = W := ⟨_, rfl⟩
  have HBW := Lib.hid (show Below w.heap.size w W0 from by rw [← hW0]; exact (Below.refl _ _).alloc (Nat.le_refl _) _)
  rw [hW0] at HG
  go_enter Try.func6, Try.ntmps6
  go_wp2_with (go_at_call 7; refine (alive06_any _).mono ?_; rintro e wa ⟨rfl, hba⟩; have HBA := Lib.hid hba; clear hba)
  obtain ⟨g1, g2⟩ := HG.out _ HBA.out
  go_region_held (fun w' => gat 17 w' w.heap.size 0 = some A1 ∧ gat 17 w' w.heap.size 17 = some A2) (first | exact HG.out _ HBA.out | exact HG.out _ HBA.out.drew | exact HG.out _ HBB.out | exact HG.out _ HBC.out) (first | ((go_at_call 22; refine (pseudo_any A1 A2 six1 six2 l1 l2 a1 a2 _ HL1.out HL2.out HW1.out HW2.out).mono ?_; rintro e wb ⟨v, rfl, hbb, hO⟩; have HBB := Lib.hid (HBA.out.drew.trans (hbb.mono HBA.out.size)); obtain ⟨aop, cp, rfl, hcp, hlp, _, _, _⟩ := own_cells hO; have vB := conv_cells (c := cp) hcp hlp; have HCP := Lib.hid hcp; have HLP := Lib.hid hlp; clear hbb hO hcp hlp)) | ((go_at_call 23; refine (refpseudo_any A1 A2 six1 six2 l1 l2 a1 a2 _ HL1.out HL2.out).mono ?_; rintro e wc ⟨v', rfl, hbc, hO'⟩; have HBC := Lib.hid (HBB.out.trans (hbc.mono HBB.out.size)); obtain ⟨aoq, cq, rfl, hcq, hlq, _, _, _⟩ := own_cells hO'; have vC := conv_cells (c := cp) (HCP.out.below hbc rfl) HLP.out; have vD := conv_cells (c := cq) hcq hlq; clear hbc hO' hcq hlq)))
  all_goals
    go_wp2_with fail
    go_ret
    exact ⟨ret_bool (by simp), HBW.out.trans (HBC.out.mono HBW.out.size)⟩
end Go.Proofs.Ytilhioiocfllhaa.sumsPseudo
