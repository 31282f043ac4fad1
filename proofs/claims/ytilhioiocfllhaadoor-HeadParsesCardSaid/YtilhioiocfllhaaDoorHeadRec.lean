/- A head that lies in memory, and what a store makes of it. -/
import Derived.Test.YtilhioiocfllhaaDoorHeadTwo
import Derived.Test.YtilhioiocfllhaaDoorLaid
namespace Go.Proofs.YtilhioiocfllhaaDoor
open Go.RowKit HeadMath SumsMath
set_option linter.unusedVariables false
set_option maxRecDepth 100000

/-! ### Stores into a range -/
def spl : List Value → Nat → List Value → List Value
  | cs, _, [] => cs
  | cs, o, v :: r => spl (cs.set o v) (o + 1) r
theorem spl_length : ∀ (vs cs : List Value) (o : Nat), (spl cs o vs).length = cs.length
  | [], _, _ => rfl
  | v :: r, cs, o => by rw [spl, spl_length r]; simp
theorem spl_mid : ∀ (vs a m c : List Value), m.length = vs.length → spl (a ++ m ++ c) a.length vs = a ++ vs ++ c
  | [], a, m, c, h => by
    have : m = [] := List.eq_nil_of_length_eq_zero (by simpa using h)
    subst this; rfl
  | v :: r, a, m, c, h => by
    match m, h with
    | x :: m, h =>
      have := spl_mid r (a ++ [v]) m c (by simpa using h)
      rw [spl]
      simp at this ⊢
      exact this
theorem range_set {w : World} {b k : Nat} {cs : List Value} (h : w.rangeAt b 0 cs) (v : Value) : (w.setCell ⟨b, k, none⟩ v).rangeAt b 0 (cs.set k v) := fun j u hu => by
  rw [Nat.zero_add]
  by_cases e : k = j
  · subst e
    have hk : k < cs.length := by have := (List.getElem?_eq_some_iff.1 hu).1; simpa using this
    rw [List.getElem?_set_self hk] at hu
    cases hu
    have := h k cs[k] (List.getElem?_eq_getElem hk)
    rw [Nat.zero_add] at this
    exact World.cell?_setCell_same _ _ _ this
  · rw [List.getElem?_set_ne e] at hu
    have := h j u hu
    rw [Nat.zero_add] at this
    rw [World.cell?_setCell_other _ _ _ _ (fun he => e (by cases he; rfl))]
    exact this
theorem range_spl {b : Nat} : ∀ (vs : List Value) {w : World} {o : Nat} {cs : List Value}, w.rangeAt b 0 cs → (w.setCells b o vs).rangeAt b 0 (spl cs o vs)
  | [], _, _, _, h => h
  | v :: r, w, o, cs, h => range_spl r (range_set h v)
theorem grown_setCells (b : Nat) : ∀ (vs : List Value) (o : Nat) (w : World), w.grownBy (w.setCells b o vs) (some b)
  | [], _, w => World.grownBy.refl _ _
  | v :: r, o, w => by
    have h1 : w.grownBy (w.setCell ⟨b, o, none⟩ v) (some b) := ⟨rfl, rfl, rfl, (KeepsWalks.setCell w _ v).size, fun k _ hk => Below.heap_setCell _ _ _ k (fun e => hk (by rw [e]))⟩
    exact h1.trans (grown_setCells b r (o + 1) _)
theorem grown_drewN (w : World) (d : Nat) (row : Option Nat) : w.grownBy (w.drewN d) row := ⟨rfl, rfl, rfl, Nat.le_refl _, fun _ _ _ => rfl⟩
theorem grown_below {w w' : World} (h : Below w.heap.size w w') (row : Option Nat) : w.grownBy w' row := ⟨h.os, h.tape, h.output, h.size, fun k hk _ => h.block k hk⟩

/-! ### A head in memory -/
def HRec (w : World) (B : Nat) (h : HV) : Prop := h.ok ∧ w.rangeAt B 0 h.cells ∧ w.there B 0 40
theorem HRec.lt {w : World} {B : Nat} {h : HV} (H : HRec w B h) : B < w.heap.size := by
  have := H.2.1 0 _ rfl
  exact World.block_lt_of_cell? w _ this
theorem HRec.below {w w' : World} {B : Nat} {h : HV} (H : HRec w B h) (hb : Below w.heap.size w w') : HRec w' B h :=
  ⟨H.1, rangeAt_below H.2.1 hb H.lt, there_below H.2.2 hb H.lt⟩
theorem HRec.upd {w : World} {B : Nat} {h h' : HV} (H : HRec w B h) (ho : h'.ok) (a m c vs : List Value) (o : Nat) (e : h.cells = a ++ m ++ c) (hm : m.length = vs.length) (ea : a.length = o) (e' : h'.cells = a ++ vs ++ c) :
    HRec (w.setCells B o vs) B h' := by
  refine ⟨ho, ?_, World.there_setCells H.2.2 _ _ _⟩
  have := range_spl vs (o := o) H.2.1
  rw [e, ← ea, spl_mid vs a m c hm] at this
  rw [e', ← ea]
  exact this
theorem HRec.proto {w : World} {B : Nat} {h : HV} (H : HRec w B h) (x : Int) : HRec (w.setCell ⟨B, 0, none⟩ (.int .i64 x)) B { h with proto := x } :=
  H.upd (h' := { h with proto := x }) H.1 [] [.int .i64 h.proto] _ [.int .i64 x] 0 rfl rfl rfl rfl
theorem HRec.addr1 {w : World} {B : Nat} {h : HV} (H : HRec w B h) (six : Bool) (l : List UInt8) (hl : l.length = 16) : HRec (w.setCells B 1 (adrC six l)) B { h with six1 := six, l1 := l } :=
  H.upd (h' := { h with six1 := six, l1 := l }) ⟨hl, H.1.2⟩ [.int .i64 h.proto] (adrC h.six1 h.l1) _ (adrC six l) 1 (by simp only [HV.cells, List.cons_append, List.nil_append]; rfl) (by rw [adr_size _ _ hl, adr_size _ _ H.1.1]) rfl (by simp only [HV.cells, List.cons_append, List.nil_append])
theorem HRec.port1 {w : World} {B : Nat} {h : HV} (H : HRec w B h) (x : Int) : HRec (w.setCell ⟨B, 18, none⟩ (.int .i64 x)) B { h with p1 := x } :=
  H.upd (h' := { h with p1 := x }) H.1 (.int .i64 h.proto :: adrC h.six1 h.l1) [.int .i64 h.p1] _ [.int .i64 x] 18 (by simp [HV.cells]; rfl) rfl (by simp [adrC, H.1.1]) (by simp [HV.cells])
theorem HRec.addr2 {w : World} {B : Nat} {h : HV} (H : HRec w B h) (six : Bool) (l : List UInt8) (hl : l.length = 16) : HRec (w.setCells B 19 (adrC six l)) B { h with six2 := six, l2 := l } :=
  H.upd (h' := { h with six2 := six, l2 := l }) ⟨H.1.1, hl⟩ (.int .i64 h.proto :: (adrC h.six1 h.l1 ++ [.int .i64 h.p1])) (adrC h.six2 h.l2) _ (adrC six l) 19 (by simp [HV.cells]; rfl) (by rw [adr_size _ _ hl, adr_size _ _ H.1.2]) (by simp [adrC, H.1.1]) (by simp [HV.cells])
theorem HRec.port2 {w : World} {B : Nat} {h : HV} (H : HRec w B h) (x : Int) : HRec (w.setCell ⟨B, 36, none⟩ (.int .i64 x)) B { h with p2 := x } :=
  H.upd (h' := { h with p2 := x }) H.1 (.int .i64 h.proto :: (adrC h.six1 h.l1 ++ (.int .i64 h.p1 :: adrC h.six2 h.l2))) [.int .i64 h.p2] _ [.int .i64 x] 36 (by simp [HV.cells]; rfl) rfl (by simp [adrC, H.1.1, H.1.2]) (by simp [HV.cells])
theorem HRec.flags {w : World} {B : Nat} {h : HV} (H : HRec w B h) (x : Int) : HRec (w.setCell ⟨B, 37, none⟩ (.int .i64 x)) B { h with flags := x } :=
  H.upd (h' := { h with flags := x }) H.1 (.int .i64 h.proto :: (adrC h.six1 h.l1 ++ (.int .i64 h.p1 :: (adrC h.six2 h.l2 ++ [.int .i64 h.p2])))) [.int .i64 h.flags] _ [.int .i64 x] 37 (by simp [HV.cells]; rfl) rfl (by simp [adrC, H.1.1, H.1.2]) (by simp [HV.cells])
theorem HRec.part {w : World} {B : Nat} {h : HV} (H : HRec w B h) (x : Int) : HRec (w.setCell ⟨B, 38, none⟩ (.int .i64 x)) B { h with part := x } :=
  H.upd (h' := { h with part := x }) H.1 (.int .i64 h.proto :: (adrC h.six1 h.l1 ++ (.int .i64 h.p1 :: (adrC h.six2 h.l2 ++ [.int .i64 h.p2, .int .i64 h.flags])))) [.int .i64 h.part] _ [.int .i64 x] 38 (by simp [HV.cells]; rfl) rfl (by simp [adrC, H.1.1, H.1.2]) (by simp [HV.cells])
theorem HRec.body {w : World} {B : Nat} {h : HV} (H : HRec w B h) (x : Int) : HRec (w.setCell ⟨B, 39, none⟩ (.int .i64 x)) B { h with body := x } :=
  H.upd (h' := { h with body := x }) H.1 (.int .i64 h.proto :: (adrC h.six1 h.l1 ++ (.int .i64 h.p1 :: (adrC h.six2 h.l2 ++ [.int .i64 h.p2, .int .i64 h.flags, .int .i64 h.part])))) [.int .i64 h.body] _ [.int .i64 x] 39 (by simp [HV.cells]; rfl) rfl (by simp [adrC, H.1.1, H.1.2]) (by simp [HV.cells])
/-- What lies at the fields. -/
theorem HRec.at {w : World} {B : Nat} {h : HV} (H : HRec w B h) :
    w.cell? ⟨B, 0, none⟩ = some (.int .i64 h.proto) ∧ w.cell? ⟨B, 1, none⟩ = some (.bool h.six1) ∧ w.cell? ⟨B, 18, none⟩ = some (.int .i64 h.p1) ∧ w.cell? ⟨B, 36, none⟩ = some (.int .i64 h.p2) ∧ w.cell? ⟨B, 37, none⟩ = some (.int .i64 h.flags) ∧
      w.cell? ⟨B, 38, none⟩ = some (.int .i64 h.part) ∧ w.cell? ⟨B, 39, none⟩ = some (.int .i64 h.body) := by
  have hx : ∀ j v, h.cells[j]? = some v → w.cell? ⟨B, j, none⟩ = some v := fun j v hv => by have := H.2.1 j v hv; rwa [Nat.zero_add] at this
  have h1 := H.1.1
  have h2 := H.1.2
  refine ⟨hx 0 _ rfl, hx 1 _ rfl, hx 18 _ ?_, hx 36 _ ?_, hx 37 _ ?_, hx 38 _ ?_, hx 39 _ ?_⟩ <;> simp [HV.cells, adrC, h1, h2]
theorem HRec.fr {w : World} {B : Nat} {h : HV} (H : HRec w B h) (k : Nat) (hk : k < 40) : w.frozen? ⟨B, k, none⟩ = false := by
  have := (H.2.2 k hk).2
  rwa [Nat.zero_add] at this
theorem HRec.range1 {w : World} {B : Nat} {h : HV} (H : HRec w B h) : w.rangeAt B 1 (adrC h.six1 h.l1) := fun j v hv => by
  have hj := (List.getElem?_eq_some_iff.1 hv).1
  have := H.2.1 (1 + j) v (by rw [← hv, Nat.add_comm 1 j, HV.cells, List.getElem?_cons_succ, List.getElem?_append_left hj])
  rwa [Nat.zero_add] at this
theorem HRec.range2 {w : World} {B : Nat} {h : HV} (H : HRec w B h) : w.rangeAt B 19 (adrC h.six2 h.l2) := fun j v hv => by
  have hj := (List.getElem?_eq_some_iff.1 hv).1
  have h1 := adr_size h.six1 h.l1 H.1.1
  have := H.2.1 (19 + j) v (by
    rw [← hv, show 19 + j = (17 + (j + 1)) + 1 by omega, HV.cells, List.getElem?_cons_succ, ← h1, List.getElem?_append_right (by omega), Nat.add_sub_cancel_left, List.getElem?_cons_succ, List.getElem?_append_left hj])
  rwa [Nat.zero_add] at this
theorem Cells.part {w : World} {b off : Nat} {l : List UInt8} (h : Cells w (some ⟨b, off, none⟩) l) (k m : Nat) : Cells w (some ⟨b, off + k, none⟩) ((l.drop k).take m) := by
  refine Cells.left' (.inr ⟨b, off + k, rfl, fun i hi => ?_⟩) m
  have h1 := h.at (k + i) (by simp at hi; omega)
  rw [← Nat.add_assoc] at h1
  rw [h1]
  simp [List.getD]
theorem Cells.grown {w w' : World} {b off B : Nat} {l : List UInt8} (h : Cells w (some ⟨b, off, none⟩) l) (hg : w.grownBy w' (some B)) (hne : b ≠ B) : Cells w' (some ⟨b, off, none⟩) l := by
  refine .inr ⟨b, off, rfl, fun i hi => ?_⟩
  have h1 := h.at i hi
  rw [World.cell?_of_block (a := ⟨b, off + i, none⟩) (hg.block b (World.block_lt_of_cell? w _ h1) (fun e => hne (by cases e; rfl)))]
  exact h1
end Go.Proofs.YtilhioiocfllhaaDoor
