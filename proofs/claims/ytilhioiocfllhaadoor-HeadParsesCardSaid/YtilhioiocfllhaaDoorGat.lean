/- Loads of whole structs and arrays: what lies at a place, as one word, and the walk's rule for it. -/
import Derived.Test.YtilhioiocfllhaaDoorReg
import Derived.Deep.MidRow
namespace Go.Proofs.YtilhioiocfllhaaDoor
open Go.RowKit

/-- The n cells at a place, where all are there. -/
def gat (n : Nat) (w : World) (b o : Nat) : Option (List Value) := (List.range n).mapM fun j => w.cell? ⟨b, o + j, none⟩
theorem gat_of_range {n : Nat} {w : World} {b o : Nat} {A : List Value} (h : w.rangeAt b o A) (hn : A.length = n) : gat n w b o = some A := by
  subst hn
  unfold gat
  have : ∀ (m : Nat), m ≤ A.length → (List.range m).mapM (fun j => w.cell? ⟨b, o + j, none⟩) = some (A.take m) := by
    intro m
    induction m with
    | zero => intro _; rfl
    | succ m ih =>
      intro hm
      rw [List.range_succ, List.mapM_append, ih (by omega)]
      have := h m A[m] (List.getElem?_eq_getElem (by omega))
      rw [List.mapM_cons, List.mapM_nil, this, List.take_add_one, List.getElem?_eq_getElem (show m < A.length by omega)]
      rfl
  rw [this _ (Nat.le_refl _), List.take_length]
theorem range_of_gat {n : Nat} {w : World} {b o : Nat} {A : List Value} (h : gat n w b o = some A) : w.rangeAt b o A ∧ A.length = n := by
  unfold gat at h
  have : ∀ (m : Nat) (A : List Value), (List.range m).mapM (fun j => w.cell? ⟨b, o + j, none⟩) = some A → w.rangeAt b o A ∧ A.length = m := by
    intro m
    induction m with
    | zero => intro A h; simp at h; subst h; exact ⟨fun j v hv => by simp at hv, rfl⟩
    | succ m ih =>
      intro A h
      rw [List.range_succ, List.mapM_append] at h
      simp only [Option.bind_eq_bind, Option.bind_eq_some_iff] at h
      obtain ⟨A0, h0, A1, h1, h2⟩ := h
      obtain ⟨r, l⟩ := ih A0 h0
      simp only [List.mapM_cons, List.mapM_nil, Option.bind_eq_bind, Option.bind_eq_some_iff] at h1
      obtain ⟨x, hx, y, hy, hz⟩ := h1
      simp at hy hz h2
      subst hy; subst hz; subst h2
      refine ⟨fun j v hv => ?_, by simp [l]⟩
      by_cases hj : j < m
      · rw [List.getElem?_append_left (by omega)] at hv
        exact r j v hv
      · have hj' : j = m := by
          have := (List.getElem?_eq_some_iff.1 hv).1
          simp at this; omega
        subst hj'
        rw [List.getElem?_append_right (by omega)] at hv
        simp [l] at hv
        rw [hx, hv]
  exact this n A h
theorem rangeAt_below {B : Nat} {w w' : World} {b o : Nat} {A : List Value} (h : w.rangeAt b o A) (hb : Below B w w') (hB : b < B) : w'.rangeAt b o A := fun j v hv => by
  rw [hb.cell (p := ⟨b, o + j, none⟩) hB]
  exact h j v hv
theorem gat_below {B n : Nat} {w w' : World} {b o : Nat} {A : List Value} (h : gat n w b o = some A) (hb : Below B w w') (hB : b < B) : gat n w' b o = some A := by
  obtain ⟨r, l⟩ := range_of_gat h
  exact gat_of_range (rangeAt_below r hb hB) l
theorem gat_drew {n : Nat} {w : World} {b o : Nat} : gat n w.drew b o = gat n w b o := by unfold gat; simp
theorem gat_box (n : Nat) (w : World) (A : List Value) (t : TypeId) (h : A.length = n) : gat n (w.alloc (.cells A.toArray t)) w.heap.size 0 = some A :=
  gat_of_range (fun j v hv => by rw [Nat.zero_add, World.cell?_alloc_mark]; simpa using hv) h
theorem gat_box2 (n : Nat) (w : World) (C : Array Value) (t t' : TypeId) (A : List Value) (h : A.length = n) : gat n ((w.alloc (.cells C t')).alloc (.cells A.toArray t)) (w.heap.size + 1) 0 = some A := by
  have := gat_box n (w.alloc (.cells C t')) A t h
  rwa [show (w.alloc (.cells C t')).heap.size = w.heap.size + 1 by simp] at this
/-- A cell of what lies there. -/
theorem cell_of_gat {n : Nat} {w : World} {b o : Nat} {A : List Value} (h : gat n w b o = some A) (j : Nat) (v : Value) (hv : A[j]? = some v) : w.cell? ⟨b, o + j, none⟩ = some v := (range_of_gat h).1 j v hv
/-- A part of what lies there. -/
theorem gat_part {n m : Nat} {w : World} {b o k : Nat} {A : List Value} (h : gat n w b o = some A) (hk : k + m ≤ n) : gat m w b (o + k) = some ((A.drop k).take m) := by
  obtain ⟨r, l⟩ := range_of_gat h
  refine gat_of_range (fun j v hv => ?_) (by simp; omega)
  have hj := (List.getElem?_eq_some_iff.1 hv).1
  simp at hj
  rw [Nat.add_assoc]
  refine r (k + j) v ?_
  rw [← hv]
  simp [hj]
theorem load_gat (n : Nat) (ty : TypeId) (d : TypeDesc) (hu : Tryd.prog.underlying ty = some d) (hd : d.isRow = true) (hi : (Tryd.prog.info? ty).map (·.size) = some n) (w : World) (b o : Nat) (h : (gat n w b o).isSome = true) :
    Sem.run Tryd.prog (Instr.loadAt ty (.pointer (some ⟨b, o, none⟩))) w = .ok (.agg ((gat n w b o).getD []).toArray) w := by
  obtain ⟨cs, hc⟩ := Option.isSome_iff_exists.1 h
  obtain ⟨r, l⟩ := range_of_gat hc
  rw [hc]
  exact run_loadAt_mid w b o ty cs d r hu hd (by rw [l]; exact hi)
end Go.Proofs.YtilhioiocfllhaaDoor
