/- Rows of frames: a kind and a body each; what is known of them while the row grows. -/
import Derived.Test.YtpidkpjhhabefaaDoorReg
import Derived.Maps.AppendAt
namespace Go.Proofs.YtpidkpjhhabefaaDoor
open Go.RowKit
set_option linter.unusedVariables false

/-- A slice value and the bytes it leads to. -/
structure Piece where
  ao : Option Addr
  n : Nat
  c : Nat
  l : List UInt8
def Piece.val (p : Piece) : Value := .slice p.ao p.n p.c
/-- A body: its bytes are there, in another block than the row's. -/
def BodyOk (w : World) (row : Option Nat) (p : Piece) : Prop :=
  p.l.length = p.n ∧ p.n ≤ 1000000 ∧ (p.ao = none → p.n = 0 ∧ p.c = 0) ∧ (p.l = [] ∨ ∃ b off, p.ao = some ⟨b, off, none⟩ ∧ some b ≠ row ∧ ∀ i, i < p.l.length → w.cell? ⟨b, off + i, none⟩ = some (.int .u8 ((p.l.getD i 0).toNat : Int)))
theorem BodyOk.cells {w : World} {row : Option Nat} {p : Piece} (h : BodyOk w row p) : Cells w p.ao p.l := by
  rcases h.2.2.2 with h | ⟨b, off, e, _, hc⟩
  · exact .inl h
  · exact .inr ⟨b, off, e, hc⟩
/-- A frame: a kind and a body. -/
abbrev Fr := UInt8 × Piece
def frCells (fs : List Fr) : List Value := fs.flatMap fun f => [.int .i64 (f.1.toNat : Int), f.2.val]
theorem frCells_append (a b : List Fr) : frCells (a ++ b) = frCells a ++ frCells b := by simp [frCells]
theorem frCells_length : ∀ fs : List Fr, (frCells fs).length = fs.length * 2
  | [] => rfl
  | f :: fs => by
    have := frCells_length fs
    simp [frCells] at this ⊢
    omega
theorem frCells_get : ∀ (fs : List Fr) (i : Nat) (h : i < fs.length), (frCells fs)[2 * i]? = some (.int .i64 (fs[i].1.toNat : Int)) ∧ (frCells fs)[2 * i + 1]? = some fs[i].2.val
  | f :: fs, 0, _ => ⟨rfl, rfl⟩
  | f :: fs, i + 1, h => by
    have := frCells_get fs i (by simpa using h)
    rw [show 2 * (i + 1) = 2 * i + 1 + 1 by omega]
    exact this
theorem frCells_one (fs : List Fr) : ∀ u ∈ frCells fs, u.oneCell' = true := by
  intro u hu
  simp only [frCells, List.mem_flatMap] at hu
  obtain ⟨f, _, hf⟩ := hu
  simp at hf
  rcases hf with rfl | rfl <;> rfl
/-- A row of frames that the call owns. -/
def Frames (w : World) (base : Nat) (e : TypeId) (v : Value) (fs : List Fr) : Prop :=
  w.ownsRow base e 2 v fs.length (frCells fs) ∧ ∀ f ∈ fs, BodyOk w v.ownBlock f.2
theorem Frames.nil (w : World) (base : Nat) (e : TypeId) : Frames w base e (.slice none 0 0) [] := ⟨World.ownsRow_nil _ _ _ _, fun f hf => by simp at hf⟩
/-- Elsewhere memory has grown: the row and the bodies are as they were. -/
theorem BodyOk.below {w w' : World} {row : Option Nat} {p : Piece} {B : Nat} (h : BodyOk w row p) (hb : Below B w w') (hB : B = w.heap.size) : BodyOk w' row p := by
  subst hB
  obtain ⟨h1, h2, h3, h4⟩ := h
  refine ⟨h1, h2, h3, ?_⟩
  rcases h4 with h | ⟨b, off, e, hr, hc⟩
  · exact .inl h
  · refine .inr ⟨b, off, e, hr, fun i hi => ?_⟩
    have hci := hc i hi
    rw [hb.cell (p := ⟨b, off + i, none⟩) (World.block_lt_of_cell? w _ hci)]
    exact hci
theorem Frames.below {w w' : World} {base : Nat} {e : TypeId} {v : Value} {fs : List Fr} (h : Frames w base e v fs) (hb : Below w.heap.size w w') : Frames w' base e v fs :=
  ⟨own_below h.1 hb (Nat.le_refl _), fun f hf => (h.2 f hf).below hb rfl⟩
/-- The row itself has grown: the bodies are as they were, and they lie apart from the row where it lies now. -/
theorem BodyOk.grown {w w' : World} {row row' : Option Nat} {p : Piece} (h : BodyOk w row p) (hg : w.grownBy w' row) (hr : row' = row ∨ row' = some w.heap.size) : BodyOk w' row' p := by
  obtain ⟨h1, h2, h3, h4⟩ := h
  refine ⟨h1, h2, h3, ?_⟩
  rcases h4 with h | ⟨b, off, e, hne, hc⟩
  · exact .inl h
  · by_cases hl : p.l = []
    · exact .inl hl
    have hlt : b < w.heap.size := World.block_lt_of_cell? w _ (hc 0 (by cases hp : p.l with
      | nil => exact (hl hp).elim
      | cons _ _ => simp))
    refine .inr ⟨b, off, e, ?_, fun i hi => ?_⟩
    · rcases hr with rfl | rfl
      · exact hne
      · intro h; cases h; omega
    · have := World.cell?_of_block (w := w) (w' := w') (a := ⟨b, off + i, none⟩) (hg.block b hlt hne)
      rw [this]
      exact hc i hi

/-- What is known of a row's types: a struct of a number and a slice of bytes. -/
def FrT (T e : TypeId) : Prop := Tryd.prog.underlying T = some (.slice e) ∧ (Tryd.prog.info? e).map (fun i => (i.zero, i.size, i.bytes)) = some (some (.agg #[.int .i64 0, .slice none 0 0]), 2, 32)

theorem run_append_frame {T e ty : TypeId} (HT : FrT T e) {w : World} (base : Nat) (v : Value) (fs : List Fr) (k : UInt8) (p : Piece) (b : Nat) (H : Frames w base e v fs) (hp : BodyOk w v.ownBlock p)
    (h0 : w.cell? ⟨b, 0, none⟩ = some (.int .i64 (k.toNat : Int))) (h1 : w.cell? ⟨b, 1, none⟩ = some p.val) (hsz : fs.length ≤ 1000000) (hbase : base ≤ w.heap.size) :
    ∃ v' w', (Builtin.append_ #[T, T] ty #[v, .slice (some ⟨b, 0, none⟩) 1 1]).run Tryd.prog w = .ok v' w' ∧ Frames w' base e v' (fs ++ [(k, p)]) ∧ w.grownBy w' v.ownBlock := by
  obtain ⟨ht, hinfo⟩ := HT
  obtain ⟨i0, hi, hz0, hz1, hz2⟩ := info_parts hinfo
  obtain ⟨v', w', hr, hown, hg, _, hat⟩ := run_append_own_at (P := Tryd.prog) w base T ty e i0 _ 2 32 ht hi hz0 hz1 hz2 rfl (by decide) v fs.length (frCells fs) H.1 ⟨b, 0, none⟩ 1 1 [.int .i64 (k.toNat : Int), p.val] rfl
    (fun j u hu => by
      match j, hu with
      | 0, hu => cases hu; rw [Addr.add_lit]; exact h0
      | 1, hu => cases hu; rw [Addr.add_lit]; exact h1) (fun u hu => by
      simp at hu
      rcases hu with rfl | rfl <;> rfl) (by unfold maxLen; omega) (by omega) hbase
  refine ⟨v', w', hr, ⟨?_, ?_⟩, hg⟩
  · rw [List.length_append, frCells_append]
    exact hown
  · intro f hf
    rcases List.mem_append.1 hf with hf | hf
    · exact (H.2 f hf).grown hg hat
    · simp at hf
      subst hf
      exact hp.grown hg hat
theorem wpList_append_frame {T e : TypeId} (HT : FrT T e) {w : World} {ops : Array Oper} {rest : List Oper} {o : Oper} {a : Act} {Q : Exit → Act → World → Prop} (hgd : o.guard = none) (s x : Operand)
    (ho : o.op = .call { callee := .builtin .append, args := #[s, x], argTypes := #[T, T] }) (base : Nat) (v : Value) (fs : List Fr) (k : UInt8) (p : Piece) (b : Nat) (hs : a.eval s = v) (hx : a.eval x = .slice (some ⟨b, 0, none⟩) 1 1)
    (H : Frames w base e v fs) (hp : BodyOk w v.ownBlock p) (h0 : w.cell? ⟨b, 0, none⟩ = some (.int .i64 (k.toNat : Int))) (h1 : w.cell? ⟨b, 1, none⟩ = some p.val) (hsz : fs.length ≤ 1000000) (hbase : base ≤ w.heap.size)
    (h : ∀ v' w', Frames w' base e v' (fs ++ [(k, p)]) → w.grownBy w' v.ownBlock → wpList Tryd.prog ops Q rest (a.put o.dst v') w') : wpList Tryd.prog ops Q (o :: rest) a w := by
  obtain ⟨v', w', hr, hF, hg⟩ := run_append_frame (ty := o.type) HT base v fs k p b H hp h0 h1 hsz hbase
  refine wpList_plain hgd fun K hK => ?_
  unfold Oper.wp execOp
  simp only [ho, resolve, invoke, builtin, Sem.run_bind, Sem.run_pure, Result.andThen_ok, List.map_toArray, List.map_cons, List.map_nil, hs, hx, hr]
  exact hK _ _ (h v' w' hF hg)
theorem step_append_frame {T e : TypeId} (HT : FrT T e) {w : World} {ops : Array Oper} {o : Oper} {a : Act} {K : Act → World → Prop} {Q : Exit → Act → World → Prop} {E : Prop} (hgd : o.guard = none) (s x : Operand)
    (ho : o.op = .call { callee := .builtin .append, args := #[s, x], argTypes := #[T, T] }) (base : Nat) (v : Value) (fs : List Fr) (k : UInt8) (p : Piece) (b : Nat) (hs : a.eval s = v) (hx : a.eval x = .slice (some ⟨b, 0, none⟩) 1 1)
    (H : Frames w base e v fs) (hp : BodyOk w v.ownBlock p) (h0 : w.cell? ⟨b, 0, none⟩ = some (.int .i64 (k.toNat : Int))) (h1 : w.cell? ⟨b, 1, none⟩ = some p.val) (hsz : fs.length ≤ 1000000) (hbase : base ≤ w.heap.size)
    (h : ∀ v' w', Frames w' base e v' (fs ++ [(k, p)]) → w.grownBy w' v.ownBlock → K (a.put o.dst v') w') :
    if Region.wanted o (yielded ops a.tmps) = true then Oper.wp Tryd.prog o a w K Q else E := by
  have hw : Region.wanted o (yielded ops a.tmps) = true := by simp [Region.wanted, hgd]
  rw [if_pos hw]
  obtain ⟨v', w', hr, hF, hg⟩ := run_append_frame (ty := o.type) HT base v fs k p b H hp h0 h1 hsz hbase
  unfold Oper.wp execOp
  simp only [ho, resolve, invoke, builtin, Sem.run_bind, Sem.run_pure, Result.andThen_ok, List.map_toArray, List.map_cons, List.map_nil, hs, hx, hr]
  exact h v' w' hF hg
theorem frT : FrT 25 46 := ⟨Tryd.underlying25, by kernel_rfl⟩
theorem frT' : FrT 30 52 := ⟨Tryd.underlying30, by kernel_rfl⟩
end Go.Proofs.YtpidkpjhhabefaaDoor
