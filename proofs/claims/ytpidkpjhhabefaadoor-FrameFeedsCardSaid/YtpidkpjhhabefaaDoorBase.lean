/- Words for slices of bytes: which bytes a slice value leads to, and that this stays so where memory only grows. -/
import Derived.Test.YtpidkpjhhabefaaDoorRows
import Derived.WalkKit
import Derived.WalkSpells
import Derived.WalkLawsBesides
import Derived.Lib.Hide
import Derived.Below
import Derived.OwnWalk
import Derived.Laws.IdiomStrings
import Derived.Maps.AppendAt
import Derived.Laws.AppendOwnNone
namespace Go.Proofs.YtpidkpjhhabefaaDoor
open Go.RowKit

/-- A byte as a value. -/
def u8v (x : UInt8) : Value := .int .u8 (x.toNat : Int)
/-- The slice's address leads to the bytes l (nothing is asked where l is empty). -/
def Cells (w : World) (ao : Option Addr) (l : List UInt8) : Prop :=
  l = [] ∨ ∃ b off, ao = some ⟨b, off, none⟩ ∧ ∀ i, i < l.length → w.cell? ⟨b, off + i, none⟩ = some (.int .u8 ((l.getD i 0).toNat : Int))

theorem Cells.nil (w : World) (ao : Option Addr) : Cells w ao [] := .inl rfl
theorem Cells.below {B : Nat} {w w' : World} {ao : Option Addr} {l : List UInt8} (h : Cells w ao l) (hb : Below B w w') (hB : B = w.heap.size) : Cells w' ao l := by
  subst hB
  rcases h with rfl | ⟨b, off, rfl, hc⟩
  · exact .inl rfl
  · exact .inr ⟨b, off, rfl, fun i hi => by
      have hci := hc i hi
      have hlt := World.block_lt_of_cell? w _ hci
      rw [hb.cell (p := ⟨b, off + i, none⟩) hlt]
      exact hci⟩
theorem Cells.drew {w : World} {ao : Option Addr} {l : List UInt8} (h : Cells w ao l) : Cells w.drew ao l := h
theorem Cells.at {w : World} {b off : Nat} {l : List UInt8} (h : Cells w (some ⟨b, off, none⟩) l) : ∀ i, i < l.length → w.cell? ⟨b, off + i, none⟩ = some (.int .u8 ((l.getD i 0).toNat : Int)) := by
  rcases h with rfl | ⟨b', off', e, hc⟩
  · intro i hi; simp at hi
  · simp at e
    obtain ⟨rfl, rfl⟩ := e
    exact hc
/-- For the laws on append: each new cell lies at the source's address. -/
theorem Cells.news {w : World} {ao : Option Addr} {l : List UInt8} (h : Cells w ao l) : ∀ ad, ao = some ad → ∀ j u, (l.map u8v)[j]? = some u → w.cell? (ad.add j) = some u := by
  rintro ad rfl j u hu
  rcases h with rfl | ⟨b, off, e, hc⟩
  · simp at hu
  · simp at e
    subst e
    have hj : j < l.length := by simpa using (List.getElem?_eq_some_iff.1 hu).1
    rw [Addr.add_lit, hc j hj]
    simp [List.getElem?_eq_getElem hj, u8v] at hu
    simp [List.getD, List.getElem?_eq_getElem hj, ← hu]
theorem u8v_oneCell (l : List UInt8) : ∀ u ∈ l.map u8v, u.oneCell' = true := by
  intro u hu
  obtain ⟨_, _, rfl⟩ := List.mem_map.1 hu
  rfl
/-- What the call owns, as cells. -/
theorem Cells.of_own {w : World} {base e g n cap : Nat} {l : List UInt8} (h : w.ownsRow base e 1 (.slice (some ⟨g, 0, none⟩) n cap) n (l.map u8v)) : Cells w (some ⟨g, 0, none⟩) l := by
  refine .inr ⟨g, 0, rfl, fun i hi => ?_⟩
  have := h.cells (g := g) rfl i (u8v l[i]) (by simp [List.getElem?_eq_getElem hi])
  rw [Addr.add_lit] at this
  rw [this]
  simp [u8v, List.getD, List.getElem?_eq_getElem hi]
theorem Cells.new (w : World) (A : Array Value) (e : TypeId) (l : List UInt8) (h : A.toList = l.map u8v) : Cells (w.alloc (.cells A e)) (some ⟨w.heap.size, 0, none⟩) l := by
  refine .inr ⟨w.heap.size, 0, rfl, fun i hi => ?_⟩
  rw [World.cell?_alloc_mark, Nat.zero_add]
  have : A[i]? = (l.map u8v)[i]? := by rw [← h, Array.getElem?_toList]
  rw [this]
  simp [u8v, List.getD, List.getElem?_eq_getElem hi]
theorem own8 {w : World} {base e size n : Nat} {v : Value} {xs : List Value} (h : w.ownsRow base e size v (8 + n) xs) : ∃ g cap, v = .slice (some ⟨g, 0, none⟩) (8 + n) cap := by
  rcases h.2 with ⟨_, h0⟩ | ⟨g, cap, _, rfl, _⟩
  · omega
  · exact ⟨g, cap, rfl⟩
theorem Cells.left {w : World} {ao : Option Addr} {l m : List UInt8} (h : Cells w ao (l ++ m)) : Cells w ao l := by
  rcases h with h | ⟨b, off, e, h⟩
  · exact .inl (List.append_eq_nil_iff.1 h).1
  · exact .inr ⟨b, off, e, fun i hi => by rw [h i (by simp; omega)]; simp [List.getD, List.getElem?_append_left hi]⟩
theorem drewN_below (B : Nat) (w : World) (k : Nat) : Below B w (w.drewN k) := ⟨rfl, rfl, rfl, Nat.le_refl _, fun _ _ => rfl⟩
theorem own_length {w : World} {base e size n : Nat} {v : Value} {xs : List Value} (h : w.ownsRow base e size v n xs) : xs.length = n * size := h.1

theorem Tryd.infoU8 : (Tryd.prog.info? 5).map (fun i => (i.zero, i.size, i.bytes)) = some (some (.int .u8 0), 1, 1) := by kernel_rfl
/-- 'string(b)' of a slice of bytes. -/
theorem conv_cells {w : World} {ao : Option Addr} {n c : Nat} {l : List UInt8} (h : Cells w ao l) (hn : l.length = n) :
    (convert 22 9 (.slice ao n c)).run Tryd.prog w = .ok (.string ⟨l.toArray⟩) w := by
  subst hn
  rcases h with rfl | ⟨b, off, rfl, hc⟩
  · rw [run_convert_bytes_string w _ _ 5 ao _ c Tryd.underlying22 Tryd.underlying5 Tryd.underlying9]
    cases ao with
    | none => simp [Conv.bytesToString]; rfl
    | some a =>
      have hl := run_loadCells_list (P := Tryd.prog) w a [] (fun j v hj => by simp at hj)
      have := run_bytesToString (P := Tryd.prog) w a 0 c [] hl
      exact this
  · exact run_convert_bytes_back w _ _ 5 ⟨b, off, none⟩ c l Tryd.underlying22 Tryd.underlying5 Tryd.underlying9 (fun j hj => by
      rw [Addr.add_lit, hc j hj]
      simp [List.getD, List.getElem?_eq_getElem hj])
theorem Cells.drewN {w : World} {ao : Option Addr} {l : List UInt8} (k : Nat) (h : Cells w ao l) : Cells (w.drewN k) ao l := by
  rcases h with rfl | ⟨b, off, rfl, hc⟩
  · exact .inl rfl
  · exact .inr ⟨b, off, rfl, fun i hi => by simpa using hc i hi⟩
/-- 'append' of bytes onto a slice that the call itself owns, whatever the source: nil, empty or not. -/
theorem wpList_append_u8 {w : World} {ops : Array Oper} {rest : List Oper} {o : Oper} {a : Act} {Q : Exit → Act → World → Prop} (hgd : o.guard = none) (s x : Operand)
    (ho : o.op = .call { callee := .builtin .append, args := #[s, x], argTypes := #[22, 22] })
    (base : Nat) (v : Value) (n : Nat) (l1 : List UInt8) (hs : a.eval s = v) (hown : w.ownsRow base 5 1 v n (l1.map u8v))
    (ao : Option Addr) (m c : Nat) (l2 : List UInt8) (hx : a.eval x = .slice ao m c) (hm : l2.length = m) (hnone : ao = none → m = 0 ∧ c = 0) (hc : Cells w ao l2)
    (hsz : n + m ≤ 100000000000000) (hbase : base ≤ w.heap.size)
    (h : ∀ v' w', w'.ownsRow base 5 1 v' (n + m) ((l1 ++ l2).map u8v) → w.grownBy w' v.ownBlock → wpList Tryd.prog ops Q rest (a.put o.dst v') w') : wpList Tryd.prog ops Q (o :: rest) a w := by
  obtain ⟨i0, hi, hz0, hz1, hz2⟩ := info_parts Tryd.infoU8
  cases ao with
  | some ad =>
    refine wpList_append_own w hgd s x 22 ho base 5 i0 (.int .u8 0) 1 1 Tryd.underlying22 hi hz0 hz1 hz2 rfl (by decide) v n _ hs hown ad m c (l2.map u8v) hx (by simp [hm]) (hc.news ad rfl) (u8v_oneCell _) (by unfold maxLen; omega) (by omega) hbase ?_
    intro v' w' h1 h2 _
    exact h v' w' (by rw [List.map_append]; exact h1) h2
  | none =>
    obtain ⟨rfl, rfl⟩ := hnone rfl
    have : l2 = [] := List.eq_nil_of_length_eq_zero hm
    subst this
    refine wpList_append_own_none hgd s x 22 ho base 5 i0 1 Tryd.underlying22 hi v n _ hs hown hx ?_
    exact h v w (by simpa using hown) (World.grownBy.refl _ _)
/-- What a walk is told of a slice of integers that came in: it is nil; or it leads to a row of 'cap' cells, the numbers 'zs' (the first 'len' are its elements). -/
def IsRow (k : IntKind) (w : World) (a : Option Addr) (len cap : Nat) (zs : List Int) : Prop :=
  (a = none ∧ len = 0 ∧ cap = 0 ∧ zs = []) ∨
  ∃ x, a = some x ∧ len ≤ cap ∧ cap ≤ maxLen ∧ zs.length = cap ∧ (∀ i, i < zs.length → w.cell? (x.add i) = some (.int k (zs.getD i 0))) ∧ ∀ n ∈ zs, (Lit.int k n).wf = true
theorem u8_of_wf {n : Int} (h : (Lit.int .u8 n).wf = true) : n = ((UInt8.ofNat n.toNat).toNat : Int) := by
  simp [Lit.wf, IntKind.min, IntKind.max, IntKind.signed, IntKind.bits] at h
  rw [UInt8.toNat_ofNat']
  omega
/-- A slice of bytes that came in, as bytes. -/
theorem bytes_of_row {w : World} {a : Option Addr} {len cap : Nat} {zs : List Int} (h : IsRow .u8 w a len cap zs) :
    ∃ l : List UInt8, l.length = len ∧ Cells w a l ∧ (a = none → len = 0 ∧ cap = 0) ∧ len ≤ cap ∧ cap ≤ maxLen := by
  rcases h with ⟨rfl, rfl, rfl, rfl⟩ | ⟨x, rfl, hl, hm, hz, hcell, hwz⟩
  · exact ⟨[], rfl, .inl rfl, fun _ => ⟨rfl, rfl⟩, Nat.le_refl _, Nat.zero_le _⟩
  · refine ⟨(zs.take len).map fun n => UInt8.ofNat n.toNat, by simp; omega, ?_, (fun h => by cases h), hl, hm⟩
    by_cases h0 : len = 0
    · subst h0; exact .inl (by simp)
    · obtain ⟨b, off, spot⟩ := x
      have hspot : spot = none := by simpa [Addr.add] using World.cell?_spot (hcell 0 (by omega))
      subst hspot
      refine .inr ⟨b, off, rfl, fun i hi => ?_⟩
      have hi' : i < len ∧ i < zs.length := by simp at hi; omega
      have := hcell i hi'.2
      rw [Addr.add_lit] at this
      rw [this]
      have hw := u8_of_wf (hwz (zs[i]'hi'.2) (List.getElem_mem _))
      have e1 : zs.getD i 0 = zs[i]'hi'.2 := by simp [List.getD, List.getElem?_eq_getElem hi'.2]
      have e2 : ((zs.take len).map fun n => UInt8.ofNat n.toNat).getD i 0 = UInt8.ofNat (zs[i]'hi'.2).toNat := by
        simp [List.getD, hi'.1, List.getElem?_eq_getElem hi'.2]
      rw [e1, e2, ← hw]
theorem ret_bool {a b : Bool} (h : a = b) : Ending.returned (.bool a) = .returned (.bool b) := by rw [h]
theorem ret_int {k : IntKind} {a b : Int} (h : a = b) : Ending.returned (.int k a) = .returned (.int k b) := by rw [h]
end Go.Proofs.YtpidkpjhhabefaaDoor
