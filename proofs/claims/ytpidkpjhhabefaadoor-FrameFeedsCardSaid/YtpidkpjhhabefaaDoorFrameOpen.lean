/- Frames that come in. -/
import Derived.Test.YtpidkpjhhabefaaDoorFrameAlive
import Derived.OpenShut
import Derived.ChangeArms
import Derived.ChangeSlices
namespace Go.Proofs.YtpidkpjhhabefaaDoor
open Go.RowKit FrameMath
set_option linter.unusedVariables false

/-- What is known of a slice of bytes. -/
structure Bytes8 (w : World) (ao : Option Addr) (n c : Nat) (l : List UInt8) : Prop where
  len : l.length = n
  cells : Cells w ao l
  none : ao = none → n = 0 ∧ c = 0
  cap : n ≤ c
  top : c ≤ 9223372036854775807
theorem Bytes8.below {w w' : World} {ao : Option Addr} {n c : Nat} {l : List UInt8} (h : Bytes8 w ao n c l) (hb : Below w.heap.size w w') : Bytes8 w' ao n c l := ⟨h.len, h.cells.below hb rfl, h.none, h.cap, h.top⟩
section
variable {H : Type} {enc : TypeId × Value → H} {w : World} {base : Nat} {spare : Nat → Bool} {held : Bool}
theorem open_bytes {fuel : Nat} {cs : List Value} {x : DataW H × List MemPlace} (h : DataW.trod enc Tryd.prog w base spare held fuel 22 cs = some x) :
    ∃ ao n c l, cs = [.slice ao n c] ∧ Bytes8 w ao n c l := by
  rcases ChangeShapes.open_ints Tryd.underlying22 Tryd.underlying5 (by kernel_rfl) h with ⟨rfl, _⟩ | ⟨a, len, cap, zs, rfl, _, hl, hm, hz, _, hcell, hw⟩
  · exact ⟨none, 0, 0, [], rfl, rfl, .inl rfl, fun _ => ⟨rfl, rfl⟩, Nat.le_refl _, by omega⟩
  · have hz' : len ≤ zs.length ∧ zs.length ≤ maxLen := by
      split at hz <;> omega
    have hr : IsRow .u8 w (some a) len zs.length zs := .inr ⟨a, rfl, hz'.1, hz'.2, rfl, hcell, hw⟩
    obtain ⟨l, h1, h2, _, _, _⟩ := bytes_of_row hr
    exact ⟨_, _, _, l, rfl, h1, h2, (fun e => by cases e), hl, by unfold maxLen at hm; omega⟩
/-- A frame, as a value. -/
def IsFrame (w : World) (v : Value) : Prop := ∃ kd ao n c l, v = .agg #[.int .i64 kd, .slice ao n c] ∧ (Lit.int .i64 kd).wf = true ∧ Bytes8 w ao n c l
theorem open_frame {r : Reach} {b0 : Nat} {v : Value} {d : DataW H} {ps : List MemPlace} {w0 : World} (hval : Value.okWide Tryd.prog w0 r b0 46 v) (h : DataW.Trod enc Tryd.prog w base spare held 46 v d ps) : IsFrame w v := by
  obtain ⟨cs, rfl, hsz, _⟩ : ∃ cs, v = .agg cs ∧ cs.size = Tryd.prog.cellsOf 46 ∧ Row.okWide Tryd.prog w0 r b0 46 cs := by
    unfold Value.okWide at hval
    rw [Tryd.underlying46] at hval
    exact hval
  obtain ⟨fuel, hf⟩ := h
  have hv : (Value.agg cs).cells = cs := rfl
  rw [hv] at hf
  obtain ⟨xs, n, _, _, hl, hxs, hg⟩ := DataW.trod_struct Tryd.underlying46 hf
  have hlen : cs.toList.length = 2 := by rw [hl]; kernel_rfl
  simp at hxs
  have h0 : DataW.trod enc Tryd.prog w base spare held n 3 ((cs.toList.drop 0).take (Tryd.prog.cellsOf 3)) = xs[0]? := hg 0 _ rfl
  have h1 : DataW.trod enc Tryd.prog w base spare held n 22 ((cs.toList.drop 1).take (Tryd.prog.cellsOf 22)) = xs[1]? := hg 1 _ rfl
  rw [show Tryd.prog.cellsOf 3 = 1 by kernel_rfl, List.getElem?_eq_getElem (by omega)] at h0
  rw [show Tryd.prog.cellsOf 22 = 1 by kernel_rfl, List.getElem?_eq_getElem (by omega)] at h1
  obtain ⟨k, hk, _, hw⟩ := DataW.trod_int Tryd.underlying3 h0
  obtain ⟨ao, m, c, l, hc, hb⟩ := open_bytes h1
  refine ⟨k, ao, m, c, l, ?_, hw, hb⟩
  obtain ⟨cs⟩ := cs
  match cs, hlen with
  | [x, y], _ =>
    simp at hk hc
    rw [hk, hc]
end
/-- A fresh row of bytes is the call's own. -/
theorem own_new (base : Nat) (w : World) (l : List UInt8) (A : Array Value) (hA : A.toList = l.map u8v) (n : Nat) (hn : l.length = n) (hs : n ≤ 1000000) (hb : base ≤ w.heap.size) : (w.alloc (.cells A 5)).ownsRow base 5 1 (.slice (some ⟨w.heap.size, 0, none⟩) n n) n (l.map u8v) := by
  subst hn
  refine ⟨by simp, .inr ⟨w.heap.size, l.length, A, rfl, hb, heap_alloc_new w _, Nat.le_refl _, by unfold maxLen; omega, ?_, ?_⟩⟩
  · rw [← Array.length_toList, hA]; simp
  · rw [hA]; exact List.take_of_length_le (by simp)
end Go.Proofs.YtpidkpjhhabefaaDoor
