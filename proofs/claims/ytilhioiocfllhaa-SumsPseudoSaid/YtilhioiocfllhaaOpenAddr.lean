/- What is known of arrays and structs that come in, read off their data. -/
import Derived.Test.YtilhioiocfllhaaAddr
import Derived.OpenShut
import Derived.ChangeArms
namespace Go.Proofs.Ytilhioiocfllhaa
open Go.RowKit
set_option linter.unusedVariables false

/-- Two addresses, as one value. -/
def TwoAddrs (v : Value) : Prop := ∃ A1 six1 l1 A2 six2 l2, v = .agg (A1 ++ A2).toArray ∧ IsAddr A1 six1 l1 ∧ IsAddr A2 six2 l2
section
variable {H : Type} {enc : TypeId × Value → H} {w : World} {base : Nat} {spare : Nat → Bool} {held : Bool}

/-- Cells that each read as a number of kind u8. -/
theorem open_u8s {fuel : Nat} {cs : List Value} {n : Nat} (hl : cs.length = n)
    (h : ∀ i, i < n → ∃ x, DataW.trod enc Try.prog w base spare held fuel 5 ((cs.drop i).take 1) = some x) : ∃ l : List UInt8, l.length = n ∧ cs = l.map u8v := by
  subst hl
  induction cs with
  | nil => exact ⟨[], rfl, rfl⟩
  | cons c cs ih =>
    obtain ⟨l, h1, h2⟩ := ih fun i hi => by
      have := h (i + 1) (by simp; omega)
      simpa using this
    obtain ⟨x, hx⟩ := h 0 (by simp)
    obtain ⟨k, hk, _, hw⟩ := DataW.trod_int Try.underlying5 hx
    simp at hk
    subst hk
    have := u8_of_wf hw
    exact ⟨UInt8.ofNat k.toNat :: l, by simp [h1], by rw [List.map_cons, ← h2]; unfold u8v; rw [← this]⟩
/-- An address's cells, read. -/
theorem open_addr {fuel : Nat} {cs : List Value} {x : DataW H × List MemPlace} (h : DataW.trod enc Try.prog w base spare held fuel 38 cs = some x) : ∃ six l, IsAddr cs six l := by
  obtain ⟨xs, n, _, _, hl, hxs, hf⟩ := DataW.trod_struct Try.underlying38 h
  have hlen : cs.length = 17 := by rw [hl]; kernel_rfl
  have h0 : DataW.trod enc Try.prog w base spare held n 4 ((cs.drop 0).take (Try.prog.cellsOf 4)) = xs[0]? := hf 0 _ rfl
  have h1 : DataW.trod enc Try.prog w base spare held n 36 ((cs.drop 1).take (Try.prog.cellsOf 36)) = xs[1]? := hf 1 _ rfl
  simp at hxs
  obtain ⟨y0, hy0⟩ : ∃ y, xs[0]? = some y := ⟨_, List.getElem?_eq_getElem (by omega)⟩
  obtain ⟨y1, hy1⟩ : ∃ y, xs[1]? = some y := ⟨_, List.getElem?_eq_getElem (by omega)⟩
  rw [hy0] at h0
  rw [hy1] at h1
  obtain ⟨six, e0, _⟩ := DataW.trod_bool Try.underlying4 h0
  obtain ⟨ys, m, _, _, hl2, hys, hg⟩ := DataW.trod_array Try.underlying36 h1
  have hc1 : Try.prog.cellsOf 5 = 1 := by kernel_rfl
  have hc0 : Try.prog.cellsOf 4 = 1 := by kernel_rfl
  have hc16 : Try.prog.cellsOf 36 = 16 := by kernel_rfl
  rw [hc0] at e0
  rw [hc16] at hg hl2
  obtain ⟨l, k1, k2⟩ := open_u8s (enc := enc) (w := w) (base := base) (spare := spare) (held := held) (fuel := m) (cs := (cs.drop 1).take 16) (n := 16) (by simp; omega) fun i hi => by
    have := hg i hi
    rw [hc1, Nat.mul_one] at this
    exact ⟨_, by rw [this]; exact List.getElem?_eq_getElem (by omega)⟩
  match cs, hlen with
  | c :: cs, hlen =>
    simp at e0 hlen
    subst e0
    refine ⟨six, l, k1, ?_⟩
    rw [← k2]
    simp [List.take_of_length_le (show cs.length ≤ 16 by omega)]
/-- Two addresses. -/
theorem open_addrs {r : Reach} {b0 : Nat} {v : Value} {d : DataW H} {ps : List MemPlace} {w0 : World} (hval : Value.okWide Try.prog w0 r b0 39 v) (h : DataW.Trod enc Try.prog w base spare held 39 v d ps) :
    TwoAddrs v := by
  obtain ⟨cs, rfl, hsz, _⟩ : ∃ cs, v = .agg cs ∧ cs.size = Try.prog.cellsOf 39 ∧ Row.okWide Try.prog w0 r b0 39 cs := by
    unfold Value.okWide at hval
    rw [Try.underlying39] at hval
    exact hval
  obtain ⟨fuel, hf⟩ := h
  have hv : (Value.agg cs).cells = cs := rfl
  rw [hv] at hf
  obtain ⟨xs, m, _, _, hl, hxs, hg⟩ := DataW.trod_array Try.underlying39 hf
  have hc : Try.prog.cellsOf 38 = 17 := by kernel_rfl
  have hc2 : Try.prog.cellsOf 39 = 34 := by kernel_rfl
  have g0 := hg 0 (by decide)
  have g1 := hg 1 (by decide)
  rw [hc, List.getElem?_eq_getElem (by omega)] at g0 g1
  obtain ⟨six1, l1, a1⟩ := open_addr g0
  obtain ⟨six2, l2, a2⟩ := open_addr g1
  refine ⟨_, six1, l1, _, six2, l2, ?_, a1, a2⟩
  have hlen : cs.toList.length = 34 := by rw [hl, hc2]
  have e2 : (cs.toList.drop (1 * 17)).take 17 = cs.toList.drop 17 := List.take_of_length_le (by simp at hlen ⊢; omega)
  rw [e2, Nat.zero_mul, List.drop_zero, List.take_append_drop, Array.toArray_toList]
end
end Go.Proofs.Ytilhioiocfllhaa
