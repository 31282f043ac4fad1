/- What is known of arrays and structs that come in, read off their data. -/
import Derived.Test.YtifdbjombgcfcaaAddr
import Derived.OpenShut
import Derived.ChangeArms
namespace Go.Proofs.Ytifdbjombgcfcaa
open Go.RowKit
set_option linter.unusedVariables false

section
variable {H : Type} {enc : TypeId × Value → H} {w : World} {base : Nat} {spare : Nat → Bool} {held : Bool}

/-- Cells that each read as a number of kind u8. -/
theorem open_u8s {fuel : Nat} {cs : List Value} {n : Nat} (hl : cs.length = n)
    (h : ∀ i, i < n → ∃ x, DataW.trod enc Try.prog w base spare held fuel 5 ((cs.drop i).take 1) = some x) : ∃ l : List UInt8, l.length = n ∧ cs = l.map u8v := by
  subst hl
  induction cs with
  | nil => exact ⟨[], rfl, rfl⟩
  | cons c cs ih =>
    obtain ⟨l, h1, h2⟩ := ih fun i hi => by
      have := h (i + 1) (by simp; omega)
      simpa using this
    obtain ⟨x, hx⟩ := h 0 (by simp)
    obtain ⟨k, hk, _, hw⟩ := DataW.trod_int Try.underlying5 hx
    simp at hk
    subst hk
    have := u8_of_wf hw
    exact ⟨UInt8.ofNat k.toNat :: l, by simp [h1], by rw [List.map_cons, ← h2]; unfold u8v; rw [← this]⟩
/-- An address's cells, read. -/
theorem open_addr {fuel : Nat} {cs : List Value} {x : DataW H × List MemPlace} (h : DataW.trod enc Try.prog w base spare held fuel 36 cs = some x) : ∃ six l, IsAddr cs six l := by
  obtain ⟨xs, n, _, _, hl, hxs, hf⟩ := DataW.trod_struct Try.underlying36 h
  have hlen : cs.length = 17 := by rw [hl]; kernel_rfl
  have h0 : DataW.trod enc Try.prog w base spare held n 4 ((cs.drop 0).take (Try.prog.cellsOf 4)) = xs[0]? := hf 0 _ rfl
  have h1 : DataW.trod enc Try.prog w base spare held n 34 ((cs.drop 1).take (Try.prog.cellsOf 34)) = xs[1]? := hf 1 _ rfl
  simp at hxs
  obtain ⟨y0, hy0⟩ : ∃ y, xs[0]? = some y := ⟨_, List.getElem?_eq_getElem (by omega)⟩
  obtain ⟨y1, hy1⟩ : ∃ y, xs[1]? = some y := ⟨_, List.getElem?_eq_getElem (by omega)⟩
  rw [hy0] at h0
  rw [hy1] at h1
  obtain ⟨six, e0, _⟩ := DataW.trod_bool Try.underlying4 h0
  obtain ⟨ys, m, _, _, hl2, hys, hg⟩ := DataW.trod_array Try.underlying34 h1
  have hc1 : Try.prog.cellsOf 5 = 1 := by kernel_rfl
  have hc0 : Try.prog.cellsOf 4 = 1 := by kernel_rfl
  have hc16 : Try.prog.cellsOf 34 = 16 := by kernel_rfl
  rw [hc0] at e0
  rw [hc16] at hg hl2
  obtain ⟨l, k1, k2⟩ := open_u8s (enc := enc) (w := w) (base := base) (spare := spare) (held := held) (fuel := m) (cs := (cs.drop 1).take 16) (n := 16) (by simp; omega) fun i hi => by
    have := hg i hi
    rw [hc1, Nat.mul_one] at this
    exact ⟨_, by rw [this]; exact List.getElem?_eq_getElem (by omega)⟩
  match cs, hlen with
  | c :: cs, hlen =>
    simp at e0 hlen
    subst e0
    refine ⟨six, l, k1, ?_⟩
    rw [← k2]
    simp [List.take_of_length_le (show cs.length ≤ 16 by omega)]
end
end Go.Proofs.Ytifdbjombgcfcaa
