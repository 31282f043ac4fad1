/- The walks of linkboynum.Bytes and linkboynum.Kept. -/
import Derived.Test.YtilhioiocfllhaaDoorBase
import Derived.Deep.QuietTactic
import Derived.BigQuiet
namespace Go.Proofs.YtilhioiocfllhaaDoor
open Go.RowKit
set_option linter.unusedVariables false

def marks : List UInt8 := [201, 202, 203, 204, 205, 206]
def NumBytesPost (n : Nat) (l : List UInt8) (w : World) (e : Ending) (w' : World) : Prop :=
  ∃ b, e = .returned (.slice (some ⟨b, 0, none⟩) n (n + 6)) ∧ w.heap.size ≤ b ∧ Below w.heap.size w w' ∧ Cells w' (some ⟨b, 0, none⟩) (l ++ marks)

set_option maxRecDepth 100000 in
set_option maxHeartbeats 1000000 in
theorem numBytes_any (ao : Option Addr) (n c : Nat) (l : List UInt8) (w : World) (hn : l.length = n) (hsz : n ≤ 1000000000000) (hnone : ao = none → n = 0 ∧ c = 0) (hc : Cells w ao l) :
    Calls Tryd.prog 25 #[.slice ao n c] w (NumBytesPost n l w) := by
  obtain ⟨i0, hi, hz0, hz1, hz2⟩ := info_parts Tryd.infoU8
  have HN := Lib.hid hn; clear hn
  go_enter Tryd.func25, Tryd.ntmps25
  have hb0 := Below.refl w.heap.size w
  go_wp2_with (first | (at_make; refine wpList_make_own _ rfl _ _ 23 rfl w.heap.size 5 i0 (.int .u8 0) 1 Tryd.underlying23 hi hz0 hz1 _ _ _ (n + 6) rfl rfl (by omega) (by rw [hz2]; omega) (by unfold maxLen; omega) (Nat.le_refl _) ?_; intro w1 hown1 hg1; have hb1 := hb0.grown hg1 (Nat.le_refl _) (fun _ h => by cases h); have hc1 := Lib.hid (hc.below hb1 rfl)) | (at_builtin; refine wpList_append_fits_any _ rfl (.tmp 7) (.tmp 8) 23 rfl w.heap.size 5 i0 1 Tryd.underlying23 hi hz1 w.heap.size 0 (n + 6) [] rfl hown1 ao n c (l.map u8v) rfl (by simp [HN.out]) hnone (hc1.out.news) (u8v_oneCell _) (by omega) ?_; intro w2 hown2 hg2; simp only [Nat.zero_add, List.nil_append] at hown2) | (at_builtin; refine wpList_append_fits_any _ rfl (.tmp 9) (.tmp 10) 23 rfl w.heap.size 5 i0 1 Tryd.underlying23 hi hz1 w.heap.size n (n + 6) (l.map u8v) rfl (hown2.alloc _) _ 6 6 (marks.map u8v) rfl rfl (by simp) ((Cells.new w2 _ _ marks rfl).news) (u8v_oneCell _) (by omega) ?_; intro w3 hown3 hg3; rw [← List.map_append] at hown3))
  go_ret
  have hb2 := hb1.grown hg2 hb1.size (fun k h => by cases h; exact Nat.le_refl _)
  have hb3 := (hb2.alloc hb2.size (.cells #[.int .u8 201, .int .u8 202, .int .u8 203, .int .u8 204, .int .u8 205, .int .u8 206] 5)).grown hg3 (by have := hb2.size; simp; omega) (fun k h => by cases h; exact Nat.le_refl _)
  exact ⟨w.heap.size, rfl, Nat.le_refl _, hb3, Cells.of_own hown3⟩

def markB (i : Nat) : Int := 201 + i
set_option maxRecDepth 100000 in
set_option maxHeartbeats 1000000 in
/-- linkboynum.Kept: the list and the marked room behind it stand as they stood. -/
theorem kept_any (b : Nat) (n c : Nat) (ao : Option Addr) (l : List UInt8) (w : World) (hn : l.length = n) (hsz : n ≤ 1000000000000) (hnone : ao = none → n = 0 ∧ c = 0) (hc : Cells w ao l) (hm : Cells w (some ⟨b, 0, none⟩) (l ++ marks)) :
    Calls Tryd.prog 28 #[.slice (some ⟨b, 0, none⟩) n (n + 6), .slice ao n c] w fun e w' => e = .returned (.bool true) ∧ ∃ k, w' = w.drewN k := by
  have HL : Cells w (some ⟨b, 0, none⟩) l := by
    rcases hm with h | ⟨b', off, e, h⟩
    · simp [marks] at h
    · exact .inr ⟨b', off, e, fun i hi => by rw [h i (by simp; omega)]; simp [List.getD, List.getElem?_append_left hi]⟩
  have v1 : ∀ k, Sem.run Tryd.prog (convert 23 9 (.slice (some ⟨b, 0, none⟩) n (n + 6))) (w.drewN k) = .ok (.string ⟨l.toArray⟩) (w.drewN k) := fun k => conv_cells (HL.drewN k) hn
  have v2 : ∀ k, Sem.run Tryd.prog (convert 23 9 (.slice ao n c)) (w.drewN k) = .ok (.string ⟨l.toArray⟩) (w.drewN k) := fun k => conv_cells (hc.drewN k) hn
  have HM : Hid (∀ i, i < 6 → w.cell? ⟨b, n + i, none⟩ = some (.int .u8 (201 + i : Int))) := Lib.hid (by
    intro i hi
    have h := hm.at (n + i) (by simp [marks]; omega)
    rw [Nat.zero_add] at h
    rw [h]
    have hi6 : i = 0 ∨ i = 1 ∨ i = 2 ∨ i = 3 ∨ i = 4 ∨ i = 5 := by omega
    subst hn
    rcases hi6 with rfl | rfl | rfl | rfl | rfl | rfl <;> simp [List.getD, marks])
  have g1 : decide ((n : Int) + 6 < (n : Int) + 6) = false := by simp
  have HN := Lib.hid hn; clear hn HL hc hm
  go_enter Tryd.func28, Tryd.ntmps28
  go_wp2_with fail
  go_quiet (fail)
  clear v1 v2 g1
  go_wp2_with fail
  go_loop [6] (fun i => ∃ k : Nat, k ≤ 6 ∧ i = .int .i64 k) (fun i => 6 - (intOf i).toNat)
  case atStart => exact ⟨0, by omega, rfl⟩
  case round =>
    obtain ⟨k, hk, rfl⟩ := hrel
    have hk6 : k = 0 ∨ k = 1 ∨ k = 2 ∨ k = 3 ∨ k = 4 ∨ k = 5 ∨ k = 6 := by omega
    rcases hk6 with rfl | rfl | rfl | rfl | rfl | rfl | rfl
    · have h : w.cell? ⟨b, n, none⟩ = some (.int .u8 201) := HM.out 0 (by omega)
      go_wp2
      exact ⟨⟨1, by omega, rfl⟩, by simp [intOf]⟩
    · have h : w.cell? ⟨b, n + 1, none⟩ = some (.int .u8 202) := HM.out 1 (by omega)
      go_wp2
      exact ⟨⟨2, by omega, rfl⟩, by simp [intOf]⟩
    · have h : w.cell? ⟨b, n + 2, none⟩ = some (.int .u8 203) := HM.out 2 (by omega)
      go_wp2
      exact ⟨⟨3, by omega, rfl⟩, by simp [intOf]⟩
    · have h : w.cell? ⟨b, n + 3, none⟩ = some (.int .u8 204) := HM.out 3 (by omega)
      go_wp2
      exact ⟨⟨4, by omega, rfl⟩, by simp [intOf]⟩
    · have h : w.cell? ⟨b, n + 4, none⟩ = some (.int .u8 205) := HM.out 4 (by omega)
      go_wp2
      exact ⟨⟨5, by omega, rfl⟩, by simp [intOf]⟩
    · have h : w.cell? ⟨b, n + 5, none⟩ = some (.int .u8 206) := HM.out 5 (by omega)
      go_wp2
      exact ⟨⟨6, by omega, rfl⟩, by simp [intOf]⟩
    · go_wp2
      go_ret
      exact ⟨rfl, nq, rfl⟩
end Go.Proofs.YtilhioiocfllhaaDoor
