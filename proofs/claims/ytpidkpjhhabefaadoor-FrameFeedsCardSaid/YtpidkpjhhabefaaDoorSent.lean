/- linkboynum.Num, of nil and of the sentinels of package api. -/
import Derived.Test.YtpidkpjhhabefaaDoorIs
import Derived.Laws.Entries
namespace Go.Proofs.YtpidkpjhhabefaaDoor
open Go.RowKit
set_option linter.unusedVariables false

/-- The variables of package api's errors, in Num's order. -/
def gls : List Nat := [1, 2, 3, 0, 4, 5, 6, 7, 8, 9, 10, 11, 12, 13, 14, 15, 16, 17]
/-- Where the errors lie. -/
structure Sents (w : World) (adr : Nat → Addr) : Prop where
  cell : ∀ i g, gls[i]? = some g → w.cell? ⟨g, 0, none⟩ = some (.iface 72 (.pointer (some (adr i))))
  block : ∀ i, i < 18 → ∃ c t, w.heap[(adr i).block]? = some (.cells c t (0, 0))
  inj : ∀ i j, i < 18 → j < 18 → adr i = adr j → i = j
theorem Sents.below {w w' : World} {adr : Nat → Addr} (h : Sents w adr) (hb : Below w.heap.size w w') : Sents w' adr where
  cell := fun i g hg => by
    have := h.cell i g hg
    rw [hb.cell (p := ⟨g, 0, none⟩) (World.block_lt_of_cell? w _ this)]
    exact this
  block := fun i hi => by
    obtain ⟨c, t, e⟩ := h.block i hi
    exact ⟨c, t, by rw [hb.block _ (Array.getElem?_eq_some_iff.1 e).1]; exact e⟩
  inj := h.inj
theorem Sents.drew {w : World} {adr : Nat → Addr} (h : Sents w adr) : Sents w.drew adr := h.below (Below.refl _ _).drew
theorem Sents.drewN {w : World} {adr : Nat → Addr} (h : Sents w adr) (k : Nat) : Sents (w.drewN k) adr := h.below (drewN_below _ _ _)
/-- The k-th error, as a value. -/
def errV (adr : Nat → Addr) (k : Nat) : Value := .iface 72 (.pointer (some (adr k)))

theorem num_nil (w : World) : Calls Tryd.prog 12 #[.nilIface] w fun e w' => e = .returned (.int .i64 0) ∧ w = w' := by
  go_enter Tryd.func12, Tryd.ntmps12
  go_wp2_with fail
  go_ret
  exact ⟨rfl, rfl⟩

set_option maxRecDepth 100000 in
set_option maxHeartbeats 4000000 in
theorem num_sent (adr : Nat → Addr) (k : Nat) (hk : k < 18) (w : World) (H : Sents w adr) :
    Calls Tryd.prog 12 #[errV adr k] w fun e w' => e = .returned (.int .i64 ((k : Int) + 1)) ∧ Below w.heap.size w w' := by
  have c0 := H.cell 0 _ rfl
  have c1 := H.cell 1 _ rfl
  have c2 := H.cell 2 _ rfl
  have c3 := H.cell 3 _ rfl
  have c4 := H.cell 4 _ rfl
  have c5 := H.cell 5 _ rfl
  have c6 := H.cell 6 _ rfl
  have c7 := H.cell 7 _ rfl
  have c8 := H.cell 8 _ rfl
  have c9 := H.cell 9 _ rfl
  have c10 := H.cell 10 _ rfl
  have c11 := H.cell 11 _ rfl
  have c12 := H.cell 12 _ rfl
  have c13 := H.cell 13 _ rfl
  have c14 := H.cell 14 _ rfl
  have c15 := H.cell 15 _ rfl
  have c16 := H.cell 16 _ rfl
  have c17 := H.cell 17 _ rfl
  obtain ⟨W1, hW1⟩ : ∃ W, w.alloc (.cells #[.iface 72 (.pointer (some (adr 0))), .iface 72 (.pointer (some (adr 1))), .iface 72 (.pointer (some (adr 2))), .iface 72 (.pointer (some (adr 3))), .iface 72 (.pointer (some (adr 4))), .iface 72 (.pointer (some (adr 5))), .iface 72 (.pointer (some (adr 6))), .iface 72 (.pointer (some (adr 7))), .iface 72 (.pointer (some (adr 8))), .iface 72 (.pointer (some (adr 9))), .iface 72 (.pointer (some (adr 10))), .iface 72 (.pointer (some (adr 11))), .iface 72 (.pointer (some (adr 12))), .iface 72 (.pointer (some (adr 13))), .iface 72 (.pointer (some (adr 14))), .iface 72 (.pointer (some (adr 15))), .iface 72 (.pointer (some (adr 16))), .iface 72 (.pointer (some (adr 17)))] 27) = W := ⟨_, rfl⟩
  have HBW := Lib.hid (show Below w.heap.size w W1 from by rw [← hW1]; exact (Below.refl _ _).alloc (Nat.le_refl _) _)
  have HA : Hid (∀ i, i < 18 → W1.cell? ⟨w.heap.size, i, none⟩ = some (.iface 72 (.pointer (some (adr i))))) := Lib.hid fun i hi => by
    rw [← hW1, World.cell?_alloc_mark]
    match i, hi with
    | 0, _ => exact rfl
    | 1, _ => exact rfl
    | 2, _ => exact rfl
    | 3, _ => exact rfl
    | 4, _ => exact rfl
    | 5, _ => exact rfl
    | 6, _ => exact rfl
    | 7, _ => exact rfl
    | 8, _ => exact rfl
    | 9, _ => exact rfl
    | 10, _ => exact rfl
    | 11, _ => exact rfl
    | 12, _ => exact rfl
    | 13, _ => exact rfl
    | 14, _ => exact rfl
    | 15, _ => exact rfl
    | 16, _ => exact rfl
    | 17, _ => exact rfl
    | n + 18, h => exact absurd h (by omega)
  have HH := Lib.hid (H.below HBW.out)
  clear H
  unfold errV
  go_enter Tryd.func12, Tryd.ntmps12
  go_wp2_with fail
  go_loop [4, 5, 29] (fun _ _ i => ∃ j : Nat, j ≤ k ∧ i = .int .i64 (j : Int)) (fun _ _ i => 18 - (intOf i).toNat)
  case atStart => exact ⟨0, Nat.zero_le _, rfl⟩
  case round =>
    obtain ⟨j, hj, rfl⟩ := hrel
    have hj18 : j < 18 := by omega
    have hlt : (j : Int) < 18 := by omega
    have hc := HA.out j hj18
    by_cases he : j = k
    · subst he
      go_wp2_with (go_at_call 23; refine (is_same (adr j) _).mono ?_; rintro e w' ⟨rfl, rfl⟩)
      go_ret
      exact ⟨rfl, HBW.out⟩
    · obtain ⟨ca, ta, hba⟩ := HH.out.block k hk
      obtain ⟨cb, tb, hbb⟩ := HH.out.block j hj18
      have HBA := Lib.hid hba
      have HBB := Lib.hid hbb
      have HNE : Hid (adr k ≠ adr j) := Lib.hid fun h => he (HH.out.inj k j hk hj18 h).symm
      clear hba hbb
      go_wp2_with (go_at_call 23; refine (is_other (adr k) (adr j) ca cb ta tb _ HNE.out HBA.out HBB.out).mono ?_; rintro e w' ⟨rfl, rfl⟩)
      exact ⟨⟨j + 1, by omega, by go_num⟩, by simp [intOf]; omega⟩
end Go.Proofs.YtpidkpjhhabefaaDoor
