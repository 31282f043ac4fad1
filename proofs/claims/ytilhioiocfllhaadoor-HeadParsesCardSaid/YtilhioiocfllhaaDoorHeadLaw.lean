/- What the laws on heads lean on: Parse as it is told, the error's number, the chapter's example. -/
import Derived.Test.YtilhioiocfllhaaDoorHeadFacts
namespace Go.Proofs.YtilhioiocfllhaaDoor
open Go.RowKit HeadMath SumsMath
set_option linter.unusedVariables false
set_option maxRecDepth 100000

/-- An error and its number. -/
def ErrIs (adr : Nat → Addr) (k : Nat) (ev : Value) : Prop := (k = 0 ∧ ev = .nilIface) ∨ ∃ j, k = j + 1 ∧ j < 18 ∧ ev = errV adr j
theorem num_told (adr : Nat → Addr) (k : Nat) (ev : Value) (w : World) (h : ErrIs adr k ev) (S : Sents w adr) : Calls Tryd.prog 14 #[ev] w fun e w' => e = .returned (.int .i64 (k : Int)) ∧ Below w.heap.size w w' := by
  rcases h with ⟨rfl, rfl⟩ | ⟨j, rfl, hj, rfl⟩
  · exact (num_nil w).mono fun e w' ⟨he, hw⟩ => ⟨he, hw ▸ Below.refl _ _⟩
  · exact (num_sent adr j hj w S).mono fun e w' ⟨he, hb⟩ => ⟨he, hb⟩
/-- How a Parse ends. -/
def Told (adr : Nat → Addr) (r : Nat × HV) (w : World) (e : Ending) (w' : World) : Prop :=
  ∃ ev, e = .returned (.tuple #[.agg r.2.cells.toArray, ev]) ∧ Below w.heap.size w w' ∧ ErrIs adr r.1 ev
theorem parse_told (adr : Nat → Addr) (ao : Option Addr) (n c : Nat) (l : List UInt8) (w : World) (hl : l.length = n) (hnc : n ≤ c) (hcm : c ≤ 9223372036854775807) (S : Sents w adr) (hC : Cells w ao l) :
    Calls Tryd.prog 26 #[.slice ao n c] w (Told adr (parse l) w) := by
  have hf := parse_facts l
  refine (parse_any ao n c l adr w hl hnc hcm S hC).mono ?_
  rintro e w' ⟨hb, (⟨h0, rfl⟩ | ⟨k, hk, rfl⟩)⟩
  · exact ⟨_, rfl, hb, .inl ⟨h0, rfl⟩⟩
  · refine ⟨_, by rw [hf.2.1 (by omega)], hb, .inr ⟨k, hk, by have := hf.1; omega, rfl⟩⟩
/-- A head that is put into a fresh variable. -/
theorem stH_new (W : World) (A : Array Value) (hn : A.size = 40) (h1 : A.all (·.oneCell') = true) : Sem.run Tryd.prog (stH (.pointer (some ⟨W.heap.size, 0, none⟩)) (.agg A)) (W.alloc (.cells #[.int .i64 0, .bool false, .int .u8 0, .int .u8 0, .int .u8 0, .int .u8 0, .int .u8 0, .int .u8 0, .int .u8 0, .int .u8 0, .int .u8 0, .int .u8 0, .int .u8 0, .int .u8 0, .int .u8 0, .int .u8 0, .int .u8 0, .int .u8 0, .int .i64 0, .bool false, .int .u8 0, .int .u8 0, .int .u8 0, .int .u8 0, .int .u8 0, .int .u8 0, .int .u8 0, .int .u8 0, .int .u8 0, .int .u8 0, .int .u8 0, .int .u8 0, .int .u8 0, .int .u8 0, .int .u8 0, .int .u8 0, .int .i64 0, .int .i64 0, .int .i64 0, .int .i64 0] 50)) = .ok () (W.alloc (.cells A 50)) :=
  run_storeAt_new W _ _ _ (by rw [hn]; kernel_rfl) (by rw [hn]; rfl) h1
theorem stR_new (W : World) (A : Array Value) (hn : A.size = 40) (h1 : A.all (·.oneCell') = true) : Sem.run Tryd.prog (stR (.pointer (some ⟨W.heap.size, 0, none⟩)) (.agg A)) (W.alloc (.cells #[.int .i64 0, .bool false, .int .u8 0, .int .u8 0, .int .u8 0, .int .u8 0, .int .u8 0, .int .u8 0, .int .u8 0, .int .u8 0, .int .u8 0, .int .u8 0, .int .u8 0, .int .u8 0, .int .u8 0, .int .u8 0, .int .u8 0, .int .u8 0, .int .i64 0, .bool false, .int .u8 0, .int .u8 0, .int .u8 0, .int .u8 0, .int .u8 0, .int .u8 0, .int .u8 0, .int .u8 0, .int .u8 0, .int .u8 0, .int .u8 0, .int .u8 0, .int .u8 0, .int .u8 0, .int .u8 0, .int .u8 0, .int .i64 0, .int .i64 0, .int .i64 0, .int .i64 0] 53)) = .ok () (W.alloc (.cells A 53)) :=
  run_storeAt_new W _ _ _ (by rw [hn]; kernel_rfl) (by rw [hn]; rfl) h1
theorem ldH_arr {w : World} {b : Nat} {A : Array Value} (h : w.rangeAt b 0 A.toList) (hn : A.size = 40) : Sem.run Tryd.prog (ldH (.pointer (some ⟨b, 0, none⟩))) w = .ok (.agg A) w := by
  have := run_ldH h (by simpa using hn)
  simpa using this
theorem ldR_arr {w : World} {b : Nat} {A : Array Value} (h : w.rangeAt b 0 A.toList) (hn : A.size = 40) : Sem.run Tryd.prog (ldR (.pointer (some ⟨b, 0, none⟩))) w = .ok (.agg A) w := by
  have := run_ldR h (by simpa using hn)
  simpa using this
attribute [local go_sem ↓] ldH_eq stH_eq ldR_eq stR_eq
theorem parse_nil : parse [] = (2, HV.zero) := rfl

set_option maxHeartbeats 4000000 in
theorem alive28_any (adr : Nat → Addr) (w : World) (S : Sents w adr) : Calls Tryd.prog 24 #[] w fun e w' => e = .returned (.bool true) ∧ Below w.heap.size w w' := by
  have HS := Lib.hid S
  have HP := Lib.hid (parse_told adr none 0 0 [] w rfl (Nat.le_refl _) (by omega) S (.inl rfl))
  rw [parse_nil] at HP
  clear S
  go_enter Tryd.func24, Tryd.ntmps24
  go_wp2_with (first | (go_at_call 26; (with_reducible refine HP.out.mono ?_); rintro e W1 ⟨ev, rfl, hb1, herr⟩; have HB1 := Lib.hid hb1; have HER := Lib.hid herr; have hst := stH_new W1 HV.zero.cells.toArray rfl (HV.one _); clear hb1 herr) | (go_at_call 14; (with_reducible refine (num_told adr 2 ev _ HER.out (HS.out.below (HB1.out.alloc HB1.out.size _))).mono ?_); rintro e W2 ⟨rfl, hb2⟩; have HB2 := Lib.hid hb2; clear hb2))
  go_ret
  exact ⟨rfl, (HB1.out.alloc HB1.out.size _).trans (HB2.out.mono (HB1.out.alloc HB1.out.size _).size)⟩
end Go.Proofs.YtilhioiocfllhaaDoor
