/- The chapter's example (frame), and the starts of a cut. -/
import Derived.Test.YtpidkpjhhabefaaDoorFrameOf
namespace Go.Proofs.YtpidkpjhhabefaaDoor
open Go.RowKit FrameMath
set_option linter.unusedVariables false

theorem CutAt.start {w : World} {ao : Option Addr} {n c : Nat} {l : List UInt8} (hn : l.length = n) (hcap : n ≤ c) (htop : c ≤ 9223372036854775807) (hsz : n ≤ 1000000) (hc : Cells w ao l) : CutAt w l ao n c l (.slice none 0 0) [] w where
  len := hn
  cap := hcap
  top := htop
  cells := hc
  frames := Frames.nil _ _ _
  few := by simpa using hsz
  below := Below.refl _ _
  same := rfl
  far := fun f hf => by simp at hf
  low := fun b off h hl => by
    subst h
    have := hc.at 0 (by cases l with
      | nil => exact (hl rfl).elim
      | cons _ _ => simp)
    exact World.block_lt_of_cell? w _ this
theorem cut_example : cut [] [0, 2, 7, 9] = ([(7, [9])], 0, false) := by
  rw [cut_on [] [0, 2, 7, 9] (by decide) (by decide) (by decide)]
  exact cut_short _ _ (by decide)
/-- How the example's cut ends. -/
def AlivePost (w : World) (e : Ending) (w' : World) : Prop :=
  ∃ g cap ao n c, e = .returned (.tuple #[.slice (some ⟨g, 0, none⟩) 1 cap, .int .i64 0, .nilIface]) ∧ Below w.heap.size w w' ∧ w'.cell? ⟨g, 0, none⟩ = some (.int .i64 7) ∧ w'.cell? ⟨g, 1, none⟩ = some (.slice ao n c) ∧ Cells w' ao [9] ∧ n = 1
theorem cut_alive (adr : Nat → Addr) (b c : Nat) (w : World) (hS : Sents w adr) (hc : Cells w (some ⟨b, 0, none⟩) [0, 2, 7, 9]) (h4 : 4 ≤ c) (htop : c ≤ 9223372036854775807) :
    Calls Tryd.prog 8 #[.slice (some ⟨b, 0, none⟩) 4 c] w (AlivePost w) := by
  refine (cut_any adr _ _ _ [0, 2, 7, 9] w hS (CutAt.start rfl h4 htop (by simp) hc)).mono ?_
  rintro e w' ⟨v, fs, rfl, hb, hF, hcn⟩
  rw [cut_example] at hcn ⊢
  have hl : fs.length = 1 := by have := congrArg List.length hcn; simpa [cont] using this
  obtain ⟨ao, cap, rfl, _, _, _, hcells⟩ := frames_form hF
  obtain ⟨g, rfl, c0, c1⟩ := hcells 0 (by omega)
  obtain ⟨f, rfl⟩ := List.length_eq_one_iff.1 hl
  · obtain ⟨kd, a2, n2, c2, l2⟩ := f
    simp only [cont, List.map_cons, List.map_nil, List.cons.injEq, Prod.mk.injEq, and_true] at hcn
    obtain ⟨h1, h2⟩ := hcn
    subst h1; subst h2
    have hbo := hF.2 (7, ⟨a2, n2, c2, [9]⟩) (List.mem_singleton.2 rfl)
    have hn2 : 1 = n2 := by simpa using hbo.1
    exact ⟨g, cap, a2, n2, c2, rfl, hb, by simpa using c0, by simpa [Piece.val] using c1, hbo.cells, hn2.symm⟩

set_option maxRecDepth 100000 in
set_option maxHeartbeats 2000000 in
theorem alive12_any (adr : Nat → Addr) (w : World) (hS : Sents w adr) :
    Calls Tryd.prog 6 #[] w fun e w' => e = .returned (.bool true) ∧ Below w.heap.size w w' := by
  have HB0 := Lib.hid ((Below.refl w.heap.size w).alloc (Nat.le_refl _) (.cells #[.int .u8 0, .int .u8 2, .int .u8 7, .int .u8 9] 5))
  have HS := Lib.hid (hS.below HB0.out)
  clear hS
  go_enter Tryd.func6, Tryd.ntmps6
  go_wp2_with (go_at_call 8; refine (cut_alive adr _ _ _ HS.out (Cells.new _ _ _ [0, 2, 7, 9] rfl) (by omega) (by omega)).mono ?_; rintro e w1 ⟨g, cap, ao, n, c, rfl, hb, c0, c1, hcl, rfl⟩; have hcv := conv_cells (n := 1) (c := c) hcl rfl; clear hcl)
  go_ret
  exact ⟨rfl, HB0.out.trans (hb.mono HB0.out.size)⟩
end Go.Proofs.YtpidkpjhhabefaaDoor
