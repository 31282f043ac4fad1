/- The walks of frame.long, bytes.Clone and frame.Cut. -/
import Derived.Test.YtpidkpjhhabefaaDoorFrameRow
import Derived.Test.YtpidkpjhhabefaaDoorFrameMath
import Derived.Test.YtpidkpjhhabefaaDoorSent
import Derived.Deep.QuietTactic
import Derived.BigQuiet
import Derived.WalkMore
import Derived.ScopeJumps
import Derived.Laws.Cover3
import Derived.Lib.SliceRun
namespace Go.Proofs.YtpidkpjhhabefaaDoor
open Go.RowKit FrameMath
set_option linter.unusedVariables false

theorem or_bytes (x y : UInt8) : bits .or .i64 ((x.toNat : Int) * 256) (y.toNat : Int) = (x.toNat : Int) * 256 + (y.toNat : Int) := by
  have hx := x.toNat_lt
  have hy := y.toNat_lt
  exact bits_join .i64 63 (by decide) (fun n h0 h1 => by rw [IntKind.wrap_i64]; omega) 8 _ _ (by omega) (by omega) (by omega) (by omega) (by omega) (by omega)
/-- Is it a length that a frame may have? -/
def okLen (k : Nat) : Bool := decide (1 ≤ k) && decide (k ≤ 1200)

set_option maxHeartbeats 1000000 in
theorem long_any (b off n c : Nat) (l : List UInt8) (w : World) (hn : l.length = n) (h2 : 2 ≤ n) (hc : Cells w (some ⟨b, off, none⟩) l) :
    Calls Tryd.prog 21 #[.slice (some ⟨b, off, none⟩) n c] w fun e w' => e = .returned (.tuple #[.int .i64 (two l : Nat), .bool (okLen (two l))]) ∧ ∃ k, w' = w.drewN k := by
  have c0 := hc.at 0 (by omega)
  have c1 := hc.at 1 (by omega)
  have hn1 : (1 : Int) < (n : Int) := by omega
  have hn0 : (0 : Int) < (n : Int) := by omega
  have ho := or_bytes (l.getD 0 0) (l.getD 1 0)
  have hx := (l.getD 0 0).toNat_lt
  have hy := (l.getD 1 0).toNat_lt
  have HT : Hid ((two l : Nat) = (l.getD 0 0).toNat * 256 + (l.getD 1 0).toNat) := Lib.hid rfl
  obtain ⟨x, ex⟩ : ∃ x, (l.getD 0 0).toNat = x := ⟨_, rfl⟩
  obtain ⟨y, ey⟩ : ∃ x, (l.getD 1 0).toNat = x := ⟨_, rfl⟩
  rw [ex] at c0 ho hx HT
  rw [ey] at c1 ho hy HT
  rw [Nat.add_zero] at c0
  have HT2 : Hid (((two l : Nat) : Int) = (x : Int) * 256 + (y : Int)) := Lib.hid (by rw [HT.out]; omega)
  obtain ⟨t, et⟩ : ∃ t, two l = t := ⟨_, rfl⟩
  have htl : t < 65536 := by rw [← et]; exact two_lt l
  rw [et] at HT2 ⊢
  rw [← HT2.out] at ho
  clear et HT ex ey hc hn HT2
  by_cases k1 : 1 ≤ t
  · by_cases k2 : t ≤ 1200
    · have hk : okLen t = true := by simp [okLen]; omega
      have t1 : (1 : Int) ≤ (t : Int) := by omega
      have t2 : (t : Int) ≤ 1200 := by omega
      rw [hk]
      clear k1 k2 hk htl
      go_enter Tryd.func21, Tryd.ntmps21
      go_wp2_with fail
      go_quiet (fail)
      go_wp2_with fail
      go_ret2
      exact ⟨rfl, _, rfl⟩
    · have hk : okLen t = false := by simp [okLen]; omega
      have t1 : (1 : Int) ≤ (t : Int) := by omega
      have t2 : decide ((t : Int) ≤ 1200) = false := by simp; omega
      rw [hk]
      clear k1 k2 hk htl
      go_enter Tryd.func21, Tryd.ntmps21
      go_wp2_with fail
      go_quiet (fail)
      go_wp2_with fail
      go_ret2
      exact ⟨rfl, _, rfl⟩
  · obtain rfl : t = 0 := by omega
    have hk : okLen 0 = false := rfl
    rw [hk]
    clear k1 hk htl
    go_enter Tryd.func21, Tryd.ntmps21
    go_wp2_with fail
    go_quiet (fail)
    go_wp2_with fail
    go_ret2
    exact ⟨rfl, _, rfl⟩

/-- A fresh body. -/
def BodyPost (n : Nat) (l : List UInt8) (w : World) (e : Ending) (w' : World) : Prop :=
  ∃ p : Piece, e = .returned p.val ∧ p.n = n ∧ p.l = l ∧ Below w.heap.size w w' ∧ ∀ row, (∀ g, row = some g → g < w.heap.size) → BodyOk w' row p
set_option maxHeartbeats 1000000 in
theorem clone_some (b off n c : Nat) (l : List UInt8) (w : World) (hn : l.length = n) (hsz : n ≤ 1000000) (hc : Cells w (some ⟨b, off, none⟩) l) :
    Calls Tryd.prog 22 #[.slice (some ⟨b, off, none⟩) n c] w (BodyPost n l w) := by
  have HN := Lib.hid hn
  have HC := Lib.hid hc
  have HB1 := Lib.hid ((Below.refl w.heap.size w).alloc (Nat.le_refl _) (.cells #[] 5))
  have hq : Sem.run Tryd.prog (binOp .eql 22 (.slice (some ⟨b, off, none⟩) n c) (.slice none 0 0)) w = .ok (.bool false) w := Lib.run_eql_slice_nil w _ _ _ _ _ _ _ Tryd.underlying22
  clear hn hc
  go_enter Tryd.func22, Tryd.ntmps22
  go_wp2_with (at_builtin; refine wpList_append_u8 rfl (.tmp 5) (.tmp 6) rfl w.heap.size (.slice (some ⟨w.heap.size, 0, none⟩) 0 0) 0 [] rfl (own_fresh _ _ (Nat.le_refl _)) (some ⟨b, off, none⟩) n c l rfl HN.out (fun h => by cases h) (HC.out.below HB1.out rfl) (by omega) HB1.out.size ?_; intro v2 w2 hown2 hg2; simp only [Nat.zero_add, List.nil_append] at hown2)
  go_ret
  obtain ⟨ao, cc, rfl, hcc, hl, hno, _, _⟩ := own_cells hown2
  refine ⟨⟨ao, n, cc, l⟩, rfl, rfl, rfl, HB1.out.grown hg2 HB1.out.size (fun k h => by cases h; exact Nat.le_refl _), fun row hrow => ⟨hl, hsz, hno, ?_⟩⟩
  rcases hcc with h | ⟨b', o', e, hx⟩
  · exact .inl h
  · refine .inr ⟨b', o', e, ?_, hx⟩
    intro h
    have h1 := hrow b' h.symm
    have h2 := own_ge hown2 b' (by rw [show ao = some ⟨b', o', none⟩ from e]; rfl)
    omega
end Go.Proofs.YtpidkpjhhabefaaDoor
