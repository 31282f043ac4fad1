/- The walks of head.two, head.right, ports.Proto, ports.Right, and of the reference's pair and good. -/
import Derived.Test.YtilhioiocfllhaaDoorHeadAdr
import Derived.Test.YtilhioiocfllhaaDoorSumsFold
namespace Go.Proofs.YtilhioiocfllhaaDoor
open Go.RowKit HeadMath SumsMath
set_option linter.unusedVariables false
set_option maxRecDepth 100000

theorem two_or (x y : Int) (hx : 0 ≤ x ∧ x ≤ 255) (hy : 0 ≤ y ∧ y ≤ 255) : bits .or .i64 (x * 256) y = x * 256 + y :=
  bits_join .i64 63 (by decide) (fun n h0 h1 => by rw [IntKind.wrap_i64]; omega) 8 _ _ (by omega) (by omega) (by omega) (by omega) (by omega) (by omega)
theorem byt_cell {w : World} {b off n : Nat} {l : List UInt8} (hl : l.length = n) (hc : Cells w (some ⟨b, off, none⟩) l) (k : Nat) (hk : k < n) : w.cell? ⟨b, off + k, none⟩ = some (.int .u8 (byt l k)) := by
  rw [hc.at k (by omega)]; rfl

set_option maxHeartbeats 2000000 in
theorem two_at (b off n c k : Nat) (l : List UInt8) (w : World) (hl : l.length = n) (hk : k + 1 < n) (hn : n ≤ 1000000) (hc : Cells w (some ⟨b, off, none⟩) l) :
    Calls Tryd.prog 48 #[.slice (some ⟨b, off, none⟩) n c, .int .i64 (k : Int)] w fun e w' => e = .returned (.int .i64 (two l k)) ∧ ∃ d, w' = w.drewN d := by
  have c0 := byt_cell hl hc k (by omega)
  have c1 := byt_cell hl hc (k + 1) hk
  have b0 := byt_bd l k
  have b1 := byt_bd l (k + 1)
  have ho := two_or (byt l k) (byt l (k + 1)) b0 b1
  have HT : Hid (byt l k * 256 + byt l (k + 1) = two l k) := Lib.hid rfl
  obtain ⟨x, hx⟩ : ∃ x, byt l k = x := ⟨_, rfl⟩
  obtain ⟨y, hy⟩ : ∃ x, byt l (k + 1) = x := ⟨_, rfl⟩
  rw [hx, hy] at HT ho
  rw [hx] at c0 b0
  rw [hy] at c1 b1
  obtain ⟨b00, b01⟩ := b0
  obtain ⟨b10, b11⟩ := b1
  have t1 : (k : Int) + 1 < (n : Int) := by omega
  have t2 : (k : Int) < (n : Int) := by omega
  have t3 : (n : Int) ≤ 1000000 := by omega
  have t4 : (0 : Int) ≤ (k : Int) := by omega
  clear hx hy hc hl hk hn
  go_enter Tryd.func48, Tryd.ntmps48
  go_wp2_with fail
  go_quiet (fail)
  go_wp2_with fail
  go_ret
  exact ⟨ret_int HT.out, _, rfl⟩

set_option maxHeartbeats 2000000 in
theorem pair28_at (b off n c k : Nat) (l : List UInt8) (w : World) (hl : l.length = n) (hk : k + 1 < n) (hn : n ≤ 1000000) (hc : Cells w (some ⟨b, off, none⟩) l) :
    Calls Tryd.prog 52 #[.slice (some ⟨b, off, none⟩) n c, .int .i64 (k : Int)] w fun e w' => e = .returned (.int .i64 (two l k)) ∧ ∃ d, w' = w.drewN d := by
  have c0 := byt_cell hl hc k (by omega)
  have c1 := byt_cell hl hc (k + 1) hk
  have b0 := byt_bd l k
  have b1 := byt_bd l (k + 1)
  have HT : Hid (byt l k * 256 + byt l (k + 1) = two l k) := Lib.hid rfl
  obtain ⟨x, hx⟩ : ∃ x, byt l k = x := ⟨_, rfl⟩
  obtain ⟨y, hy⟩ : ∃ x, byt l (k + 1) = x := ⟨_, rfl⟩
  rw [hx, hy] at HT
  rw [hx] at c0 b0
  rw [hy] at c1 b1
  obtain ⟨b00, b01⟩ := b0
  obtain ⟨b10, b11⟩ := b1
  have t1 : (k : Int) + 1 < (n : Int) := by omega
  have t2 : (k : Int) < (n : Int) := by omega
  have t3 : (n : Int) ≤ 1000000 := by omega
  have t4 : (0 : Int) ≤ (k : Int) := by omega
  clear hx hy hc hl hk hn
  go_enter Tryd.func52, Tryd.ntmps52
  go_wp2_with fail
  go_quiet (fail)
  go_wp2_with fail
  go_ret
  exact ⟨ret_int HT.out, _, rfl⟩

theorem right_any (s : Int) (hs : Hid (s < 9223372036854775808)) (w : World) :
    Calls Tryd.prog 72 #[.int .i64 s] w fun e w' => e = .returned (.bool (fold s == 65535)) ∧ w = w' := by
  go_enter Tryd.func72, Tryd.ntmps72
  go_wp2_with (go_at_call 82; refine (fold_any _ hs _).mono ?_; rintro e w' ⟨rfl, rfl⟩)
  go_ret
  exact ⟨rfl, rfl⟩
theorem good_any (ao : Option Addr) (n c : Nat) (l : List UInt8) (w : World) (hl : l.length = n) (hn : n ≤ 1000000) (hc : Cells w ao l) :
    Calls Tryd.prog 53 #[.slice ao n c] w fun e w' => e = .returned (.bool (fold (tot l) == 65535)) ∧ w = w' := by
  have HT := Lib.hid (tot_lt l (by omega))
  have HC := Lib.hid (fun w' => reftotal_cells ao n c l w' hl hn)
  have HCC := Lib.hid hc
  clear hc
  go_enter Tryd.func53, Tryd.ntmps53
  go_wp2_with (first | (go_at_call 79; refine (HC.out _ HCC.out).mono ?_; rintro e w' ⟨rfl, rfl⟩) | (go_at_call 78; refine (reffold_any _ HT _).mono ?_; rintro e w' ⟨rfl, rfl⟩))
  go_ret
  exact ⟨rfl, rfl⟩
theorem proto_any (n : Int) (w : World) :
    Calls Tryd.prog 47 #[.int .i64 n] w fun e w' => e = .returned (.bool (n == 6 || n == 17)) ∧ w = w' := by
  by_cases h1 : n = 6
  · subst h1
    go_enter Tryd.func47, Tryd.ntmps47
    go_wp2_with fail
    go_ret
    exact ⟨rfl, rfl⟩
  · have e1 : (n == 6) = false := by simpa using h1
    go_enter Tryd.func47, Tryd.ntmps47
    go_wp2_with fail
    go_ret
    exact ⟨by simp; intro h; omega, rfl⟩
theorem portRight_any (n : Int) (w : World) :
    Calls Tryd.prog 50 #[.int .i64 n] w fun e w' => e = .returned (.bool (decide (1 ≤ n) && decide (n ≤ 65535))) ∧ w = w' := by
  by_cases h1 : 1 ≤ n
  · go_enter Tryd.func50, Tryd.ntmps50
    go_wp2_with fail
    go_ret
    exact ⟨by simp [h1], rfl⟩
  · go_enter Tryd.func50, Tryd.ntmps50
    go_wp2_with fail
    go_ret
    exact ⟨by simp; intro h; omega, rfl⟩
end Go.Proofs.YtilhioiocfllhaaDoor
