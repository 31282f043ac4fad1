/- The walks of sums.Fold, sums.Check and of the reference's Total, Fold, Check. -/
import Derived.Test.YtilhioiocfllhaaDoorSums
namespace Go.Proofs.YtilhioiocfllhaaDoor
open Go.RowKit Go.Shelf SumsMath
set_option linter.unusedVariables false

theorem and_low (n : Int) (h0 : 0 ≤ n) (h1 : n < 9223372036854775808) : bits .and .i64 n 65535 = n % 65536 := by
  have := bits_mask .i64 63 (by decide) (fun n h0 h1 => by rw [IntKind.wrap_i64]; omega) 16 (by decide) n h0 (by omega)
  simpa using this
theorem fold_wrap (n : Int) (h0 : 0 ≤ n) (h1 : n < 9223372036854775808) : wrap64 (n / 65536 + n % 65536) = n / 65536 + n % 65536 := by unfold wrap64; omega

set_option maxRecDepth 100000 in
set_option maxHeartbeats 1000000 in
theorem fold_any (n : Int) (hn : Hid (n < 9223372036854775808)) (w : World) :
    Calls Tryd.prog 82 #[.int .i64 n] w fun e w' => e = .returned (.int .i64 (fold n)) ∧ w = w' := by
  by_cases h : n < 0
  · have HF : Hid (fold n = 0) := Lib.hid (by unfold fold; rw [if_pos (by omega)])
    go_enter Tryd.func82, Tryd.ntmps82
    go_wp2_with fail
    go_loop [0] (fun v => v = .int .i64 0) (fun _ => 0)
    case atStart => rfl
    case round =>
      obtain rfl := hrel
      go_wp2_with fail
      go_ret
      exact ⟨ret_int HF.out.symm, rfl⟩
  · have h' : 0 ≤ n := by omega
    clear h
    go_enter Tryd.func82, Tryd.ntmps82
    go_wp2_with fail
    go_loop [0] (fun v => ∃ m : Int, v = .int .i64 m ∧ 0 ≤ m ∧ m ≤ n ∧ Hid (fold m = fold n)) (fun v => (intOf v).toNat)
    case atStart => exact ⟨n, rfl, h', Int.le_refl _, rfl⟩
    case round =>
      obtain ⟨m, rfl, hm0, hmn, hf⟩ := hrel
      by_cases hb : 65535 < m
      · have e1 := and_low m hm0 (by have := hn.out; omega)
        have e2 := fold_wrap m hm0 (by have := hn.out; omega)
        have HS := Lib.hid (fold_step m hb)
        have HL := Lib.hid (fold_less m hb)
        go_wp2_with fail
        exact ⟨⟨m / 65536 + m % 65536, by rw [e2], by omega, by have := HL.out; omega, Lib.hid (HS.out.trans hf.out)⟩, by have := HL.out; simp [intOf]; omega⟩
      · have HS := Lib.hid (fold_small m hm0 (by omega))
        go_wp2_with fail
        go_ret
        exact ⟨ret_int (by rw [← hf.out, HS.out]), rfl⟩

set_option maxHeartbeats 1000000 in
theorem reffold_any (n : Int) (hn : Hid (n < 9223372036854775808)) (w : World) :
    Calls Tryd.prog 78 #[.int .i64 n] w fun e w' => e = .returned (.int .i64 (fold n)) ∧ w = w' := by
  by_cases h : n ≤ 0
  · have HF : Hid (fold n = 0) := Lib.hid (by unfold fold; rw [if_pos h])
    go_enter Tryd.func78, Tryd.ntmps78
    go_wp2_with fail
    go_ret
    exact ⟨ret_int HF.out.symm, rfl⟩
  · have HF : Hid (fold n = (n - 1) % 65535 + 1) := Lib.hid (by unfold fold; rw [if_neg h])
    have h1 : 1 ≤ n := by omega
    have h0 : 0 ≤ n - 1 := by omega
    have e1 : wrap64 (n - 1) = n - 1 := by have := hn.out; unfold wrap64; omega
    clear h
    go_enter Tryd.func78, Tryd.ntmps78
    go_wp2_with fail
    go_ret
    exact ⟨ret_int HF.out.symm, rfl⟩

set_option maxRecDepth 100000 in
set_option maxHeartbeats 1000000 in
theorem reftotal_any (b off c : Nat) (l : List UInt8) (w : World) (hm : l.length ≤ 1000000)
    (hc : ∀ i, i < l.length → w.cell? ⟨b, off + i, none⟩ = some (.int .u8 ((l.getD i 0).toNat : Int))) :
    Calls Tryd.prog 79 #[.slice (some ⟨b, off, none⟩) l.length c] w fun e w' => e = .returned (.int .i64 (tot l)) ∧ w = w' := by
  have HT := Lib.hid (refTo_all l)
  go_enter Tryd.func79, Tryd.ntmps79
  go_wp2
  go_loop [3, 4, 7] (fun g _ i => ∃ k : Nat, k ≤ l.length ∧ i = .int .i64 k ∧ g = .int .i64 (refTo l k)) (fun _ _ i => l.length - (intOf i).toNat)
  case atStart => exact ⟨0, Nat.zero_le _, rfl, rfl⟩
  case round =>
    obtain ⟨k, hk, rfl, rfl⟩ := hrel
    have hbd := refTo_bd l k
    by_cases hlt : k < l.length
    · have hcell := hc k hlt
      have hb : (l[k].toNat : Int) < 256 := by have := l[k].toNat_lt; omega
      have eg : l.getD k 0 = l[k] := by simp [List.getD, hlt]
      by_cases hev : k % 2 = 0
      · have HS : Hid (refTo l (k + 1) = refTo l k + (l[k].toNat : Int) * 256) := Lib.hid (by simp only [refTo]; rw [if_pos hev, eg])
        have t : ((k : Int) % 2 == 0) = true := by rw [beq_iff_eq]; omega
        clear hev eg
        go_wp2
        exact ⟨⟨k + 1, by omega, by go_num, by rw [HS.out]⟩, by simp [intOf]; omega⟩
      · have HS : Hid (refTo l (k + 1) = refTo l k + (l[k].toNat : Int)) := Lib.hid (by simp only [refTo]; rw [if_neg hev, eg])
        have t : ((k : Int) % 2 == 0) = false := by rw [beq_eq_false_iff_ne]; omega
        clear hev eg
        go_wp2
        exact ⟨⟨k + 1, by omega, by go_num, by rw [HS.out]⟩, by simp [intOf]; omega⟩
    · obtain rfl : k = l.length := by omega
      go_wp2
      go_ret
      exact ⟨ret_int HT.out, rfl⟩
set_option maxHeartbeats 1000000 in
theorem reftotal_none (ao : Option Addr) (c : Nat) (w : World) :
    Calls Tryd.prog 79 #[.slice ao 0 c] w fun e w' => e = .returned (.int .i64 0) ∧ w = w' := by
  go_enter Tryd.func79, Tryd.ntmps79
  go_wp2
  go_loop [3, 4, 7] (fun g _ i => i = .int .i64 0 ∧ g = .int .i64 0) (fun _ _ i => 0)
  case atStart => exact ⟨rfl, rfl⟩
  case round =>
    obtain ⟨rfl, rfl⟩ := hrel
    go_wp2
    go_ret
    exact ⟨rfl, rfl⟩

/-! ### Over whatever slice of bytes -/
theorem add_cells (s : Int) (ao : Option Addr) (n cap : Nat) (l : List UInt8) (w : World) (hn : l.length = n) (hlen : n ≤ 1000000) (hlc : n ≤ cap) (hcap : cap ≤ 9223372036854775807) (hc : Cells w ao l) :
    Calls Tryd.prog 73 #[.int .i64 s, .slice ao n cap] w fun e W' => e = .returned (.int .i64 (cl s + tot l)) ∧ Below w.heap.size w W' := by
  subst hn
  rcases hc with rfl | ⟨b, off, rfl, hc⟩
  · refine (add_none s ao cap w).mono fun e W' ⟨he, hb⟩ => ⟨?_, hb⟩
    rw [he]
    exact ret_int (by simp [tot, sumTo])
  · by_cases h0 : l.length = 0
    · have : l = [] := List.eq_nil_of_length_eq_zero h0
      subst this
      refine (add_none s _ cap w).mono fun e W' ⟨he, hb⟩ => ⟨?_, hb⟩
      rw [he]
      exact ret_int (by simp [tot, sumTo])
    · exact add_some s b off cap l w hlen hlc hcap hc (World.block_lt_of_cell? w _ (hc 0 (by omega)))
theorem reftotal_cells (ao : Option Addr) (n cap : Nat) (l : List UInt8) (w : World) (hn : l.length = n) (hlen : n ≤ 1000000) (hc : Cells w ao l) :
    Calls Tryd.prog 79 #[.slice ao n cap] w fun e w' => e = .returned (.int .i64 (tot l)) ∧ w = w' := by
  subst hn
  rcases hc with rfl | ⟨b, off, rfl, hc⟩
  · exact reftotal_none ao cap w
  · exact reftotal_any b off cap l w hlen hc
theorem tot_lt (l : List UInt8) (h : l.length ≤ 1000000) : tot l < 9223372036854775808 := by have := tot_bd l; omega
set_option maxHeartbeats 1000000 in
theorem check_cells (ao : Option Addr) (n cap : Nat) (l : List UInt8) (w : World) (hn : l.length = n) (hlen : n ≤ 1000000) (hlc : n ≤ cap) (hcap : cap ≤ 9223372036854775807) (hc : Cells w ao l) :
    Calls Tryd.prog 85 #[.slice ao n cap] w fun e w' => e = .returned (.int .i64 (ck l)) ∧ Below w.heap.size w w' := by
  have HC : Hid (∀ w : World, Cells w ao l → Calls Tryd.prog 73 #[.int .i64 0, .slice ao n cap] w fun e W' => e = .returned (.int .i64 (tot l)) ∧ Below w.heap.size w W') := Lib.hid fun w hc => by
    have h := add_cells 0 ao n cap l w hn hlen hlc hcap hc
    rw [show cl 0 + tot l = tot l by simp [cl]] at h
    exact h
  have HT := Lib.hid (tot_lt l (by omega))
  have hbd := fold_bd (tot l)
  have HK : Hid (ck l = 65535 - fold (tot l)) := rfl
  have HCC := Lib.hid hc
  clear hn hc
  go_enter Tryd.func85, Tryd.ntmps85
  go_wp2_with (first | (go_at_call 73; refine (HC.out _ HCC.out).mono ?_; rintro e w1 ⟨rfl, hb1⟩) | (go_at_call 82; refine (fold_any _ HT _).mono ?_; rintro e w' ⟨rfl, rfl⟩))
  go_ret
  exact ⟨ret_int HK.out.symm, hb1⟩
set_option maxHeartbeats 1000000 in
theorem refcheck_cells (ao : Option Addr) (n cap : Nat) (l : List UInt8) (w : World) (hn : l.length = n) (hlen : n ≤ 1000000) (hc : Cells w ao l) :
    Calls Tryd.prog 62 #[.slice ao n cap] w fun e w' => e = .returned (.int .i64 (ck l)) ∧ w = w' := by
  have HT := Lib.hid (tot_lt l (by omega))
  have hbd := fold_bd (tot l)
  have HK : Hid (ck l = 65535 - fold (tot l)) := rfl
  have HCC := Lib.hid hc
  have HN := Lib.hid hn
  clear hn hc
  go_enter Tryd.func62, Tryd.ntmps62
  go_wp2_with (first | (go_at_call 79; refine (reftotal_cells _ _ _ l _ HN.out hlen HCC.out).mono ?_; rintro e w1 ⟨rfl, rfl⟩) | (go_at_call 78; refine (reffold_any _ HT _).mono ?_; rintro e w' ⟨rfl, rfl⟩))
  go_ret
  exact ⟨ret_int HK.out.symm, rfl⟩

end Go.Proofs.YtilhioiocfllhaaDoor
