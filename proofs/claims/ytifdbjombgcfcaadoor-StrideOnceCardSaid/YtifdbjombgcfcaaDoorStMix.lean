/- The walk of hash.Mix. -/
import Derived.Test.YtifdbjombgcfcaaDoorBase
import Derived.Test.YtifdbjombgcfcaaDoorHashMath
namespace Go.Proofs.YtifdbjombgcfcaaDoor
open Go.RowKit HashMath
set_option linter.unusedVariables false

def mixSt (x : BitVec 64) : Nat → BitVec 64
  | 0 => x
  | 1 => hx x * c1
  | _ => hx (hx x * c1) * c2
theorem mixSt_0 (x : BitVec 64) : mixSt x 0 = x := rfl
theorem mixSt_1 (x : BitVec 64) : mixSt x 1 = hx x * c1 := rfl
theorem mixSt_2 (x : BitVec 64) : mixSt x 2 = hx (hx x * c1) * c2 := rfl

set_option maxRecDepth 100000 in
set_option maxHeartbeats 1000000 in
theorem mix_any (x : BitVec 64) (w : World) :
    Calls Tryd.prog 49 #[.int .u64 (x.toNat : Int)] w fun e w' => e = .returned (.int .u64 ((mixB x).toNat : Int)) ∧ w = w' := by
  have i0 : ∀ w : World, (Instr.index 82 (.agg #[.int .u64 18397679294719823053, .int .u64 14181476777654086739]) (.int .i64 0)).run Tryd.prog w = .ok (.int .u64 18397679294719823053) w := fun _ => by kernel_rfl
  have i1 : ∀ w : World, (Instr.index 82 (.agg #[.int .u64 18397679294719823053, .int .u64 14181476777654086739]) (.int .i64 1)).run Tryd.prog w = .ok (.int .u64 14181476777654086739) w := fun _ => by kernel_rfl
  go_enter Tryd.func49, Tryd.ntmps49
  go_wp2
  go_loop [0, 6] (fun h i => ∃ k : Nat, k ≤ 2 ∧ i = .int .i64 k ∧ h = .int .u64 ((mixSt x k).toNat : Int)) (fun _ i => 2 - (intOf i).toNat)
  case atStart => exact ⟨0, by omega, rfl, rfl⟩
  case round =>
    obtain ⟨k, hk, rfl, rfl⟩ := hrel
    have hk5 : k = 0 ∨ k = 1 ∨ k = 2 := by omega
    rcases hk5 with rfl | rfl | rfl
    · go_wp2
      exact ⟨⟨1, by omega, rfl, by rw [mixSt_0, mixSt_1, mul_c1]⟩, by simp [intOf]⟩
    · go_wp2
      exact ⟨⟨2, by omega, rfl, by rw [mixSt_1, mixSt_2, mul_c2]⟩, by simp [intOf]⟩
    · go_wp2
      go_ret
      exact ⟨by rw [mixSt_2, hx_int]; rfl, rfl⟩

set_option maxRecDepth 100000 in
set_option maxHeartbeats 1000000 in
theorem on_any (h : BitVec 64) (b off c : Nat) (l : List UInt8) (w : World) (hm : l.length ≤ 9223372036854775807)
    (hc : ∀ i, i < l.length → w.cell? ⟨b, off + i, none⟩ = some (.int .u8 ((l.getD i 0).toNat : Int))) :
    Calls Tryd.prog 48 #[.int .u64 (h.toNat : Int), .slice (some ⟨b, off, none⟩) l.length c] w fun e w' => e = .returned (.int .u64 ((fnv h l).toNat : Int)) ∧ w = w' := by
  go_enter Tryd.func48, Tryd.ntmps48
  go_wp2
  go_loop [0, 9] (fun g i => ∃ k : Nat, k ≤ l.length ∧ i = .int .i64 k ∧ g = .int .u64 ((fnv h (l.take k)).toNat : Int)) (fun _ i => l.length - (intOf i).toNat)
  case atStart => exact ⟨0, Nat.zero_le _, rfl, by simp [fnv]⟩
  case round =>
    obtain ⟨k, hk, rfl, rfl⟩ := hrel
    by_cases hlt : k < l.length
    · have hcell := hc k hlt
      have HS := Lib.hid (fnv_take_succ h l k hlt)
      have HI := Lib.hid (fnv_int (fnv h (l.take k)) l[k])
      have hb : (l[k].toNat : Int) < 256 := by have := l[k].toNat_lt; omega
      go_wp2
      exact ⟨⟨k + 1, by omega, by go_num, by rw [HS.out, HI.out]; simp [List.getD, hlt]⟩, by simp [intOf]; omega⟩
    · go_wp2
      go_ret
      have : l.take k = l := List.take_of_length_le (by omega)
      exact ⟨ret_int (by rw [this]), rfl⟩
set_option maxRecDepth 100000 in
set_option maxHeartbeats 1000000 in
theorem on_none (h : BitVec 64) (a : Option Addr) (c : Nat) (w : World) :
    Calls Tryd.prog 48 #[.int .u64 (h.toNat : Int), .slice a 0 c] w fun e w' => e = .returned (.int .u64 ((fnv h []).toNat : Int)) ∧ w = w' := by
  go_enter Tryd.func48, Tryd.ntmps48
  go_wp2
  go_loop [0, 9] (fun g i => i = .int .i64 0 ∧ g = .int .u64 (h.toNat : Int)) (fun _ i => 0)
  case atStart => exact ⟨rfl, rfl⟩
  case round =>
    obtain ⟨rfl, rfl⟩ := hrel
    go_wp2
    go_ret
    exact ⟨rfl, rfl⟩

/-- 'on' over whatever slice of bytes. -/
theorem on_cells (h : BitVec 64) (ao : Option Addr) (n c : Nat) (l : List UInt8) (w : World) (hn : l.length = n) (hsz : n ≤ 1000000000000) (hc : Cells w ao l) :
    Calls Tryd.prog 48 #[.int .u64 (h.toNat : Int), .slice ao n c] w fun e w' => e = .returned (.int .u64 ((fnv h l).toNat : Int)) ∧ w = w' := by
  subst hn
  rcases hc with rfl | ⟨b, off, rfl, hc⟩
  · exact on_none h ao c w
  · exact on_any h b off c l w (by omega) hc

end Go.Proofs.YtifdbjombgcfcaaDoor
