/- The walks of the reference's Plain, of hash.Of, of the reference's Of and of hash.Below. -/
import Derived.Test.YtifdbjombgcfcaaDoorStRef
namespace Go.Proofs.YtifdbjombgcfcaaDoor
open Go.RowKit HashMath
set_option linter.unusedVariables false

set_option maxRecDepth 100000 in
set_option maxHeartbeats 1000000 in
theorem refplain_any (b off c : Nat) (l : List UInt8) (w : World) (hm : l.length ≤ 9223372036854775807)
    (hc : ∀ i, i < l.length → w.cell? ⟨b, off + i, none⟩ = some (.int .u8 ((l.getD i 0).toNat : Int))) :
    Calls Tryd.prog 51 #[.slice (some ⟨b, off, none⟩) l.length c] w fun e w' => e = .returned (.int .u64 ((fnv 14695981039346656037#64 l).toNat : Int)) ∧ w = w' := by
  go_enter Tryd.func51, Tryd.ntmps51
  go_wp2
  go_loop [3, 4] (fun g i => ∃ k : Nat, k ≤ l.length ∧ i = .int .i64 k ∧ g = .int .u64 ((fnv 14695981039346656037#64 (l.take k)).toNat : Int)) (fun _ i => l.length - (intOf i).toNat)
  case atStart => exact ⟨0, Nat.zero_le _, rfl, by simp [fnv]⟩
  case round =>
    obtain ⟨k, hk, rfl, rfl⟩ := hrel
    by_cases hlt : k < l.length
    · have hcell := hc k hlt
      have HS := Lib.hid (fnv_take_succ 14695981039346656037#64 l k hlt)
      have HI := Lib.hid (fnv_int (fnv 14695981039346656037#64 (l.take k)) l[k])
      have hb : (l[k].toNat : Int) < 256 := by have := l[k].toNat_lt; omega
      go_wp2
      exact ⟨⟨k + 1, by omega, by go_num, by rw [HS.out, HI.out]; simp [List.getD, hlt]⟩, by simp [intOf]; omega⟩
    · go_wp2
      go_ret
      have : l.take k = l := List.take_of_length_le (by omega)
      exact ⟨ret_int (by rw [this]), rfl⟩

set_option maxRecDepth 100000 in
set_option maxHeartbeats 1000000 in
theorem of_any (x : BitVec 64) (ao : Option Addr) (n c : Nat) (l : List UInt8) (w : World) (hn : l.length = n) (hsz : n ≤ 1000000000000) (hc : Cells w ao l) :
    Calls Tryd.prog 43 #[.int .u64 (x.toNat : Int), .slice ao n c] w fun e w' => e = .returned (.int .u64 ((mixB (fnv (fnv 14695981039346656037#64 (seedBytes x)) l)).toNat : Int)) ∧ Below w.heap.size w w' := by
  have HN := Lib.hid hn; clear hn
  go_enter Tryd.func43, Tryd.ntmps43
  go_wp2_with fail
  go_loopw [5, 6] (fun g i wr => ∃ (k : Nat) (gb : BitVec 64), k ≤ 8 ∧ i = .int .i64 (56 - 8 * (k : Int)) ∧ g = .int .u64 (gb.toNat : Int) ∧ Hid (fnv 14695981039346656037#64 ((seedBytes x).take k) = gb) ∧ Below w.heap.size w wr) (fun _ i _ => (intOf i + 8).toNat)
  case atStart => exact ⟨0, 14695981039346656037#64, by omega, rfl, rfl, rfl, Below.refl _ _⟩
  case round =>
    obtain ⟨k, gb, hk, rfl, rfl, HG, hb⟩ := hrel
    have hk8 : k = 0 ∨ k = 1 ∨ k = 2 ∨ k = 3 ∨ k = 4 ∨ k = 5 ∨ k = 6 ∨ k = 7 ∨ k = 8 := by omega
    rcases hk8 with rfl | rfl | rfl | rfl | rfl | rfl | rfl | rfl | rfl
    · obtain ⟨y, hy⟩ : ∃ y, UInt8.ofNat (x.toNat / 2 ^ 56) = y := ⟨_, rfl⟩
      have e : (x.toNat : Int) / 72057594037927936 = ((UInt8.ofNat (x.toNat / 2 ^ 56)).toNat : Int) := sb56 x
      rw [hy] at e
      have HY := Lib.hid hy; clear hy
      go_wp2_with (go_at_call 48; refine (on_cells gb _ 1 1 [y] _ rfl (by omega) (Cells.new wr _ _ [y] rfl)).mono ?_; rintro e w' ⟨rfl, rfl⟩)
      exact ⟨⟨1, _, by omega, by go_num, rfl, (of_step x 0 (by decide)).trans ((congrArg (fun z => fnv z [(seedBytes x).getD 0 0]) HG.out).trans (congrArg (fun z => fnv gb [z]) HY.out)), hb.alloc hb.size _⟩, by simp [intOf]⟩
    · obtain ⟨y, hy⟩ : ∃ y, UInt8.ofNat (x.toNat / 2 ^ 48) = y := ⟨_, rfl⟩
      have e := sbw x 48 281474976710656 rfl
      rw [hy] at e
      have HY := Lib.hid hy; clear hy
      go_wp2_with (go_at_call 48; refine (on_cells gb _ 1 1 [y] _ rfl (by omega) (Cells.new wr _ _ [y] rfl)).mono ?_; rintro e w' ⟨rfl, rfl⟩)
      exact ⟨⟨2, _, by omega, by go_num, rfl, (of_step x 1 (by decide)).trans ((congrArg (fun z => fnv z [(seedBytes x).getD 1 0]) HG.out).trans (congrArg (fun z => fnv gb [z]) HY.out)), hb.alloc hb.size _⟩, by simp [intOf]⟩
    · obtain ⟨y, hy⟩ : ∃ y, UInt8.ofNat (x.toNat / 2 ^ 40) = y := ⟨_, rfl⟩
      have e := sbw x 40 1099511627776 rfl
      rw [hy] at e
      have HY := Lib.hid hy; clear hy
      go_wp2_with (go_at_call 48; refine (on_cells gb _ 1 1 [y] _ rfl (by omega) (Cells.new wr _ _ [y] rfl)).mono ?_; rintro e w' ⟨rfl, rfl⟩)
      exact ⟨⟨3, _, by omega, by go_num, rfl, (of_step x 2 (by decide)).trans ((congrArg (fun z => fnv z [(seedBytes x).getD 2 0]) HG.out).trans (congrArg (fun z => fnv gb [z]) HY.out)), hb.alloc hb.size _⟩, by simp [intOf]⟩
    · obtain ⟨y, hy⟩ : ∃ y, UInt8.ofNat (x.toNat / 2 ^ 32) = y := ⟨_, rfl⟩
      have e := sbw x 32 4294967296 rfl
      rw [hy] at e
      have HY := Lib.hid hy; clear hy
      go_wp2_with (go_at_call 48; refine (on_cells gb _ 1 1 [y] _ rfl (by omega) (Cells.new wr _ _ [y] rfl)).mono ?_; rintro e w' ⟨rfl, rfl⟩)
      exact ⟨⟨4, _, by omega, by go_num, rfl, (of_step x 3 (by decide)).trans ((congrArg (fun z => fnv z [(seedBytes x).getD 3 0]) HG.out).trans (congrArg (fun z => fnv gb [z]) HY.out)), hb.alloc hb.size _⟩, by simp [intOf]⟩
    · obtain ⟨y, hy⟩ : ∃ y, UInt8.ofNat (x.toNat / 2 ^ 24) = y := ⟨_, rfl⟩
      have e := sbw x 24 16777216 rfl
      rw [hy] at e
      have HY := Lib.hid hy; clear hy
      go_wp2_with (go_at_call 48; refine (on_cells gb _ 1 1 [y] _ rfl (by omega) (Cells.new wr _ _ [y] rfl)).mono ?_; rintro e w' ⟨rfl, rfl⟩)
      exact ⟨⟨5, _, by omega, by go_num, rfl, (of_step x 4 (by decide)).trans ((congrArg (fun z => fnv z [(seedBytes x).getD 4 0]) HG.out).trans (congrArg (fun z => fnv gb [z]) HY.out)), hb.alloc hb.size _⟩, by simp [intOf]⟩
    · obtain ⟨y, hy⟩ : ∃ y, UInt8.ofNat (x.toNat / 2 ^ 16) = y := ⟨_, rfl⟩
      have e := sbw x 16 65536 rfl
      rw [hy] at e
      have HY := Lib.hid hy; clear hy
      go_wp2_with (go_at_call 48; refine (on_cells gb _ 1 1 [y] _ rfl (by omega) (Cells.new wr _ _ [y] rfl)).mono ?_; rintro e w' ⟨rfl, rfl⟩)
      exact ⟨⟨6, _, by omega, by go_num, rfl, (of_step x 5 (by decide)).trans ((congrArg (fun z => fnv z [(seedBytes x).getD 5 0]) HG.out).trans (congrArg (fun z => fnv gb [z]) HY.out)), hb.alloc hb.size _⟩, by simp [intOf]⟩
    · obtain ⟨y, hy⟩ : ∃ y, UInt8.ofNat (x.toNat / 2 ^ 8) = y := ⟨_, rfl⟩
      have e := sbw x 8 256 rfl
      rw [hy] at e
      have HY := Lib.hid hy; clear hy
      go_wp2_with (go_at_call 48; refine (on_cells gb _ 1 1 [y] _ rfl (by omega) (Cells.new wr _ _ [y] rfl)).mono ?_; rintro e w' ⟨rfl, rfl⟩)
      exact ⟨⟨7, _, by omega, by go_num, rfl, (of_step x 6 (by decide)).trans ((congrArg (fun z => fnv z [(seedBytes x).getD 6 0]) HG.out).trans (congrArg (fun z => fnv gb [z]) HY.out)), hb.alloc hb.size _⟩, by simp [intOf]⟩
    · obtain ⟨y, hy⟩ : ∃ y, UInt8.ofNat (x.toNat / 2 ^ 0) = y := ⟨_, rfl⟩
      have e : IntKind.u8.wrap (x.toNat : Int) = ((UInt8.ofNat (x.toNat / 2 ^ 0)).toNat : Int) := by have := sbw x 0 1 rfl; simpa using this
      rw [hy] at e
      have HY := Lib.hid hy; clear hy
      go_wp2_with (go_at_call 48; refine (on_cells gb _ 1 1 [y] _ rfl (by omega) (Cells.new wr _ _ [y] rfl)).mono ?_; rintro e w' ⟨rfl, rfl⟩)
      exact ⟨⟨8, _, by omega, by go_num, rfl, (of_step x 7 (by decide)).trans ((congrArg (fun z => fnv z [(seedBytes x).getD 7 0]) HG.out).trans (congrArg (fun z => fnv gb [z]) HY.out)), hb.alloc hb.size _⟩, by simp [intOf]⟩
    · go_wp2_with (first | (go_at_call 48; refine (on_cells gb _ _ _ l _ HN.out hsz (hc.below hb rfl)).mono ?_; rintro e w' ⟨rfl, rfl⟩) | (go_at_call 49; refine (mix_any _ _).mono ?_; rintro e w' ⟨rfl, rfl⟩))
      go_ret
      exact ⟨ret_int (by rw [show fnv 14695981039346656037#64 (seedBytes x) = gb from HG.out]), hb⟩

set_option maxHeartbeats 1000000 in
theorem below_lt (x n : Int) (hx : 0 ≤ x) (hx1 : x < 18446744073709551616) (hn : n < 1) (w : World) :
    Calls Tryd.prog 42 #[.int .u64 x, .int .i64 n] w fun e w' => e = .returned (.int .i64 0) ∧ w = w' := by
  go_enter Tryd.func42, Tryd.ntmps42
  go_wp2
  go_ret
  exact ⟨rfl, rfl⟩
set_option maxHeartbeats 1000000 in
theorem below_ge (x n : Int) (hx : 0 ≤ x) (hx1 : x < 18446744073709551616) (hn : 1 ≤ n) (hn1 : n < 9223372036854775808) (w : World) :
    Calls Tryd.prog 42 #[.int .u64 x, .int .i64 n] w fun e w' => e = .returned (.int .i64 (x % n)) ∧ w = w' := by
  have h1 : 0 ≤ x % n := Int.emod_nonneg _ (by omega)
  have h2 : x % n < n := Int.emod_lt_of_pos _ (by omega)
  go_enter Tryd.func42, Tryd.ntmps42
  go_wp2
  go_ret
  exact ⟨rfl, rfl⟩

theorem refplain_cells (ao : Option Addr) (n c : Nat) (l : List UInt8) (w : World) (hn : l.length = n) (hsz : n ≤ 1000000000000) (hc : Cells w ao l) :
    Calls Tryd.prog 51 #[.slice ao n c] w fun e w' => e = .returned (.int .u64 ((fnv 14695981039346656037#64 l).toNat : Int)) ∧ w = w' := by
  subst hn
  rcases hc with rfl | ⟨b, off, rfl, hc⟩
  · go_enter Tryd.func51, Tryd.ntmps51
    go_wp2
    go_loop [3, 4] (fun g i => i = .int .i64 0 ∧ g = .int .u64 14695981039346656037) (fun _ i => 0)
    case atStart => exact ⟨rfl, rfl⟩
    case round =>
      obtain ⟨rfl, rfl⟩ := hrel
      go_wp2
      go_ret
      exact ⟨rfl, rfl⟩
  · exact refplain_any b off c l w (by omega) hc
set_option maxRecDepth 100000 in
set_option maxHeartbeats 2000000 in
theorem refof_any (x : BitVec 64) (ao : Option Addr) (n c : Nat) (l : List UInt8) (w : World) (hn : l.length = n) (hsz : n ≤ 100000000000) (hnone : ao = none → n = 0 ∧ c = 0) (hc : Cells w ao l) :
    Calls Tryd.prog 44 #[.int .u64 (x.toNat : Int), .slice ao n c] w fun e w' => e = .returned (.int .u64 ((mixB (fnv (fnv 14695981039346656037#64 (seedBytes x)) l)).toNat : Int)) ∧ Below w.heap.size w w' := by
  have HN := Lib.hid hn; clear hn
  have hsb : (seedBytes x).length = 8 := rfl
  have HSB := Lib.hid hsb; clear hsb
  go_enter Tryd.func44, Tryd.ntmps44
  go_wp2_with fail
  go_loopw [5, 6] (fun v i wr => ∃ (k : Nat) (s : List UInt8), k ≤ 8 ∧ i = .int .i64 (56 - 8 * (k : Int)) ∧ Hid ((seedBytes x).take k = s) ∧ wr.ownsRow w.heap.size 5 1 v k (s.map u8v) ∧ Below w.heap.size w wr) (fun _ i _ => (intOf i + 8).toNat)
  case atStart => exact ⟨0, [], by omega, rfl, rfl, World.ownsRow_made w #[] 0 (Nat.le_refl _) (by unfold maxLen; omega) rfl, (Below.refl _ _).alloc (Nat.le_refl _) _⟩
  case round =>
    obtain ⟨k, s, hk, rfl, HG, hown, hb⟩ := hrel
    have hk8 : k = 0 ∨ k = 1 ∨ k = 2 ∨ k = 3 ∨ k = 4 ∨ k = 5 ∨ k = 6 ∨ k = 7 ∨ k = 8 := by omega
    rcases hk8 with rfl | rfl | rfl | rfl | rfl | rfl | rfl | rfl | rfl
    · obtain ⟨y, hy⟩ : ∃ y, UInt8.ofNat (x.toNat / 2 ^ 56) = y := ⟨_, rfl⟩
      have e : (x.toNat : Int) / 72057594037927936 = ((UInt8.ofNat (x.toNat / 2 ^ 56)).toNat : Int) := sb56 x
      rw [hy] at e
      have HY := Lib.hid hy; clear hy
      go_wp2_with (at_builtin; refine wpList_append_u8 rfl (.tmp 12) (.tmp 18) rfl w.heap.size _ 0 s rfl (hown.alloc _) _ 1 1 [y] rfl rfl (fun h => by cases h) (Cells.new wr _ _ [y] rfl) (by omega) (by have := hb.size; simp; omega) ?_; intro v' w1 hown' hg')
      exact ⟨⟨1, s ++ [y], by omega, by go_num, (sb_step x 0 (by decide)).trans ((congrArg (fun z => z ++ [(seedBytes x).getD 0 0]) HG.out).trans (congrArg (fun z => s ++ [z]) HY.out)), hown', (hb.alloc hb.size _).grown hg' (by have := hb.size; simp; omega) (fun q h => (hown.lt q h).1)⟩, by simp [intOf]⟩
    · obtain ⟨y, hy⟩ : ∃ y, UInt8.ofNat (x.toNat / 2 ^ 48) = y := ⟨_, rfl⟩
      have e := sbw x 48 281474976710656 rfl
      rw [hy] at e
      have HY := Lib.hid hy; clear hy
      go_wp2_with (at_builtin; refine wpList_append_u8 rfl (.tmp 12) (.tmp 18) rfl w.heap.size _ 1 s rfl (hown.alloc _) _ 1 1 [y] rfl rfl (fun h => by cases h) (Cells.new wr _ _ [y] rfl) (by omega) (by have := hb.size; simp; omega) ?_; intro v' w1 hown' hg')
      exact ⟨⟨2, s ++ [y], by omega, by go_num, (sb_step x 1 (by decide)).trans ((congrArg (fun z => z ++ [(seedBytes x).getD 1 0]) HG.out).trans (congrArg (fun z => s ++ [z]) HY.out)), hown', (hb.alloc hb.size _).grown hg' (by have := hb.size; simp; omega) (fun q h => (hown.lt q h).1)⟩, by simp [intOf]⟩
    · obtain ⟨y, hy⟩ : ∃ y, UInt8.ofNat (x.toNat / 2 ^ 40) = y := ⟨_, rfl⟩
      have e := sbw x 40 1099511627776 rfl
      rw [hy] at e
      have HY := Lib.hid hy; clear hy
      go_wp2_with (at_builtin; refine wpList_append_u8 rfl (.tmp 12) (.tmp 18) rfl w.heap.size _ 2 s rfl (hown.alloc _) _ 1 1 [y] rfl rfl (fun h => by cases h) (Cells.new wr _ _ [y] rfl) (by omega) (by have := hb.size; simp; omega) ?_; intro v' w1 hown' hg')
      exact ⟨⟨3, s ++ [y], by omega, by go_num, (sb_step x 2 (by decide)).trans ((congrArg (fun z => z ++ [(seedBytes x).getD 2 0]) HG.out).trans (congrArg (fun z => s ++ [z]) HY.out)), hown', (hb.alloc hb.size _).grown hg' (by have := hb.size; simp; omega) (fun q h => (hown.lt q h).1)⟩, by simp [intOf]⟩
    · obtain ⟨y, hy⟩ : ∃ y, UInt8.ofNat (x.toNat / 2 ^ 32) = y := ⟨_, rfl⟩
      have e := sbw x 32 4294967296 rfl
      rw [hy] at e
      have HY := Lib.hid hy; clear hy
      go_wp2_with (at_builtin; refine wpList_append_u8 rfl (.tmp 12) (.tmp 18) rfl w.heap.size _ 3 s rfl (hown.alloc _) _ 1 1 [y] rfl rfl (fun h => by cases h) (Cells.new wr _ _ [y] rfl) (by omega) (by have := hb.size; simp; omega) ?_; intro v' w1 hown' hg')
      exact ⟨⟨4, s ++ [y], by omega, by go_num, (sb_step x 3 (by decide)).trans ((congrArg (fun z => z ++ [(seedBytes x).getD 3 0]) HG.out).trans (congrArg (fun z => s ++ [z]) HY.out)), hown', (hb.alloc hb.size _).grown hg' (by have := hb.size; simp; omega) (fun q h => (hown.lt q h).1)⟩, by simp [intOf]⟩
    · obtain ⟨y, hy⟩ : ∃ y, UInt8.ofNat (x.toNat / 2 ^ 24) = y := ⟨_, rfl⟩
      have e := sbw x 24 16777216 rfl
      rw [hy] at e
      have HY := Lib.hid hy; clear hy
      go_wp2_with (at_builtin; refine wpList_append_u8 rfl (.tmp 12) (.tmp 18) rfl w.heap.size _ 4 s rfl (hown.alloc _) _ 1 1 [y] rfl rfl (fun h => by cases h) (Cells.new wr _ _ [y] rfl) (by omega) (by have := hb.size; simp; omega) ?_; intro v' w1 hown' hg')
      exact ⟨⟨5, s ++ [y], by omega, by go_num, (sb_step x 4 (by decide)).trans ((congrArg (fun z => z ++ [(seedBytes x).getD 4 0]) HG.out).trans (congrArg (fun z => s ++ [z]) HY.out)), hown', (hb.alloc hb.size _).grown hg' (by have := hb.size; simp; omega) (fun q h => (hown.lt q h).1)⟩, by simp [intOf]⟩
    · obtain ⟨y, hy⟩ : ∃ y, UInt8.ofNat (x.toNat / 2 ^ 16) = y := ⟨_, rfl⟩
      have e := sbw x 16 65536 rfl
      rw [hy] at e
      have HY := Lib.hid hy; clear hy
      go_wp2_with (at_builtin; refine wpList_append_u8 rfl (.tmp 12) (.tmp 18) rfl w.heap.size _ 5 s rfl (hown.alloc _) _ 1 1 [y] rfl rfl (fun h => by cases h) (Cells.new wr _ _ [y] rfl) (by omega) (by have := hb.size; simp; omega) ?_; intro v' w1 hown' hg')
      exact ⟨⟨6, s ++ [y], by omega, by go_num, (sb_step x 5 (by decide)).trans ((congrArg (fun z => z ++ [(seedBytes x).getD 5 0]) HG.out).trans (congrArg (fun z => s ++ [z]) HY.out)), hown', (hb.alloc hb.size _).grown hg' (by have := hb.size; simp; omega) (fun q h => (hown.lt q h).1)⟩, by simp [intOf]⟩
    · obtain ⟨y, hy⟩ : ∃ y, UInt8.ofNat (x.toNat / 2 ^ 8) = y := ⟨_, rfl⟩
      have e := sbw x 8 256 rfl
      rw [hy] at e
      have HY := Lib.hid hy; clear hy
      go_wp2_with (at_builtin; refine wpList_append_u8 rfl (.tmp 12) (.tmp 18) rfl w.heap.size _ 6 s rfl (hown.alloc _) _ 1 1 [y] rfl rfl (fun h => by cases h) (Cells.new wr _ _ [y] rfl) (by omega) (by have := hb.size; simp; omega) ?_; intro v' w1 hown' hg')
      exact ⟨⟨7, s ++ [y], by omega, by go_num, (sb_step x 6 (by decide)).trans ((congrArg (fun z => z ++ [(seedBytes x).getD 6 0]) HG.out).trans (congrArg (fun z => s ++ [z]) HY.out)), hown', (hb.alloc hb.size _).grown hg' (by have := hb.size; simp; omega) (fun q h => (hown.lt q h).1)⟩, by simp [intOf]⟩
    · obtain ⟨y, hy⟩ : ∃ y, UInt8.ofNat (x.toNat / 2 ^ 0) = y := ⟨_, rfl⟩
      have e : IntKind.u8.wrap (x.toNat : Int) = ((UInt8.ofNat (x.toNat / 2 ^ 0)).toNat : Int) := by have := sbw x 0 1 rfl; simpa using this
      rw [hy] at e
      have HY := Lib.hid hy; clear hy
      go_wp2_with (at_builtin; refine wpList_append_u8 rfl (.tmp 12) (.tmp 18) rfl w.heap.size _ 7 s rfl (hown.alloc _) _ 1 1 [y] rfl rfl (fun h => by cases h) (Cells.new wr _ _ [y] rfl) (by omega) (by have := hb.size; simp; omega) ?_; intro v' w1 hown' hg')
      exact ⟨⟨8, s ++ [y], by omega, by go_num, (sb_step x 7 (by decide)).trans ((congrArg (fun z => z ++ [(seedBytes x).getD 7 0]) HG.out).trans (congrArg (fun z => s ++ [z]) HY.out)), hown', (hb.alloc hb.size _).grown hg' (by have := hb.size; simp; omega) (fun q h => (hown.lt q h).1)⟩, by simp [intOf]⟩
    · have hcw := Lib.hid (hc.below hb rfl)
      go_wp2_with (first | (at_builtin; refine wpList_append_u8 rfl (.tmp 20) (.tmp 21) rfl w.heap.size _ 8 s rfl hown ao n c l rfl HN.out hnone hcw.out (by omega) hb.size ?_; intro v' w1 hown' hg'; obtain ⟨g', cap', rfl⟩ := own8 hown') | (go_at_call 51; refine (refplain_cells _ _ _ (s ++ l) _ (by have := congrArg List.length HG.out; simp [HSB.out, HN.out] at this ⊢; omega) (by omega) (Cells.of_own hown')).mono ?_; rintro e w' ⟨rfl, rfl⟩) | (go_at_call 50; refine (refmix_any _ _).mono ?_; rintro e w' ⟨rfl, rfl⟩))
      go_ret
      refine ⟨ret_int ?_, hb.grown hg' hb.size (fun q h => (hown.lt q h).1)⟩
      rw [fnv_append, ← HG.out]
      rfl

/-- The two, the hash behind a name. -/
theorem of_opaque (x H : BitVec 64) (ao : Option Addr) (n c : Nat) (l : List UInt8) (w : World) (hH : Hid (mixB (fnv (fnv 14695981039346656037#64 (seedBytes x)) l) = H)) (hn : l.length = n) (hsz : n ≤ 1000000000000) (hc : Cells w ao l) :
    Calls Tryd.prog 43 #[.int .u64 (x.toNat : Int), .slice ao n c] w fun e w' => e = .returned (.int .u64 (H.toNat : Int)) ∧ Below w.heap.size w w' := by
  have h := of_any x ao n c l w hn hsz hc
  rw [hH.out] at h
  exact h
theorem refof_opaque (x H : BitVec 64) (ao : Option Addr) (n c : Nat) (l : List UInt8) (w : World) (hH : Hid (mixB (fnv (fnv 14695981039346656037#64 (seedBytes x)) l) = H)) (hn : l.length = n) (hsz : n ≤ 100000000000) (hnone : ao = none → n = 0 ∧ c = 0) (hc : Cells w ao l) :
    Calls Tryd.prog 44 #[.int .u64 (x.toNat : Int), .slice ao n c] w fun e w' => e = .returned (.int .u64 (H.toNat : Int)) ∧ Below w.heap.size w w' := by
  have h := refof_any x ao n c l w hn hsz hnone hc
  rw [hH.out] at h
  exact h

theorem belowB_lt (H : BitVec 64) (n : Int) (hn : n < 1) (w : World) :
    Calls Tryd.prog 42 #[.int .u64 (H.toNat : Int), .int .i64 n] w fun e w' => e = .returned (.int .i64 0) ∧ w = w' := below_lt _ n (by omega) (lt64 H) hn w
theorem belowB_ge (H : BitVec 64) (n : Int) (hn : 1 ≤ n) (hn1 : Hid (n < 9223372036854775808)) (w : World) :
    Calls Tryd.prog 42 #[.int .u64 (H.toNat : Int), .int .i64 n] w fun e w' => e = .returned (.int .i64 ((H.toNat : Int) % n)) ∧ w = w' := below_ge _ n (by omega) (lt64 H) hn hn1.out w
end Go.Proofs.YtifdbjombgcfcaaDoor
