/- slices.Chunk of a slice of bytes by two: which slices its rounds are handed. -/
import Derived.Test.YtilhioiocfllhaaDoorBase
import Derived.RangeFuncBox
import Derived.RangeFuncLeaves
import Derived.RangeFuncCalls
import Derived.RangeFuncNested
import Derived.RangeFuncBound
import Derived.Shelf.Abstract
import Derived.Shelf.RegionOpen
import Derived.OwnWalkIn
import Derived.TacticsInMore
import Derived.LoopNIn
import Derived.LoopIn
import Derived.Sort.BigQuietIn
namespace Go.Proofs.YtilhioiocfllhaaDoor
open Go.RowKit Go.Shelf
set_option linter.unusedVariables false
attribute [local go_sem] Oper.semAt_some

/-- A round's number. -/
abbrev Ch2 (len : Nat) : Type := { j : Nat // 2 * j < len }
def chVal (b off len j : Nat) : Value := .slice (some ⟨b, off + 2 * j, none⟩) (min 2 (len - 2 * j)) (min 2 (len - 2 * j))
/-- The rounds' numbers, k of them. -/
def chUpto (len : Nat) : (k : Nat) → 2 * k ≤ len + 1 → List (Ch2 len)
  | 0, _ => []
  | k + 1, h => chUpto len k (by omega) ++ [⟨k, by omega⟩]
theorem chUpto_length (len : Nat) : ∀ k h, (chUpto len k h).length = k
  | 0, _ => rfl
  | k + 1, h => by simp [chUpto, chUpto_length len k]

/-- What a round keeps for the iterator: the two boxes that it reads. -/
def KpC (Bs Bn : Nat) (W W' : World) : Prop := W'.heap[Bs]? = W.heap[Bs]? ∧ W'.heap[Bn]? = W.heap[Bn]?
theorem KpC.refl (Bs Bn : Nat) (W : World) : KpC Bs Bn W W := ⟨rfl, rfl⟩
theorem KpC.trans {Bs Bn : Nat} {A B C : World} (h : KpC Bs Bn A B) (k : KpC Bs Bn B C) : KpC Bs Bn A C := ⟨k.1.trans h.1, k.2.trans h.2⟩
theorem KpC.b {Bs Bn : Nat} {w : World} (h1 : Bs < w.heap.size) (h2 : Bn < w.heap.size) (W : World) (l : Nat) (o o' : Obj) (hl : w.heap.size ≤ l) (_ : W.heap[l]? = some o) (_ : o.isCells = false) (_ : o.isWalk = false) : KpC Bs Bn W (W.putObj l o') :=
  ⟨World.putObj_heap_other (by omega), World.putObj_heap_other (by omega)⟩
theorem KpC.of_below {Bs Bn B : Nat} {W W' : World} (h : Below B W W') (h1 : Bs < B) (h2 : Bn < B) : KpC Bs Bn W W' := ⟨h.block _ h1, h.block _ h2⟩

set_option maxRecDepth 100000 in
set_option maxHeartbeats 2000000 in
theorem chunk1_in (n : Nat) (hn : 1 ≤ n) (l Bs Bn b off len cap : Nat) (hlen : len ≤ 1000000000000) (hlc : len ≤ cap) (hcap : cap ≤ 9223372036854775807) (J Jx : List (Ch2 len) → World → Prop)
    (hJd : ∀ s A k, J s A → J s (A.drewN k))
    (hY : ∀ pre x W, J pre W → pre.length < (len + 1) / 2 → YieldAt Fence.wide (n - 1) Tryd.prog l #[chVal b off len x.1] W fun e W' =>
      (e = .returned (.bool true) ∧ J (pre ++ [x]) W' ∧ KpC Bs Bn W W') ∨ (e = .returned (.bool false) ∧ Jx (pre ++ [x]) W'))
    (W : World) (hs : W.cell? ⟨Bs, 0, none⟩ = some (.slice (some ⟨b, off, none⟩) len cap)) (hnn : W.cell? ⟨Bn, 0, none⟩ = some (.int .i64 2)) (h0 : J [] W) :
    CallsIn Fence.wide n Tryd.prog 101 #[.func (.yield l) #[] #[], .pointer (some ⟨Bs, 0, none⟩), .pointer (some ⟨Bn, 0, none⟩)] W fun e W' => (∃ v, e = .returned v) ∧
      ((∃ ys, (∃ h, ys = chUpto len ((len + 1) / 2) h) ∧ J ys W') ∨ (∃ pre, True ∧ Jx pre W')) := by
  refine callsIn_of_wp Tryd.func101 rfl trivial ?_ rfl
  simp only [Tryd.ntmps101, List.size_toArray, List.length_cons, List.length_nil, Nat.reduceAdd, Nat.reduceSub, Array.replicate_succ, Array.replicate_zero, List.push_toArray, List.append_toArray, List.nil_append, List.cons_append]
  gi_wp2
  gi_loopw [4] (fun i wr => ∃ (k : Nat) (h : 2 * k ≤ len + 1), i = .int .i64 (2 * (k : Int)) ∧ J (chUpto len k h) wr ∧ KpC Bs Bn W wr)
    (fun i _ => (len + 1 - (intOf i).toNat))
  case atStart => exact ⟨0, by omega, rfl, h0, KpC.refl _ _ _⟩
  case round =>
    obtain ⟨k, hk, rfl, hJs, hnx⟩ := hrel
    have hs' : wr.cell? ⟨Bs, 0, none⟩ = some (.slice (some ⟨b, off, none⟩) len cap) := (World.cell?_of_block (w := W) hnx.1).trans hs
    have hn' : wr.cell? ⟨Bn, 0, none⟩ = some (.int .i64 2) := (World.cell?_of_block (w := W) hnx.2).trans hnn
    by_cases hlt : 2 * k < len
    · have hlt' : 2 * (k : Int) < (len : Int) := by omega
      have hcap' : ¬ cap = 2 * k := by omega
      by_cases h2 : 2 ≤ len - 2 * k
      · have hm : min 2 (len - 2 * k) = 2 := by omega
        have hif : ¬ ((len - 2 * k : Nat) : Int) < 2 := by omega
        have hb : 2 * (k : Int) + 2 ≤ (len : Int) := by omega
        gi_wp2
        gi_quiet (fail)
        obtain ⟨fn, tmps, assign, body, hy, hR⟩ := hY _ ⟨k, hlt⟩ (wr.drewN nq) (hJd _ _ _ hJs) (by rw [chUpto_length]; omega)
        dsimp only [chVal] at hy
        rw [hm] at hy
        gi_wp2
        refine hR.mono ?_
        rintro e W3 (⟨rfl, hJ3, hk3⟩ | ⟨rfl, hJx3⟩)
        · have hn3 : W3.cell? ⟨Bn, 0, none⟩ = some (.int .i64 2) := (World.cell?_of_block (w := wr) hk3.2).trans hn'
          gi_wp2
          go_roundw
          case rel => exact ⟨k + 1, by omega, by go_num, hJ3, hnx.trans hk3⟩
          case measure => simp [intOf]; omega
        · gi_wp2
          refine bodyPost_ret (results_none rfl _ _ _) rfl ?_
          exact ⟨⟨_, rfl⟩, .inr ⟨_, trivial, hJx3⟩⟩
      · have hm : min 2 (len - 2 * k) = 1 := by omega
        have hm1 : len - 2 * k = 1 := by omega
        have hif : ((len - 2 * k : Nat) : Int) < 2 := by omega
        have hb : 2 * (k : Int) + 1 ≤ (len : Int) := by omega
        gi_wp2
        gi_quiet (fail)
        obtain ⟨fn, tmps, assign, body, hy, hR⟩ := hY _ ⟨k, hlt⟩ (wr.drewN nq) (hJd _ _ _ hJs) (by rw [chUpto_length]; omega)
        dsimp only [chVal] at hy
        rw [hm] at hy
        gi_wp2
        refine hR.mono ?_
        rintro e W3 (⟨rfl, hJ3, hk3⟩ | ⟨rfl, hJx3⟩)
        · have hn3 : W3.cell? ⟨Bn, 0, none⟩ = some (.int .i64 2) := (World.cell?_of_block (w := wr) hk3.2).trans hn'
          gi_wp2
          go_roundw
          case rel => exact ⟨k + 1, by omega, by go_num, hJ3, hnx.trans hk3⟩
          case measure => simp [intOf]; omega
        · gi_wp2
          refine bodyPost_ret (results_none rfl _ _ _) rfl ?_
          exact ⟨⟨_, rfl⟩, .inr ⟨_, trivial, hJx3⟩⟩
    · obtain rfl : k = (len + 1) / 2 := by omega
      gi_wp2
      go_end0
      exact ⟨⟨_, rfl⟩, .inl ⟨_, ⟨hk, rfl⟩, hJs⟩⟩

set_option maxRecDepth 100000 in
set_option maxHeartbeats 2000000 in
/-- No bytes: no round. -/
theorem chunk0_in (n : Nat) (l Bs Bn cap : Nat) (ao : Option Addr) (J : List (Ch2 0) → World → Prop)
    (W : World) (hs : W.cell? ⟨Bs, 0, none⟩ = some (.slice ao 0 cap)) (hnn : W.cell? ⟨Bn, 0, none⟩ = some (.int .i64 2)) (h0 : J [] W) :
    CallsIn Fence.wide n Tryd.prog 101 #[.func (.yield l) #[] #[], .pointer (some ⟨Bs, 0, none⟩), .pointer (some ⟨Bn, 0, none⟩)] W fun e W' => (∃ v, e = .returned v) ∧ J [] W' := by
  refine callsIn_of_wp Tryd.func101 rfl trivial ?_ rfl
  simp only [Tryd.ntmps101, List.size_toArray, List.length_cons, List.length_nil, Nat.reduceAdd, Nat.reduceSub, Array.replicate_succ, Array.replicate_zero, List.push_toArray, List.append_toArray, List.nil_append, List.cons_append]
  gi_wp2
  gi_loopw [4] (fun i wr => i = .int .i64 0 ∧ wr = W) (fun _ _ => 0)
  case atStart => exact ⟨rfl, rfl⟩
  case round =>
    obtain ⟨rfl, rfl⟩ := hrel
    gi_wp2
    go_end0
    exact ⟨⟨_, rfl⟩, h0⟩

/-- The iterator's contract. -/
theorem chunk_stops (n : Nat) (hn : 1 ≤ n) (Bs Bn b off len cap : Nat) (hlen : len ≤ 1000000000000) (hlc : len ≤ cap) (hcap : cap ≤ 9223372036854775807) (w : World) (h1 : Bs < w.heap.size) (h2 : Bn < w.heap.size)
    (hs : w.cell? ⟨Bs, 0, none⟩ = some (.slice (some ⟨b, off, none⟩) len cap)) (hnn : w.cell? ⟨Bn, 0, none⟩ = some (.int .i64 2)) :
    SeqStopsK Fence.wide n Tryd.prog 101 #[.pointer (some ⟨Bs, 0, none⟩), .pointer (some ⟨Bn, 0, none⟩)] (fun x : Ch2 len => #[chVal b off len x.1]) (KpC Bs Bn) (fun ys => ∃ h, ys = chUpto len ((len + 1) / 2) h) (fun _ => True) ((len + 1) / 2) w :=
  fun l J Jx W hW hJ _ hY h0 =>
    chunk1_in n hn l Bs Bn b off len cap hlen hlc hcap J Jx
      (fun s A k hs => hJ s A (A.drewN k) none hs ⟨rfl, rfl, rfl, Nat.le_refl _, fun _ _ _ => rfl⟩ (fun _ e => by cases e)) hY W
      ((hW.cell (p := ⟨Bs, 0, none⟩) h1).trans hs) ((hW.cell (p := ⟨Bn, 0, none⟩) h2).trans hnn) h0

theorem chunk_stops0 (n : Nat) (Bs Bn cap : Nat) (ao : Option Addr) (w : World) (h1 : Bs < w.heap.size) (h2 : Bn < w.heap.size)
    (hs : w.cell? ⟨Bs, 0, none⟩ = some (.slice ao 0 cap)) (hnn : w.cell? ⟨Bn, 0, none⟩ = some (.int .i64 2)) :
    SeqStopsK Fence.wide n Tryd.prog 101 #[.pointer (some ⟨Bs, 0, none⟩), .pointer (some ⟨Bn, 0, none⟩)] (fun x : Ch2 0 => #[chVal 0 0 0 x.1]) (KpC Bs Bn) (fun ys => ys = []) (fun _ => True) 0 w :=
  fun l J Jx W hW hJ _ hY h0 =>
    (chunk0_in n l Bs Bn cap ao J W ((hW.cell (p := ⟨Bs, 0, none⟩) h1).trans hs) ((hW.cell (p := ⟨Bn, 0, none⟩) h2).trans hnn) h0).mono fun e W' ⟨he, hj⟩ => ⟨he, .inl ⟨_, rfl, hj⟩⟩
end Go.Proofs.YtilhioiocfllhaaDoor
