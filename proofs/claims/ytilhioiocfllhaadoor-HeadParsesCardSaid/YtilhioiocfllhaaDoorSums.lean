/- The walks of sums.Add, sums.Fold, sums.Check and of the reference's Total, Fold, Check. -/
import Derived.Test.YtilhioiocfllhaaDoorChunk
import Derived.Test.YtilhioiocfllhaaDoorSumsMath
import Derived.Deep.QuietTactic
import Derived.BigQuiet
namespace Go.Proofs.YtilhioiocfllhaaDoor
open Go.RowKit Go.Shelf SumsMath
set_option linter.unusedVariables false
attribute [local go_sem] Oper.semAt_some

theorem or_bytes (x y : UInt8) : bits .or .i64 ((x.toNat : Int) * 256) (y.toNat : Int) = (x.toNat : Int) * 256 + (y.toNat : Int) := by
  have hx := x.toNat_lt
  have hy := y.toNat_lt
  exact bits_join .i64 63 (by decide) (fun n h0 h1 => by rw [IntKind.wrap_i64]; omega) 8 _ _ (by omega) (by omega) (by omega) (by omega) (by omega) (by omega)

set_option maxHeartbeats 1000000 in
theorem pair_one (b off c : Nat) (x : UInt8) (w : World) (hc0 : w.cell? ⟨b, off, none⟩ = some (.int .u8 (x.toNat : Int))) :
    Calls Tryd.prog 92 #[.slice (some ⟨b, off, none⟩) 1 c] w fun e w' => e = .returned (.int .i64 ((x.toNat : Int) * 256)) ∧ w = w' := by
  have hx : (x.toNat : Int) < 256 := by have := x.toNat_lt; omega
  go_enter Tryd.func92, Tryd.ntmps92
  go_wp2_with fail
  go_ret
  exact ⟨rfl, rfl⟩
set_option maxHeartbeats 1000000 in
theorem pair_two (b off n c : Nat) (x y : UInt8) (w : World) (hn : 2 ≤ n) (hc0 : w.cell? ⟨b, off, none⟩ = some (.int .u8 (x.toNat : Int))) (hc1 : w.cell? ⟨b, off + 1, none⟩ = some (.int .u8 (y.toNat : Int))) :
    Calls Tryd.prog 92 #[.slice (some ⟨b, off, none⟩) n c] w fun e w' => e = .returned (.int .i64 ((x.toNat : Int) * 256 + (y.toNat : Int))) ∧ w = w' := by
  have hx : (x.toNat : Int) < 256 := by have := x.toNat_lt; omega
  have hy : (y.toNat : Int) < 256 := by have := y.toNat_lt; omega
  have ho := or_bytes x y
  have hn1 : (1 : Int) < (n : Int) := by omega
  have hn0 : (0 : Int) < (n : Int) := by omega
  go_enter Tryd.func92, Tryd.ntmps92
  go_wp2_with fail
  go_ret
  exact ⟨rfl, rfl⟩
/-- sums.pair of bytes, one at least. -/
theorem pair_cells (b off n c : Nat) (l : List UInt8) (w : World) (hn : l.length = n) (h1 : 1 ≤ n) (hc : Cells w (some ⟨b, off, none⟩) l) :
    Calls Tryd.prog 92 #[.slice (some ⟨b, off, none⟩) n c] w fun e w' => e = .returned (.int .i64 (pairV l)) ∧ w = w' := by
  subst hn
  have h := hc.at
  match l, h1, h with
  | [x], _, h =>
    have h0 := h 0 (by simp)
    simp [List.getD] at h0
    exact pair_one b off c x w h0
  | x :: y :: r, _, h =>
    have h0 := h 0 (by simp)
    have h1 := h 1 (by simp)
    simp [List.getD] at h0 h1
    exact pair_two b off _ c x y w (by simp) h0 h1

set_option maxHeartbeats 1000000 in
theorem chunkMake_in (n : Nat) (ao : Option Addr) (len cap : Nat) (w : World) :
    CallsIn Fence.wide n Tryd.prog 91 #[.slice ao len cap, .int .i64 2] w fun e w' => e = .returned (.func (.func 101) #[] #[.pointer (some ⟨w.heap.size, 0, none⟩), .pointer (some ⟨w.heap.size + 1, 0, none⟩)]) ∧ w' = (w.alloc (.cells #[.slice ao len cap] 23)).alloc (.cells #[.int .i64 2] 3) := by
  refine callsIn_of_wp Tryd.func91 rfl trivial ?_ rfl
  simp only [Tryd.ntmps91, List.size_toArray, List.length_cons, List.length_nil, Nat.reduceAdd, Nat.reduceSub, Array.replicate_succ, Array.replicate_zero, List.push_toArray, List.append_toArray, List.nil_append, List.cons_append]
  gi_wp2
  go_ret
  exact ⟨rfl, rfl⟩

/-! ### Add -/
/-- The start of a sum: from 0 to 2^40. -/
def cl (s : Int) : Int := if s < 0 then 0 else if 1099511627776 < s then 1099511627776 else s
theorem cl_bd (s : Int) : 0 ≤ cl s ∧ cl s ≤ 1099511627776 := by unfold cl; split <;> (try split) <;> omega
def sumL (l : List UInt8) (pre : List (Ch2 l.length)) : Int := (pre.map fun x => pairV (l.drop (2 * x.1))).sum
theorem sumL_snoc (l : List UInt8) (pre : List (Ch2 l.length)) (x : Ch2 l.length) : sumL l (pre ++ [x]) = sumL l pre + pairV (l.drop (2 * x.1)) := by simp [sumL]
theorem sumL_upto (l : List UInt8) : ∀ k h, sumL l (chUpto l.length k h) = sumTo l k
  | 0, _ => rfl
  | k + 1, h => by rw [chUpto, sumL_snoc, sumL_upto l k]; rfl
theorem sumL_bd (l : List UInt8) : ∀ pre : List (Ch2 l.length), 0 ≤ sumL l pre ∧ sumL l pre ≤ 65535 * (pre.length : Int)
  | [] => ⟨by simp [sumL], by simp [sumL]⟩
  | x :: r => by
    have h := sumL_bd l r
    have h2 := pairV_bd (l.drop (2 * x.1))
    have e : sumL l (x :: r) = pairV (l.drop (2 * x.1)) + sumL l r := by simp [sumL]
    rw [e]
    simp only [List.length_cons]
    omega
/-- pairs of the whole are pairs of the round's own slice. -/
theorem pairV_take (l : List UInt8) (j : Nat) (h : 2 * j < l.length) : pairV (l.drop (2 * j)) = pairV ((l.drop (2 * j)).take (min 2 (l.length - 2 * j))) := by
  have hl : (l.drop (2 * j)).length = l.length - 2 * j := by simp
  rw [← hl]
  match l.drop (2 * j) with
  | [] => rfl
  | [x] => rfl
  | x :: y :: r => simp [pairV]

theorem body_end {w W : World} {B : Nat} {x y : Int} {v : Value} (hcell : W.cell? ⟨w.heap.size, 0, none⟩ = some v) (hf : W.frozen? ⟨w.heap.size, 0, none⟩ = false) (hB : Below w.heap.size w W) (hsz : w.heap.size + 1 + 1 < W.heap.size) (he : y = x) :
    KeepsFrom B W (W.setCell ⟨w.heap.size, 0, none⟩ (.int .i64 x)).drew ∧ KpC (w.heap.size + 1) (w.heap.size + 1 + 1) W (W.setCell ⟨w.heap.size, 0, none⟩ (.int .i64 x)).drew ∧
      ((W.setCell ⟨w.heap.size, 0, none⟩ (.int .i64 x)).drew.cell? ⟨w.heap.size, 0, none⟩ = some (.int .i64 y) ∧ (W.setCell ⟨w.heap.size, 0, none⟩ (.int .i64 x)).drew.frozen? ⟨w.heap.size, 0, none⟩ = false) ∧
      Below w.heap.size w (W.setCell ⟨w.heap.size, 0, none⟩ (.int .i64 x)).drew ∧ w.heap.size + 1 + 1 < (W.setCell ⟨w.heap.size, 0, none⟩ (.int .i64 x)).drew.heap.size := by
  subst he
  refine ⟨((KeepsOthers.setCell _ _ _).trans (KeepsOthers.drew _)).from _, ⟨Below.heap_setCell _ _ _ _ (by show _ ≠ w.heap.size; omega), Below.heap_setCell _ _ _ _ (by show _ ≠ w.heap.size; omega)⟩, ⟨World.cell?_setCell_same' _ _ _ (by rw [hcell]; rfl), ?_⟩, (hB.setCell (p := ⟨w.heap.size, 0, none⟩) (Nat.le_refl _) _).drew, ?_⟩
  · rw [frozen_drew_own, World.frozen?_setCell]; exact hf
  · show _ < (W.setCell _ _).heap.size
    rw [World.size_setCell]
    exact hsz
theorem chGet (l : List UInt8) (k m i : Nat) (h : i < m) : ((l.drop k).take m).getD i 0 = l.getD (k + i) 0 := by
  simp [List.getD, h]
set_option maxRecDepth 100000 in
set_option maxHeartbeats 4000000 in
theorem add_some (s : Int) (b off cap : Nat) (l : List UInt8) (w : World) (hlen : l.length ≤ 1000000) (hlc : l.length ≤ cap) (hcap : cap ≤ 9223372036854775807) (hc : ∀ i, i < l.length → w.cell? ⟨b, off + i, none⟩ = some (.int .u8 ((l.getD i 0).toNat : Int))) (hbw : b < w.heap.size) :
    Calls Tryd.prog 73 #[.int .i64 s, .slice (some ⟨b, off, none⟩) l.length cap] w fun e W' => e = .returned (.int .i64 (cl s + tot l)) ∧ Below w.heap.size w W' := by
  -- CASES
  have hbd := cl_bd s
  refine (callsIn_wide (n := 4)).1 ?_
  refine callsIn_of_wp_marks Tryd.func73 rfl trivial ?_ rfl
  simp only [Tryd.ntmps73, List.size_toArray, List.length_cons, List.length_nil, Nat.reduceAdd, Nat.reduceSub, Array.replicate_succ, Array.replicate_zero, List.push_toArray, List.append_toArray, List.nil_append, List.cons_append]
  gi_wp2_with (refine ⟨trivial, ?_⟩; gi_at_call 91; refine (chunkMake_in _ _ _ _ _).mono ?_; rintro e w' ⟨rfl, rfl⟩)
  · have hs : s < 0 := by assumption
    have HC : Hid (cl s = 0) := Lib.hid (by unfold cl; rw [if_pos hs])
    have bS := Boxed.new w 3 (.int .i64 0)
    have bB := Boxed.new (w.alloc (.cells #[.int .i64 0] 3)) 23 (.slice (some ⟨b, off, none⟩) l.length cap)
    have bN := Boxed.new ((w.alloc (.cells #[.int .i64 0] 3)).alloc (.cells #[.slice (some ⟨b, off, none⟩) l.length cap] 23)) 3 (.int .i64 2)
    simp only [World.size_alloc] at bB bN
    have hB0 : Below w.heap.size w (((w.alloc (.cells #[.int .i64 0] 3)).alloc (.cells #[.slice (some ⟨b, off, none⟩) l.length cap] 23)).alloc (.cells #[.int .i64 2] 3)) := (((Below.refl _ w).alloc (Nat.le_refl _) _).alloc (by simp) _).alloc (by simp; omega) _
    refine wpIn_rangeFunc_ownG rfl (by omega) (gf := 101) (lb := #[.pointer (some ⟨w.heap.size + 1, 0, none⟩), .pointer (some ⟨w.heap.size + 1 + 1, 0, none⟩)]) rfl trivial (enters_of Tryd.func101 (by kernel_rfl) rfl)
      (chunk_stops _ (by omega) (w.heap.size + 1) (w.heap.size + 1 + 1) b off l.length cap (by omega) hlc hcap _ (by simp) (by simp) (bB.alloc _).cell bN.cell) KpC.trans (KpC.b (by simp) (by simp)) (Below.refl _ _) (fun _ => rfl)
      (fun pre W => (W.cell? ⟨w.heap.size, 0, none⟩ = some (.int .i64 (0 + sumL l pre)) ∧ W.frozen? ⟨w.heap.size, 0, none⟩ = false) ∧ Below w.heap.size w W ∧ w.heap.size + 1 + 1 < W.heap.size)
      (fun _ _ _ => False)
      (OwnFrom.and (Own.from (fun s A B row hs hg hr => ⟨cell_kept hs.1 hg hr, (frozen_kept hs.1 hg hr).trans hs.2⟩) _) (OwnFrom.and (ownFrom_below (Nat.le_refl _) (by simp; omega)) (fun s A B row hs hg hr => Nat.lt_of_lt_of_le hs hg.size)))
      (fun _ _ _ _ _ hs _ _ => hs)
      ⟨⟨by rw [show (0 : Int) + sumL l [] = 0 by simp [sumL]]; exact ((bS.alloc _).alloc _).cell, ((bS.alloc _).alloc _).frozen⟩, hB0, by simp⟩
      (fun x => { tmps := #[.int .i64 s, .slice (some ⟨b, off, none⟩) l.length cap, .pointer (some ⟨w.heap.size, 0, none⟩), undef, .int .i64 0, chVal b off l.length x.1, .int .i64 s, .int .i64 0, .int .i64 0, .slice (some ⟨b, off, none⟩) l.length cap, .func (.func 101) #[] #[.pointer (some ⟨w.heap.size + 1, 0, none⟩), .pointer (some ⟨w.heap.size + 1 + 1, 0, none⟩)], chVal b off l.length x.1, undef, undef, undef, undef, undef], defers := [] }) ?assign ?body ?done ?stop
    case assign =>
      intro l' x W K hK
      gi_wp2
      exact hK
    case body =>
      rintro l' pre x W ⟨⟨hcell, hf⟩, hB, hsz⟩ hlt
      have hmx : Tryd.prog.follows .mixedOrders = true := by kernel_rfl
      have hx2 := x.2
      have hbd2 := sumL_bd l pre
      have hbd3 := pairV_bd (l.drop (2 * x.1))
      have hbig : (pre.length : Int) ≤ 1000000 := by omega
      have hcl2 : (l.drop (2 * x.1)).length = l.length - 2 * x.1 := by simp
      have HP : ∀ W' : World, Below w.heap.size w W' → Calls Tryd.prog 92 #[chVal b off l.length x.1] W' fun e w' => e = .returned (.int .i64 (pairV (l.drop (2 * x.1)))) ∧ W' = w' := fun W' hB' => by
        have h := pair_cells b (off + 2 * x.1) (min 2 (l.length - 2 * x.1)) (min 2 (l.length - 2 * x.1)) ((l.drop (2 * x.1)).take (min 2 (l.length - 2 * x.1))) W' (by rw [List.length_take, List.length_drop]; omega) (by omega) (.inr ⟨b, off + 2 * x.1, rfl, fun i hi => by
          have hi' : i < min 2 (l.length - 2 * x.1) := by simp at hi; omega
          have h := hc (2 * x.1 + i) (by omega)
          rw [← Nat.add_assoc] at h
          rw [hB'.cell (p := ⟨b, off + 2 * x.1 + i, none⟩) hbw, h, chGet l _ _ i hi']⟩)
        rw [← pairV_take l x.1 hx2] at h
        exact h
      have HPd := Lib.hid HP; clear HP
      have HS := Lib.hid (sumL_snoc l pre x)
      clear hcl2 hc
      gi_wp2
      gi_region_with_o (refine ⟨trivial, ?_⟩; gi_at_call 92; refine (CallsIn.inRound l' (callsIn_wide.2 (HPd.out _ (by first | exact hB | exact hB.drew)))).mono ?_; rintro e w' ⟨rfl, rfl⟩)
      all_goals gi_wp2
      all_goals (try go_bits)
      all_goals exact body_end hcell hf hB hsz (by rw [HS.out]; omega)
    case done =>
      rintro D ys W hD ⟨hh, rfl⟩ ⟨⟨hcell, hf⟩, hB, hsz⟩ hK
      gi_wp2
      refine ⟨by simp, .inl ⟨_, _, rfl, run_takeDeferred hK, ?_⟩⟩
      have e1 := sumL_upto l _ hh
      have e2 : tot l = sumTo l ((l.length + 1) / 2) := rfl
      have e3 := HC.out
      refine ⟨_, results_tmp rfl _ _ _, ?_, hB.trans (belowK_b (w := w) (Nat.le_refl _) W D _ _ (by simp at hD; omega) hK rfl rfl)⟩
      exact ret_int (by omega)
    case stop =>
      rintro D c pre W _ _ h _
      exact h.elim
  · have hs : 1099511627776 < s := by assumption
    have HC : Hid (cl s = 1099511627776) := Lib.hid (by unfold cl; rw [if_neg (by omega), if_pos hs])
    have bS := Boxed.new w 3 (.int .i64 1099511627776)
    have bB := Boxed.new (w.alloc (.cells #[.int .i64 1099511627776] 3)) 23 (.slice (some ⟨b, off, none⟩) l.length cap)
    have bN := Boxed.new ((w.alloc (.cells #[.int .i64 1099511627776] 3)).alloc (.cells #[.slice (some ⟨b, off, none⟩) l.length cap] 23)) 3 (.int .i64 2)
    simp only [World.size_alloc] at bB bN
    have hB0 : Below w.heap.size w (((w.alloc (.cells #[.int .i64 1099511627776] 3)).alloc (.cells #[.slice (some ⟨b, off, none⟩) l.length cap] 23)).alloc (.cells #[.int .i64 2] 3)) := (((Below.refl _ w).alloc (Nat.le_refl _) _).alloc (by simp) _).alloc (by simp; omega) _
    refine wpIn_rangeFunc_ownG rfl (by omega) (gf := 101) (lb := #[.pointer (some ⟨w.heap.size + 1, 0, none⟩), .pointer (some ⟨w.heap.size + 1 + 1, 0, none⟩)]) rfl trivial (enters_of Tryd.func101 (by kernel_rfl) rfl)
      (chunk_stops _ (by omega) (w.heap.size + 1) (w.heap.size + 1 + 1) b off l.length cap (by omega) hlc hcap _ (by simp) (by simp) (bB.alloc _).cell bN.cell) KpC.trans (KpC.b (by simp) (by simp)) (Below.refl _ _) (fun _ => rfl)
      (fun pre W => (W.cell? ⟨w.heap.size, 0, none⟩ = some (.int .i64 (1099511627776 + sumL l pre)) ∧ W.frozen? ⟨w.heap.size, 0, none⟩ = false) ∧ Below w.heap.size w W ∧ w.heap.size + 1 + 1 < W.heap.size)
      (fun _ _ _ => False)
      (OwnFrom.and (Own.from (fun s A B row hs hg hr => ⟨cell_kept hs.1 hg hr, (frozen_kept hs.1 hg hr).trans hs.2⟩) _) (OwnFrom.and (ownFrom_below (Nat.le_refl _) (by simp; omega)) (fun s A B row hs hg hr => Nat.lt_of_lt_of_le hs hg.size)))
      (fun _ _ _ _ _ hs _ _ => hs)
      ⟨⟨by rw [show (1099511627776 : Int) + sumL l [] = 1099511627776 by simp [sumL]]; exact ((bS.alloc _).alloc _).cell, ((bS.alloc _).alloc _).frozen⟩, hB0, by simp⟩
      (fun x => { tmps := #[.int .i64 s, .slice (some ⟨b, off, none⟩) l.length cap, .pointer (some ⟨w.heap.size, 0, none⟩), undef, .int .i64 0, chVal b off l.length x.1, .int .i64 s, .int .i64 s, .int .i64 1099511627776, .slice (some ⟨b, off, none⟩) l.length cap, .func (.func 101) #[] #[.pointer (some ⟨w.heap.size + 1, 0, none⟩), .pointer (some ⟨w.heap.size + 1 + 1, 0, none⟩)], chVal b off l.length x.1, undef, undef, undef, undef, undef], defers := [] }) ?assign ?body ?done ?stop
    case assign =>
      intro l' x W K hK
      gi_wp2
      exact hK
    case body =>
      rintro l' pre x W ⟨⟨hcell, hf⟩, hB, hsz⟩ hlt
      have hmx : Tryd.prog.follows .mixedOrders = true := by kernel_rfl
      have hx2 := x.2
      have hbd2 := sumL_bd l pre
      have hbd3 := pairV_bd (l.drop (2 * x.1))
      have hbig : (pre.length : Int) ≤ 1000000 := by omega
      have hcl2 : (l.drop (2 * x.1)).length = l.length - 2 * x.1 := by simp
      have HP : ∀ W' : World, Below w.heap.size w W' → Calls Tryd.prog 92 #[chVal b off l.length x.1] W' fun e w' => e = .returned (.int .i64 (pairV (l.drop (2 * x.1)))) ∧ W' = w' := fun W' hB' => by
        have h := pair_cells b (off + 2 * x.1) (min 2 (l.length - 2 * x.1)) (min 2 (l.length - 2 * x.1)) ((l.drop (2 * x.1)).take (min 2 (l.length - 2 * x.1))) W' (by rw [List.length_take, List.length_drop]; omega) (by omega) (.inr ⟨b, off + 2 * x.1, rfl, fun i hi => by
          have hi' : i < min 2 (l.length - 2 * x.1) := by simp at hi; omega
          have h := hc (2 * x.1 + i) (by omega)
          rw [← Nat.add_assoc] at h
          rw [hB'.cell (p := ⟨b, off + 2 * x.1 + i, none⟩) hbw, h, chGet l _ _ i hi']⟩)
        rw [← pairV_take l x.1 hx2] at h
        exact h
      have HPd := Lib.hid HP; clear HP
      have HS := Lib.hid (sumL_snoc l pre x)
      clear hcl2 hc
      gi_wp2
      gi_region_with_o (refine ⟨trivial, ?_⟩; gi_at_call 92; refine (CallsIn.inRound l' (callsIn_wide.2 (HPd.out _ (by first | exact hB | exact hB.drew)))).mono ?_; rintro e w' ⟨rfl, rfl⟩)
      all_goals gi_wp2
      all_goals (try go_bits)
      all_goals exact body_end hcell hf hB hsz (by rw [HS.out]; omega)
    case done =>
      rintro D ys W hD ⟨hh, rfl⟩ ⟨⟨hcell, hf⟩, hB, hsz⟩ hK
      gi_wp2
      refine ⟨by simp, .inl ⟨_, _, rfl, run_takeDeferred hK, ?_⟩⟩
      have e1 := sumL_upto l _ hh
      have e2 : tot l = sumTo l ((l.length + 1) / 2) := rfl
      have e3 := HC.out
      refine ⟨_, results_tmp rfl _ _ _, ?_, hB.trans (belowK_b (w := w) (Nat.le_refl _) W D _ _ (by simp at hD; omega) hK rfl rfl)⟩
      exact ret_int (by omega)
    case stop =>
      rintro D c pre W _ _ h _
      exact h.elim
  · have hs0 : 0 ≤ s := by assumption
    have hs1 : s ≤ 1099511627776 := by assumption
    have HC : Hid (cl s = s) := Lib.hid (by unfold cl; rw [if_neg (by omega), if_neg (by omega)])
    have bS := Boxed.new w 3 (.int .i64 s)
    have bB := Boxed.new (w.alloc (.cells #[.int .i64 s] 3)) 23 (.slice (some ⟨b, off, none⟩) l.length cap)
    have bN := Boxed.new ((w.alloc (.cells #[.int .i64 s] 3)).alloc (.cells #[.slice (some ⟨b, off, none⟩) l.length cap] 23)) 3 (.int .i64 2)
    simp only [World.size_alloc] at bB bN
    have hB0 : Below w.heap.size w (((w.alloc (.cells #[.int .i64 s] 3)).alloc (.cells #[.slice (some ⟨b, off, none⟩) l.length cap] 23)).alloc (.cells #[.int .i64 2] 3)) := (((Below.refl _ w).alloc (Nat.le_refl _) _).alloc (by simp) _).alloc (by simp; omega) _
    refine wpIn_rangeFunc_ownG rfl (by omega) (gf := 101) (lb := #[.pointer (some ⟨w.heap.size + 1, 0, none⟩), .pointer (some ⟨w.heap.size + 1 + 1, 0, none⟩)]) rfl trivial (enters_of Tryd.func101 (by kernel_rfl) rfl)
      (chunk_stops _ (by omega) (w.heap.size + 1) (w.heap.size + 1 + 1) b off l.length cap (by omega) hlc hcap _ (by simp) (by simp) (bB.alloc _).cell bN.cell) KpC.trans (KpC.b (by simp) (by simp)) (Below.refl _ _) (fun _ => rfl)
      (fun pre W => (W.cell? ⟨w.heap.size, 0, none⟩ = some (.int .i64 (s + sumL l pre)) ∧ W.frozen? ⟨w.heap.size, 0, none⟩ = false) ∧ Below w.heap.size w W ∧ w.heap.size + 1 + 1 < W.heap.size)
      (fun _ _ _ => False)
      (OwnFrom.and (Own.from (fun s A B row hs hg hr => ⟨cell_kept hs.1 hg hr, (frozen_kept hs.1 hg hr).trans hs.2⟩) _) (OwnFrom.and (ownFrom_below (Nat.le_refl _) (by simp; omega)) (fun s A B row hs hg hr => Nat.lt_of_lt_of_le hs hg.size)))
      (fun _ _ _ _ _ hs _ _ => hs)
      ⟨⟨by rw [show (s : Int) + sumL l [] = s by simp [sumL]]; exact ((bS.alloc _).alloc _).cell, ((bS.alloc _).alloc _).frozen⟩, hB0, by simp⟩
      (fun x => { tmps := #[.int .i64 s, .slice (some ⟨b, off, none⟩) l.length cap, .pointer (some ⟨w.heap.size, 0, none⟩), undef, .int .i64 0, chVal b off l.length x.1, .int .i64 s, .int .i64 s, .int .i64 s, .slice (some ⟨b, off, none⟩) l.length cap, .func (.func 101) #[] #[.pointer (some ⟨w.heap.size + 1, 0, none⟩), .pointer (some ⟨w.heap.size + 1 + 1, 0, none⟩)], chVal b off l.length x.1, undef, undef, undef, undef, undef], defers := [] }) ?assign ?body ?done ?stop
    case assign =>
      intro l' x W K hK
      gi_wp2
      exact hK
    case body =>
      rintro l' pre x W ⟨⟨hcell, hf⟩, hB, hsz⟩ hlt
      have hmx : Tryd.prog.follows .mixedOrders = true := by kernel_rfl
      have hx2 := x.2
      have hbd2 := sumL_bd l pre
      have hbd3 := pairV_bd (l.drop (2 * x.1))
      have hbig : (pre.length : Int) ≤ 1000000 := by omega
      have hcl2 : (l.drop (2 * x.1)).length = l.length - 2 * x.1 := by simp
      have HP : ∀ W' : World, Below w.heap.size w W' → Calls Tryd.prog 92 #[chVal b off l.length x.1] W' fun e w' => e = .returned (.int .i64 (pairV (l.drop (2 * x.1)))) ∧ W' = w' := fun W' hB' => by
        have h := pair_cells b (off + 2 * x.1) (min 2 (l.length - 2 * x.1)) (min 2 (l.length - 2 * x.1)) ((l.drop (2 * x.1)).take (min 2 (l.length - 2 * x.1))) W' (by rw [List.length_take, List.length_drop]; omega) (by omega) (.inr ⟨b, off + 2 * x.1, rfl, fun i hi => by
          have hi' : i < min 2 (l.length - 2 * x.1) := by simp at hi; omega
          have h := hc (2 * x.1 + i) (by omega)
          rw [← Nat.add_assoc] at h
          rw [hB'.cell (p := ⟨b, off + 2 * x.1 + i, none⟩) hbw, h, chGet l _ _ i hi']⟩)
        rw [← pairV_take l x.1 hx2] at h
        exact h
      have HPd := Lib.hid HP; clear HP
      have HS := Lib.hid (sumL_snoc l pre x)
      clear hcl2 hc
      gi_wp2
      gi_region_with_o (refine ⟨trivial, ?_⟩; gi_at_call 92; refine (CallsIn.inRound l' (callsIn_wide.2 (HPd.out _ (by first | exact hB | exact hB.drew)))).mono ?_; rintro e w' ⟨rfl, rfl⟩)
      all_goals gi_wp2
      all_goals (try go_bits)
      all_goals exact body_end hcell hf hB hsz (by rw [HS.out]; omega)
    case done =>
      rintro D ys W hD ⟨hh, rfl⟩ ⟨⟨hcell, hf⟩, hB, hsz⟩ hK
      gi_wp2
      refine ⟨by simp, .inl ⟨_, _, rfl, run_takeDeferred hK, ?_⟩⟩
      have e1 := sumL_upto l _ hh
      have e2 : tot l = sumTo l ((l.length + 1) / 2) := rfl
      have e3 := HC.out
      refine ⟨_, results_tmp rfl _ _ _, ?_, hB.trans (belowK_b (w := w) (Nat.le_refl _) W D _ _ (by simp at hD; omega) hK rfl rfl)⟩
      exact ret_int (by omega)
    case stop =>
      rintro D c pre W _ _ h _
      exact h.elim
-- END OF ADD

set_option maxRecDepth 100000 in
set_option maxHeartbeats 2000000 in
theorem add_none (s : Int) (ao : Option Addr) (cap : Nat) (w : World) :
    Calls Tryd.prog 73 #[.int .i64 s, .slice ao 0 cap] w fun e W' => e = .returned (.int .i64 (cl s)) ∧ Below w.heap.size w W' := by
  refine (callsIn_wide (n := 4)).1 ?_
  refine callsIn_of_wp_marks Tryd.func73 rfl trivial ?_ rfl
  simp only [Tryd.ntmps73, List.size_toArray, List.length_cons, List.length_nil, Nat.reduceAdd, Nat.reduceSub, Array.replicate_succ, Array.replicate_zero, List.push_toArray, List.append_toArray, List.nil_append, List.cons_append]
  gi_wp2_with (refine ⟨trivial, ?_⟩; gi_at_call 91; refine (chunkMake_in _ _ _ _ _).mono ?_; rintro e w' ⟨rfl, rfl⟩)
  -- NONE
  · have hs : s < 0 := by assumption
    have HC : Hid (cl s = 0) := Lib.hid (by unfold cl; rw [if_pos hs])
    have bS := Boxed.new w 3 (.int .i64 0)
    have bB := Boxed.new (w.alloc (.cells #[.int .i64 0] 3)) 23 (.slice ao 0 cap)
    have bN := Boxed.new ((w.alloc (.cells #[.int .i64 0] 3)).alloc (.cells #[.slice ao 0 cap] 23)) 3 (.int .i64 2)
    simp only [World.size_alloc] at bB bN
    have hB0 : Below w.heap.size w (((w.alloc (.cells #[.int .i64 0] 3)).alloc (.cells #[.slice ao 0 cap] 23)).alloc (.cells #[.int .i64 2] 3)) := (((Below.refl _ w).alloc (Nat.le_refl _) _).alloc (by simp) _).alloc (by simp; omega) _
    refine wpIn_rangeFunc_ownG rfl (by omega) (gf := 101) (lb := #[.pointer (some ⟨w.heap.size + 1, 0, none⟩), .pointer (some ⟨w.heap.size + 1 + 1, 0, none⟩)]) rfl trivial (enters_of Tryd.func101 (by kernel_rfl) rfl)
      (chunk_stops0 _ (w.heap.size + 1) (w.heap.size + 1 + 1) cap ao _ (by simp) (by simp) (bB.alloc _).cell bN.cell) KpC.trans (KpC.b (by simp) (by simp)) (Below.refl _ _) (fun _ => rfl)
      (fun pre W => (W.cell? ⟨w.heap.size, 0, none⟩ = some (.int .i64 0) ∧ W.frozen? ⟨w.heap.size, 0, none⟩ = false) ∧ Below w.heap.size w W)
      (fun _ _ _ => False)
      (OwnFrom.and (Own.from (fun s A B row hs hg hr => ⟨cell_kept hs.1 hg hr, (frozen_kept hs.1 hg hr).trans hs.2⟩) _) (ownFrom_below (Nat.le_refl _) (by simp; omega)))
      (fun _ _ _ _ _ hs _ _ => hs)
      ⟨⟨((bS.alloc _).alloc _).cell, ((bS.alloc _).alloc _).frozen⟩, hB0⟩
      (fun x => { tmps := #[.int .i64 s, .slice ao 0 cap, .pointer (some ⟨w.heap.size, 0, none⟩), undef, .int .i64 0, chVal 0 0 0 x.1, .int .i64 s, .int .i64 0, .int .i64 0, .slice ao 0 cap, .func (.func 101) #[] #[.pointer (some ⟨w.heap.size + 1, 0, none⟩), .pointer (some ⟨w.heap.size + 1 + 1, 0, none⟩)], chVal 0 0 0 x.1, undef, undef, undef, undef, undef], defers := [] }) ?assign ?body ?done ?stop
    case assign =>
      intro l' x W K hK
      gi_wp2
      exact hK
    case body =>
      rintro l' pre x W _ _
      have := x.2
      omega
    case done =>
      rintro D ys W hD rfl ⟨⟨hcell, hf⟩, hB⟩ hK
      gi_wp2
      refine ⟨by simp, .inl ⟨_, _, rfl, run_takeDeferred hK, ?_⟩⟩
      have e3 := HC.out
      refine ⟨_, results_tmp rfl _ _ _, ?_, hB.trans (belowK_b (w := w) (Nat.le_refl _) W D _ _ (by simp at hD; omega) hK rfl rfl)⟩
      exact ret_int (by omega)
    case stop =>
      rintro D c pre W _ _ h _
      exact h.elim
  · have hs : 1099511627776 < s := by assumption
    have HC : Hid (cl s = 1099511627776) := Lib.hid (by unfold cl; rw [if_neg (by omega), if_pos hs])
    have bS := Boxed.new w 3 (.int .i64 1099511627776)
    have bB := Boxed.new (w.alloc (.cells #[.int .i64 1099511627776] 3)) 23 (.slice ao 0 cap)
    have bN := Boxed.new ((w.alloc (.cells #[.int .i64 1099511627776] 3)).alloc (.cells #[.slice ao 0 cap] 23)) 3 (.int .i64 2)
    simp only [World.size_alloc] at bB bN
    have hB0 : Below w.heap.size w (((w.alloc (.cells #[.int .i64 1099511627776] 3)).alloc (.cells #[.slice ao 0 cap] 23)).alloc (.cells #[.int .i64 2] 3)) := (((Below.refl _ w).alloc (Nat.le_refl _) _).alloc (by simp) _).alloc (by simp; omega) _
    refine wpIn_rangeFunc_ownG rfl (by omega) (gf := 101) (lb := #[.pointer (some ⟨w.heap.size + 1, 0, none⟩), .pointer (some ⟨w.heap.size + 1 + 1, 0, none⟩)]) rfl trivial (enters_of Tryd.func101 (by kernel_rfl) rfl)
      (chunk_stops0 _ (w.heap.size + 1) (w.heap.size + 1 + 1) cap ao _ (by simp) (by simp) (bB.alloc _).cell bN.cell) KpC.trans (KpC.b (by simp) (by simp)) (Below.refl _ _) (fun _ => rfl)
      (fun pre W => (W.cell? ⟨w.heap.size, 0, none⟩ = some (.int .i64 1099511627776) ∧ W.frozen? ⟨w.heap.size, 0, none⟩ = false) ∧ Below w.heap.size w W)
      (fun _ _ _ => False)
      (OwnFrom.and (Own.from (fun s A B row hs hg hr => ⟨cell_kept hs.1 hg hr, (frozen_kept hs.1 hg hr).trans hs.2⟩) _) (ownFrom_below (Nat.le_refl _) (by simp; omega)))
      (fun _ _ _ _ _ hs _ _ => hs)
      ⟨⟨((bS.alloc _).alloc _).cell, ((bS.alloc _).alloc _).frozen⟩, hB0⟩
      (fun x => { tmps := #[.int .i64 s, .slice ao 0 cap, .pointer (some ⟨w.heap.size, 0, none⟩), undef, .int .i64 0, chVal 0 0 0 x.1, .int .i64 s, .int .i64 s, .int .i64 1099511627776, .slice ao 0 cap, .func (.func 101) #[] #[.pointer (some ⟨w.heap.size + 1, 0, none⟩), .pointer (some ⟨w.heap.size + 1 + 1, 0, none⟩)], chVal 0 0 0 x.1, undef, undef, undef, undef, undef], defers := [] }) ?assign ?body ?done ?stop
    case assign =>
      intro l' x W K hK
      gi_wp2
      exact hK
    case body =>
      rintro l' pre x W _ _
      have := x.2
      omega
    case done =>
      rintro D ys W hD rfl ⟨⟨hcell, hf⟩, hB⟩ hK
      gi_wp2
      refine ⟨by simp, .inl ⟨_, _, rfl, run_takeDeferred hK, ?_⟩⟩
      have e3 := HC.out
      refine ⟨_, results_tmp rfl _ _ _, ?_, hB.trans (belowK_b (w := w) (Nat.le_refl _) W D _ _ (by simp at hD; omega) hK rfl rfl)⟩
      exact ret_int (by omega)
    case stop =>
      rintro D c pre W _ _ h _
      exact h.elim
  · have hs0 : 0 ≤ s := by assumption
    have hs1 : s ≤ 1099511627776 := by assumption
    have HC : Hid (cl s = s) := Lib.hid (by unfold cl; rw [if_neg (by omega), if_neg (by omega)])
    have bS := Boxed.new w 3 (.int .i64 s)
    have bB := Boxed.new (w.alloc (.cells #[.int .i64 s] 3)) 23 (.slice ao 0 cap)
    have bN := Boxed.new ((w.alloc (.cells #[.int .i64 s] 3)).alloc (.cells #[.slice ao 0 cap] 23)) 3 (.int .i64 2)
    simp only [World.size_alloc] at bB bN
    have hB0 : Below w.heap.size w (((w.alloc (.cells #[.int .i64 s] 3)).alloc (.cells #[.slice ao 0 cap] 23)).alloc (.cells #[.int .i64 2] 3)) := (((Below.refl _ w).alloc (Nat.le_refl _) _).alloc (by simp) _).alloc (by simp; omega) _
    refine wpIn_rangeFunc_ownG rfl (by omega) (gf := 101) (lb := #[.pointer (some ⟨w.heap.size + 1, 0, none⟩), .pointer (some ⟨w.heap.size + 1 + 1, 0, none⟩)]) rfl trivial (enters_of Tryd.func101 (by kernel_rfl) rfl)
      (chunk_stops0 _ (w.heap.size + 1) (w.heap.size + 1 + 1) cap ao _ (by simp) (by simp) (bB.alloc _).cell bN.cell) KpC.trans (KpC.b (by simp) (by simp)) (Below.refl _ _) (fun _ => rfl)
      (fun pre W => (W.cell? ⟨w.heap.size, 0, none⟩ = some (.int .i64 s) ∧ W.frozen? ⟨w.heap.size, 0, none⟩ = false) ∧ Below w.heap.size w W)
      (fun _ _ _ => False)
      (OwnFrom.and (Own.from (fun s A B row hs hg hr => ⟨cell_kept hs.1 hg hr, (frozen_kept hs.1 hg hr).trans hs.2⟩) _) (ownFrom_below (Nat.le_refl _) (by simp; omega)))
      (fun _ _ _ _ _ hs _ _ => hs)
      ⟨⟨((bS.alloc _).alloc _).cell, ((bS.alloc _).alloc _).frozen⟩, hB0⟩
      (fun x => { tmps := #[.int .i64 s, .slice ao 0 cap, .pointer (some ⟨w.heap.size, 0, none⟩), undef, .int .i64 0, chVal 0 0 0 x.1, .int .i64 s, .int .i64 s, .int .i64 s, .slice ao 0 cap, .func (.func 101) #[] #[.pointer (some ⟨w.heap.size + 1, 0, none⟩), .pointer (some ⟨w.heap.size + 1 + 1, 0, none⟩)], chVal 0 0 0 x.1, undef, undef, undef, undef, undef], defers := [] }) ?assign ?body ?done ?stop
    case assign =>
      intro l' x W K hK
      gi_wp2
      exact hK
    case body =>
      rintro l' pre x W _ _
      have := x.2
      omega
    case done =>
      rintro D ys W hD rfl ⟨⟨hcell, hf⟩, hB⟩ hK
      gi_wp2
      refine ⟨by simp, .inl ⟨_, _, rfl, run_takeDeferred hK, ?_⟩⟩
      have e3 := HC.out
      refine ⟨_, results_tmp rfl _ _ _, ?_, hB.trans (belowK_b (w := w) (Nat.le_refl _) W D _ _ (by simp at hD; omega) hK rfl rfl)⟩
      exact ret_int (by omega)
    case stop =>
      rintro D c pre W _ _ h _
      exact h.elim
-- END OF NONE
end Go.Proofs.YtilhioiocfllhaaDoor
