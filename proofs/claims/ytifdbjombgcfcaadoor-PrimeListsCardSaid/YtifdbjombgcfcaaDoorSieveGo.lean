/- The walk of prime.sieve's iterator: a contract of its own (it writes its own row of marks between two rounds). -/
import Derived.Test.YtifdbjombgcfcaaDoorBase
import Derived.Test.YtifdbjombgcfcaaDoorPrimeSieve
import Derived.RangeFuncBox
import Derived.RangeFuncLeaves
import Derived.RangeFuncCalls
import Derived.RangeFuncNested
import Derived.RangeFuncBound
import Derived.Shelf.Abstract
import Derived.Shelf.RegionOpen
import Derived.OwnWalkIn
import Derived.TacticsInMore
import Derived.LoopNIn
import Derived.LoopIn
import Derived.Sort.BigQuietIn
namespace Go.Proofs.YtifdbjombgcfcaaDoor
open Go.RowKit Go.Shelf PrimeMath
set_option linter.unusedVariables false
attribute [local go_sem] Oper.semAt_some

theorem Tryd.infoBool : (Tryd.prog.info? 4).map (fun i => (i.zero, i.size, i.bytes)) = some (some (.bool false), 1, 1) := by kernel_rfl
/-- The marks. -/
def BoolsAt (W : World) (B N : Nat) (M : Nat → Prop) : Prop := ∀ k, k < N → ∃ b : Bool, W.cell? ⟨B, k, none⟩ = some (.bool b) ∧ W.frozen? ⟨B, k, none⟩ = false ∧ (b = true ↔ M k)
theorem BoolsAt.of_block {W W' : World} {B N : Nat} {M : Nat → Prop} (h : BoolsAt W B N M) (hb : W'.heap[B]? = W.heap[B]?) : BoolsAt W' B N M := fun k hk => by
  obtain ⟨b, h1, h2, h3⟩ := h k hk
  exact ⟨b, (World.cell?_of_block (a := ⟨B, k, none⟩) hb).trans h1, (World.frozen?_of_block (a := ⟨B, k, none⟩) hb).trans h2, h3⟩
theorem BoolsAt.iff {W : World} {B N : Nat} {M M' : Nat → Prop} (h : BoolsAt W B N M) (e : ∀ k, k < N → (M k ↔ M' k)) : BoolsAt W B N M' := fun k hk => by
  obtain ⟨b, h1, h2, h3⟩ := h k hk
  exact ⟨b, h1, h2, h3.trans (e k hk)⟩
theorem BoolsAt.set {W : World} {B N c : Nat} {M M' : Nat → Prop} (h : BoolsAt W B N M) (hc : c < N) (e : ∀ k, M' k ↔ k = c ∨ M k) : BoolsAt (W.setCell ⟨B, c, none⟩ (.bool true)) B N M' := fun k hk => by
  obtain ⟨b, h1, h2, h3⟩ := h k hk
  by_cases hkc : k = c
  · subst hkc
    exact ⟨true, World.cell?_setCell_same _ _ _ h1, by rw [World.frozen?_setCell]; exact h2, by simp [e]⟩
  · refine ⟨b, ?_, by rw [World.frozen?_setCell]; exact h2, by rw [h3, e]; simp [hkc]⟩
    rw [World.cell?_setCell_other _ _ _ _ (fun he => hkc (by cases he; rfl))]
    exact h1
theorem grownBy_setCellB (W : World) (b o : Nat) (v : Value) : W.grownBy (W.setCell ⟨b, o, none⟩ v) (some b) :=
  ⟨rfl, rfl, rfl, (KeepsWalks.setCell W _ v).size, fun k _ hk => Below.heap_setCell _ _ _ k (fun e => hk (by rw [e]))⟩
theorem bools_made {W w1 : World} {base B N : Nat} (h : w1.ownsRow base 4 1 (.slice (some ⟨B, 0, none⟩) N N) N (madeCells (Value.bool false).cells (N * 1)).toList) : BoolsAt w1 B N (fun k => Mk 2 k) := fun k hk => by
  have hc := h.cells (g := B) rfl k (.bool false) (by
    rw [show (Value.bool false).cells = #[.bool false] from rfl, toList_madeCells_one]
    simp [hk])
  have hf := h.frozenAt k
  rw [Addr.add_lit, Nat.zero_add] at hc
  exact ⟨false, hc, hf, by simp [mk_two k]⟩

set_option maxRecDepth 100000 in
set_option maxHeartbeats 4000000 in
theorem sieve1_in (n : Nat) (hn : 1 ≤ n) (l Bm m : Nat) (hm : m ≤ 10000) (J : List Nat → World → Prop) (W0 : World) (hBm : W0.cell? ⟨Bm, 0, none⟩ = some (.int .i64 (m : Int)))
    (hJ : ∀ pre A B row, J pre A → A.grownBy B row → (row = none ∨ row = some W0.heap.size) → J pre B)
    (hY : ∀ (q : Nat) (W : World), 2 ≤ q → q ≤ m → isP q = true → J (pl (q - 1)) W → W0.heap.size < W.heap.size → YieldAt Fence.wide (n - 1) Tryd.prog l #[.int .i64 (q : Int)] W fun e W' =>
      e = .returned (.bool true) ∧ J (pl q) W' ∧ W'.heap[W0.heap.size]? = W.heap[W0.heap.size]? ∧ W'.heap[Bm]? = W.heap[Bm]? ∧ W0.heap.size < W'.heap.size)
    (h0 : J [] W0) :
    CallsIn Fence.wide n Tryd.prog 45 #[.func (.yield l) #[] #[], .pointer (some ⟨Bm, 0, none⟩)] W0 fun e W' => (∃ v, e = .returned v) ∧ J (pl m) W' := by
  obtain ⟨N, hN⟩ : ∃ N : Nat, N = m + 1 := ⟨_, rfl⟩
  have hNi : (m : Int) + 1 = (N : Int) := by omega
  have hm1 : (m : Int) ≤ 10000 := by omega
  have hm0 : (0 : Int) ≤ (m : Int) := by omega
  have hN1 : (N : Int) ≤ 10001 := by omega
  have hN0 : (1 : Int) ≤ (N : Int) := by omega
  obtain ⟨i0, hi, hz0, hz1, hz2⟩ := info_parts Tryd.infoBool
  have hBlt : Bm < W0.heap.size := World.block_lt_of_cell? W0 _ hBm
  obtain ⟨w1, hmk, hown, hg⟩ := run_make_full (P := Tryd.prog) (w := W0) W0.heap.size 65 4 i0 (.bool false) 1 Tryd.underlying65 hi hz0 hz1 .i64 .i64 N (by rw [hz2]; omega) (by unfold maxLen; omega) (Nat.le_refl _)
  have hB1 := Lib.hid (bools_made (W := W0) hown)
  have hsz1 : W0.heap.size < w1.heap.size := by
    obtain ⟨b, hb, _⟩ := hB1.out 0 (by omega)
    exact World.block_lt_of_cell? w1 _ hb
  have hJ1 : J [] w1 := hJ _ _ _ _ h0 hg (.inl rfl)
  have hBm1 : w1.cell? ⟨Bm, 0, none⟩ = some (.int .i64 (m : Int)) := (World.cell?_of_block (a := ⟨Bm, 0, none⟩) (hg.block _ hBlt (by simp))).trans hBm
  have HN := Lib.hid hN
  clear hown hg hN
  refine callsIn_of_wp Tryd.func45 rfl trivial ?_ rfl
  simp only [Tryd.ntmps45, List.size_toArray, List.length_cons, List.length_nil, Nat.reduceAdd, Nat.reduceSub, Array.replicate_succ, Array.replicate_zero, List.push_toArray, List.append_toArray, List.nil_append, List.cons_append]
  gi_wp2
  gi_loopw [4] (fun v wr => ∃ q : Nat, v = .int .i64 (q : Int) ∧ 2 ≤ q ∧ (q ≤ m + 1 ∨ q = 2) ∧ Hid (J (pl (q - 1)) wr) ∧ wr.cell? ⟨Bm, 0, none⟩ = some (.int .i64 (m : Int)) ∧ Hid (BoolsAt wr W0.heap.size N (fun k => Mk q k)) ∧ Hid (W0.heap.size < wr.heap.size))
    (fun v _ => N - (intOf v).toNat)
  case atStart => exact ⟨2, rfl, Nat.le_refl _, .inr rfl, Lib.hid (by rw [show 2 - 1 = 1 from rfl, pl_one]; exact hJ1), hBm1, hB1, Lib.hid hsz1⟩
  case round =>
    obtain ⟨q, rfl, hq2, hq3, HJ, hBm2, HB, HS⟩ := hrel
    by_cases hle : q ≤ m
    · have hle' : (q : Int) ≤ (m : Int) := by omega
      have hq0 : (0 : Int) ≤ (q : Int) := by omega
      have hqN : (q : Int) < (N : Int) := by omega
      obtain ⟨b, hcb, hfb, hbM⟩ := HB.out q (by have := HN.out; omega)
      have hbM := hbM.trans (mk_self q hq2)
      cases b with
      | true =>
        have hP : Hid (isP q = false) := Lib.hid (hbM.1 rfl)
        clear hbM
        gi_wp2
        refine ⟨⟨q + 1, by go_num, by omega, .inl (by omega), Lib.hid (by rw [show q + 1 - 1 = q - 1 + 1 by omega, pl_succ, if_neg (by rw [show q - 1 + 1 = q by omega, hP.out]; simp)]; exact HJ.out), hBm2, Lib.hid (HB.out.iff fun k _ => by rw [mk_succ]; simp [hP.out]), HS⟩, ?_⟩
        have := HN.out
        simp [intOf]; omega
      | false =>
        have hP : isP q = true := by
          cases h : isP q with
          | true => rfl
          | false => have := hbM.2 h; cases this
        clear hbM
        have HPq := Lib.hid hP
        have hq1 : 2 ≤ (q : Int) := by omega
        have hqq : (q : Int) * (q : Int) ≤ 100000000 := by
          have : q * q ≤ 10000 * 10000 := Nat.mul_le_mul (by omega) (by omega)
          rw [← Int.natCast_mul]; omega
        have hqq0 : (0 : Int) ≤ (q : Int) * (q : Int) := by rw [← Int.natCast_mul]; omega
        obtain ⟨fn, tmps, assign, body, hy, hR⟩ := hY q wr hq2 hle hP HJ.out HS.out
        clear hP
        gi_wp2
        refine hR.mono ?_
        rintro e W3 ⟨rfl, hJ3, hb3, hm3, hs3⟩
        have HJ3 := Lib.hid hJ3
        have HS3 := Lib.hid hs3
        have hBm3 : W3.cell? ⟨Bm, 0, none⟩ = some (.int .i64 (m : Int)) := (World.cell?_of_block (a := ⟨Bm, 0, none⟩) hm3).trans hBm2
        have HB3 := Lib.hid (HB.out.of_block hb3)
        clear hJ3 hs3 hb3 hm3 hcb hfb
        gi_wp2
        gi_loopw [5] (fun v wr => ∃ c : Nat, v = .int .i64 (c : Int) ∧ Hid (q ∣ c ∧ q * q ≤ c) ∧ Hid (J (pl q) wr) ∧ wr.cell? ⟨Bm, 0, none⟩ = some (.int .i64 (m : Int)) ∧ Hid (BoolsAt wr W0.heap.size N (fun k => Mk q k ∨ (q ∣ k ∧ q * q ≤ k ∧ k < c))) ∧ Hid (W0.heap.size < wr.heap.size))
          (fun v _ => N - (intOf v).toNat)
        case atStart => exact ⟨q * q, by rw [Int.natCast_mul], Lib.hid ⟨Nat.dvd_mul_right q q, Nat.le_refl _⟩, HJ3, hBm3, Lib.hid (HB3.out.iff fun k _ => by constructor <;> intro h; exact .inl h; rcases h with h | ⟨_, h1, h2⟩; exact h; omega), HS3⟩
        case round =>
          obtain ⟨c, rfl, HC, HJ4, hBm4, HB4, HS4⟩ := hrel
          by_cases hcm : c ≤ m
          · have hcm' : (c : Int) ≤ (m : Int) := by omega
            have hc0 : (0 : Int) ≤ (c : Int) := by omega
            have hcN : (c : Int) < (N : Int) := by omega
            obtain ⟨b, hcb, hfb, hbM⟩ := HB4.out c (by have := HN.out; omega)
            clear hbM
            gi_wp2
            case isTrue => rename_i hfz; rw [hfb] at hfz; cases hfz
            case roundEnd =>
              have hC := HC.out
              have hne : Bm ≠ W0.heap.size := by omega
              refine ⟨⟨c + q, by go_num, Lib.hid ⟨(Nat.dvd_add_right hC.1).2 (Nat.dvd_refl q), by omega⟩, Lib.hid (hJ _ _ _ _ HJ4.out (grownBy_setCellB _ _ _ _) (.inr rfl)), ?_, Lib.hid (HB4.out.set (by have := HN.out; omega) fun k => ?_), Lib.hid ?_⟩, ?_⟩
              · rw [World.cell?_setCell_other _ _ _ _ (fun he => hne (by cases he; rfl))]; exact hBm4
              · rw [mult_next q c k (by omega) hC.1 hC.2]
                constructor
                · rintro (h | h | h)
                  · exact .inr (.inl h)
                  · exact .inl h
                  · exact .inr (.inr h)
                · rintro (h | h | h)
                  · exact .inr (.inl h)
                  · exact .inl h
                  · exact .inr (.inr h)
              · show _ < (wr.setCell _ _).heap.size
                rw [World.size_setCell]; exact HS4.out
              · have := HN.out
                simp [intOf]; omega
          · gi_wp2
            refine ⟨⟨q + 1, by go_num, by omega, .inl (by omega), Lib.hid (by rw [show q + 1 - 1 = q by omega]; exact HJ4.out), hBm4, Lib.hid (HB4.out.iff fun k hk => ?_), HS4⟩, ?_⟩
            · rw [mk_succ]
              have := HN.out
              have := HPq.out
              constructor
              · rintro (h | ⟨h1, h2, _⟩)
                · exact .inl h
                · exact .inr ⟨HPq.out, h1, h2⟩
              · rintro (h | ⟨_, h1, h2⟩)
                · exact .inl h
                · exact .inr ⟨h1, h2, by omega⟩
            · have := HN.out
              simp [intOf]; omega
    · gi_wp2
      go_end0
      refine ⟨⟨_, rfl⟩, ?_⟩
      have h := HJ.out
      have he : pl (q - 1) = pl m := by
        rcases hq3 with h3 | h3
        · rw [show q - 1 = m by omega]
        · subst h3
          match m, hle with
          | 0, _ => rw [pl_zero]; exact pl_one
          | 1, _ => rfl
          | m + 2, h => omega
      rw [he] at h
      exact h
end Go.Proofs.YtifdbjombgcfcaaDoor
