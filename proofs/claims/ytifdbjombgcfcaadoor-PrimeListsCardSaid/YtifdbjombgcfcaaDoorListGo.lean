/- The range over prime.sieve's iterator, and prime.List. -/
import Derived.Test.YtifdbjombgcfcaaDoorSieveGo
import Derived.Test.YtifdbjombgcfcaaDoorInts
namespace Go.Proofs.YtifdbjombgcfcaaDoor
open Go.RowKit Go.Shelf PrimeMath
set_option linter.unusedVariables false
attribute [local go_sem] Oper.semAt_some

/-- How a round's body may be left. -/
def sievePost (B Bm : Nat) (I : List Nat → World → Prop) (xs : List Nat) (W : World) : Exit → Act → World → Prop
  | .normal, _, W' => (∀ k, B ≤ k → k ≤ B + 2 → W'.heap[k]? = W.heap[k]?) ∧ W'.heap[Bm]? = W.heap[Bm]? ∧ W.heap.size ≤ W'.heap.size ∧ I xs W'
  | _, _, _ => False

theorem wpIn_range_sieve {n : Nat} {g : Operand} {p : Tmp} {assign body : Code} {Q : Exit → Act → World → Prop} {a : Act} {w : World} (h1 : 2 ≤ n) (Bm m : Nat) (hm : m ≤ 10000)
    (hg : a.eval g = .func (.func 45) #[] #[.pointer (some ⟨Bm, 0, none⟩)]) (hBm : w.cell? ⟨Bm, 0, none⟩ = some (.int .i64 (m : Int)))
    (I : List Nat → World → Prop) (hI : ∀ pre A B row, I pre A → A.grownBy B row → (∀ r, row = some r → w.heap.size ≤ r ∧ r ≤ w.heap.size + 2) → I pre B) (h0 : I [] w) (a₁ : Nat → Act)
    (hassign : ∀ (l : Nat) (q : Nat) (W : World) (K : Act → World → Prop), K (a₁ q) W →
      assign.wpIn (Fence.wide.inRound l) (n - 1 - 1) Tryd.prog (Exit.then K (fun _ _ _ => False)) { tmps := ((#[p] : Array Tmp).zip #[.int .i64 (q : Int)]).foldl (fun t (p, v) => t.setIfInBounds p v) a.tmps, defers := [] } W)
    (hbody : ∀ (l q : Nat) (W : World), 2 ≤ q → q ≤ m → isP q = true → I (pl (q - 1)) W → w.heap.size + 2 < W.heap.size → body.wpIn (Fence.wide.inRound l) (n - 1 - 1) Tryd.prog (sievePost w.heap.size Bm I (pl q) W) (a₁ q) W)
    (hdone : ∀ (W : World), I (pl m) W → W.heap[w.heap.size]? = some (.deferred (some [])) → Q .normal { a with defers := { target := .collected w.heap.size, args := #[] } :: a.defers } W) :
    (Code.rangeFunc g #[p] assign body).wpIn Fence.wide n Tryd.prog Q a w := by
  have hBlt : Bm < w.heap.size := World.block_lt_of_cell? w _ hBm
  refine wpIn_rangeFunc ?_
  intro fn hfn
  obtain ⟨rec, hrec⟩ : ∃ rec : LoopState → Option Code → Loop, rec = fun st pe => { state := st, pending := pe, fn, tmps := a.tmps, params := #[p], assign, body, defers := w.heap.size } := ⟨_, rfl⟩
  obtain ⟨W1, hW1⟩ : ∃ W1, (w.alloc (.deferred (some []))).alloc (.loop (rec .ready none)) = W1 := ⟨_, rfl⟩
  have hs1 : W1.heap.size = w.heap.size + 2 := by rw [← hW1]; simp
  have hL1 : W1.heap[w.heap.size + 1]? = some (.loop (rec .ready none)) := by
    rw [← hW1]; have := World.alloc_heap_new (w.alloc (.deferred (some []))) (.loop (rec .ready none)); rwa [World.size_alloc] at this
  have hK1 : W1.heap[w.heap.size]? = some (.deferred (some [])) := by
    rw [← hW1]; exact (Below.heap_alloc _ _ _ (by simp)).trans (World.alloc_heap_new w _)
  have hg1 : w.grownBy W1 none := by
    rw [← hW1]; exact (World.grownBy_alloc w _ none).trans (World.grownBy_alloc _ _ none)
  have hI1 : I [] W1 := hI _ _ _ _ h0 hg1 (fun _ e => by cases e)
  have hBm1 : W1.cell? ⟨Bm, 0, none⟩ = some (.int .i64 (m : Int)) := (World.cell?_of_block (a := ⟨Bm, 0, none⟩) (hg1.block _ hBlt (by simp))).trans hBm
  refine ⟨w.heap.size + 1, [{ target := .collected w.heap.size, args := #[] }], W1, { target := .fn (.func 45) #[.pointer (some ⟨Bm, 0, none⟩)], args := #[.func (.yield (w.heap.size + 1)) #[] #[]] }, W1, 45,
    #[.func (.yield (w.heap.size + 1)) #[] #[]] ++ #[.pointer (some ⟨Bm, 0, none⟩)], W1, ?_, ?_, ?_, ?_, fun _ => by omega, ?_⟩
  · rw [← hW1, hrec]; exact run_enterLoop_outer _ _ _ _ _
  · simp only [resolve, hg]
    simp [go_sem]
  · intro f' hf'; trivial
  · simp [invoke, go_sem]
  · refine (sieve1_in (n - 1) (by omega) (w.heap.size + 1) Bm m hm
      (fun pre W => I pre W ∧ W.heap[w.heap.size + 1]? = some (.loop (rec .ready none)) ∧ W.heap[w.heap.size]? = some (.deferred (some [])))
      W1 hBm1 ?_ ?_ ⟨hI1, hL1, hK1⟩).mono ?_
    · rintro pre A B row ⟨hi, hl, hk⟩ hgr hrow
      rw [hs1] at hrow
      refine ⟨hI _ _ _ _ hi hgr (fun r e => ?_), (hgr.block _ (Array.getElem?_eq_some_iff.1 hl).1 ?_).trans hl, (hgr.block _ (Array.getElem?_eq_some_iff.1 hk).1 ?_).trans hk⟩
      · rcases hrow with rfl | rfl
        · cases e
        · cases e; omega
      · rcases hrow with rfl | rfl
        · simp
        · intro e; have := Option.some.inj e; omega
      · rcases hrow with rfl | rfl
        · simp
        · intro e; have := Option.some.inj e; omega
    · -- ONE ROUND
      rintro q W hq2 hqm hP ⟨hi, hl, hk⟩ hsz
      rw [hs1] at hsz ⊢
      have hlt : w.heap.size + 1 < W.heap.size := (Array.getElem?_eq_some_iff.1 hl).1
      have hy := run_yield (P := Tryd.prog) (args := #[.int .i64 (q : Int)]) hl (by rw [hrec]; rfl)
      rw [hrec] at hy
      refine ⟨fn, _, assign, body, hy, roundIn_of_wpIn hfn (hassign _ q W _ ⟨_, run_beginRound hl (by rw [hrec]), ?_⟩)⟩
      have hl2 : (W.putObj (w.heap.size + 1) (.loop { rec .ready none with state := .busy })).heap[w.heap.size + 1]? = some (.loop { rec .ready none with state := .busy }) := World.putObj_heap_same hlt
      have hk2 : (W.putObj (w.heap.size + 1) (.loop { rec .ready none with state := .busy })).heap[w.heap.size]? = some (.deferred (some [])) := (World.putObj_heap_other (by omega)).trans hk
      refine wpIn_mono (hbody _ q _ hq2 hqm hP (hI _ _ _ _ hi (grownBy_putObj' W _ _) (fun r e => by cases e; omega)) (by rw [World.putObj_size]; exact hsz)) ?_
      rintro e a3 W3 hp
      cases e with
      | normal =>
        obtain ⟨hkeep, hkm, hsz3, hi3⟩ := hp
        rw [World.putObj_size] at hsz3
        have hl3 := (hkeep (w.heap.size + 1) (by omega) (by omega)).trans hl2
        have hk3 := (hkeep w.heap.size (by omega) (by omega)).trans hk2
        have hr := run_endRound (P := Tryd.prog) none hl3
        rw [hrec] at hr
        refine ⟨_, _, hr, rfl, ⟨hI _ _ _ _ hi3 (grownBy_putObj' W3 _ _) (fun r e => by cases e; omega), ?_, (World.putObj_heap_other (by omega)).trans hk3⟩, ?_, ?_, ?_⟩
        · rw [hrec]; exact World.putObj_heap_same (Array.getElem?_eq_some_iff.1 hl3).1
        · rw [World.putObj_heap_other (by omega), hkeep _ (by omega) (by omega), World.putObj_heap_other (by omega)]
        · rw [World.putObj_heap_other (by omega), hkm, World.putObj_heap_other (by omega)]
        · rw [World.putObj_size]; omega
      | ret => exact hp.elim
      | exit id => exact hp.elim
      | goto t => exact hp.elim
      | panic ch => exact hp.elim
      | outgrown => exact hp.elim
    · -- BEHIND THE ITERATOR
      rintro e W2 ⟨⟨v, rfl⟩, hi, hl, hk⟩
      exact ⟨none, _, by have := run_endLoop (P := Tryd.prog) hl (by rw [hrec]; simp); rw [hrec] at this; exact this, hdone _ (hI _ _ _ _ hi (grownBy_putObj' W2 _ _) (fun r e => by cases e; omega)) ((World.putObj_heap_other (by omega)).trans hk)⟩

theorem sieveMake_in (n : Nat) (m : Int) (w : World) :
    CallsIn Fence.wide n Tryd.prog 37 #[.int .i64 m] w fun e w' => e = .returned (.func (.func 45) #[] #[.pointer (some ⟨w.heap.size, 0, none⟩)]) ∧ w' = w.alloc (.cells #[.int .i64 m] 3) := by
  refine callsIn_of_wp Tryd.func37 rfl trivial ?_ rfl
  simp only [Tryd.ntmps37, List.size_toArray, List.length_cons, List.length_nil, Nat.reduceAdd, Nat.reduceSub, Array.replicate_succ, Array.replicate_zero, List.push_toArray, List.append_toArray, List.nil_append, List.cons_append]
  gi_wp2
  go_ret
  exact ⟨rfl, rfl⟩
end Go.Proofs.YtifdbjombgcfcaaDoor
