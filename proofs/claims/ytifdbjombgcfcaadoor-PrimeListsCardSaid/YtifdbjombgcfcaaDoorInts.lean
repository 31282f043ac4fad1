/- Rows of numbers: append of one, and linkboynum.SameInts. -/
import Derived.Test.YtifdbjombgcfcaaDoorBase
import Derived.Deep.QuietTactic
import Derived.BigQuiet
namespace Go.Proofs.YtifdbjombgcfcaaDoor
open Go.RowKit
set_option linter.unusedVariables false

def iv (x : Int) : Value := .int .i64 x
theorem Tryd.infoInt : (Tryd.prog.info? 3).map (fun i => (i.zero, i.size, i.bytes)) = some (some (.int .i64 0), 1, 8) := by kernel_rfl
/-- The slice's address leads to the numbers l. -/
def IntsAt (w : World) (ao : Option Addr) (l : List Int) : Prop := l = [] ∨ ∃ b off, ao = some ⟨b, off, none⟩ ∧ ∀ i, i < l.length → w.cell? ⟨b, off + i, none⟩ = some (.int .i64 (l.getD i 0))
theorem IntsAt.below {w w' : World} {ao : Option Addr} {l : List Int} (h : IntsAt w ao l) (hb : Below w.heap.size w w') : IntsAt w' ao l := by
  rcases h with rfl | ⟨b, off, rfl, hc⟩
  · exact .inl rfl
  · refine .inr ⟨b, off, rfl, fun i hi => ?_⟩
    have hci := hc i hi
    rw [hb.cell (p := ⟨b, off + i, none⟩) (World.block_lt_of_cell? w _ hci)]
    exact hci
theorem IntsAt.new (w : World) (A : Array Value) (e : TypeId) (l : List Int) (h : A.toList = l.map iv) : IntsAt (w.alloc (.cells A e)) (some ⟨w.heap.size, 0, none⟩) l := by
  refine .inr ⟨w.heap.size, 0, rfl, fun i hi => ?_⟩
  rw [World.cell?_alloc_mark, Nat.zero_add]
  have : A[i]? = (l.map iv)[i]? := by rw [← h, Array.getElem?_toList]
  rw [this]
  simp [iv, List.getD, List.getElem?_eq_getElem hi]
theorem ints_own {w : World} {base n : Nat} {v : Value} {l : List Int} (h : w.ownsRow base 3 1 v n (l.map iv)) : ∃ ao cap, v = .slice ao n cap ∧ IntsAt w ao l ∧ l.length = n ∧ n ≤ cap ∧ cap ≤ maxLen := by
  have hl : l.length = n := by have := h.1; simpa using this
  rcases h.2 with ⟨rfl, rfl⟩ | ⟨g, cap, cur, rfl, hg, hb, hn, hm, _⟩
  · exact ⟨none, 0, rfl, .inl (List.eq_nil_of_length_eq_zero hl), hl, Nat.le_refl _, Nat.zero_le _⟩
  · refine ⟨_, cap, rfl, .inr ⟨g, 0, rfl, fun i hi => ?_⟩, hl, hn, hm⟩
    have := h.cells (g := g) rfl i (iv l[i]) (by simp [List.getElem?_eq_getElem hi])
    rw [Addr.add_lit] at this
    rw [this]
    simp [iv, List.getD, List.getElem?_eq_getElem hi]
theorem wpList_append_int {w : World} {ops : Array Oper} {rest : List Oper} {o : Oper} {a : Act} {Q : Exit → Act → World → Prop} (hgd : o.guard = none) (s x : Operand)
    (ho : o.op = .call { callee := .builtin .append, args := #[s, x], argTypes := #[25, 25] })
    (base : Nat) (v : Value) (n : Nat) (l : List Int) (hs : a.eval s = v) (hown : w.ownsRow base 3 1 v n (l.map iv)) (b : Nat) (y : Int) (hx : a.eval x = .slice (some ⟨b, 0, none⟩) 1 1) (hc : w.cell? ⟨b, 0, none⟩ = some (iv y))
    (hsz : n + 1 ≤ 1000000) (hbase : base ≤ w.heap.size)
    (h : ∀ v' w', w'.ownsRow base 3 1 v' (n + 1) ((l ++ [y]).map iv) → w.grownBy w' v.ownBlock → wpList Tryd.prog ops Q rest (a.put o.dst v') w') : wpList Tryd.prog ops Q (o :: rest) a w := by
  obtain ⟨i0, hi, hz0, hz1, hz2⟩ := info_parts Tryd.infoInt
  refine wpList_append_own w hgd s x 25 ho base 3 i0 (.int .i64 0) 1 8 Tryd.underlying25 hi hz0 hz1 hz2 rfl (by decide) v n _ hs hown ⟨b, 0, none⟩ 1 1 [iv y] hx rfl (fun j u hu => by
    match j, hu with
    | 0, hu => cases hu; rw [Addr.add_lit]; exact hc) (fun u hu => by simp at hu; subst hu; rfl) (by unfold maxLen; omega) (by omega) hbase ?_
  intro v' w' h1 h2 _
  exact h v' w' (by rw [List.map_append]; exact h1) h2
theorem ints_fresh (base : Nat) (w : World) (hb : base ≤ w.heap.size) : (w.alloc (.cells #[] 3)).ownsRow base 3 1 (.slice (some ⟨w.heap.size, 0, none⟩) 0 0) 0 (([] : List Int).map iv) := by
  refine ⟨rfl, .inr ⟨w.heap.size, 0, #[], rfl, hb, ?_, Nat.le_refl _, by unfold maxLen; omega, rfl, rfl⟩⟩
  exact heap_alloc_new w (.cells #[] 3)
theorem iown_ge {w : World} {base e size n : Nat} {v : Value} {xs : List Value} (h : w.ownsRow base e size v n xs) : ∀ k, v.ownBlock = some k → base ≤ k := by
  intro k hk
  rcases h.2 with ⟨rfl, _⟩ | ⟨g, cap, cur, rfl, hg, _⟩
  · simp [Value.ownBlock] at hk
  · simp [Value.ownBlock] at hk; omega
theorem iown_below {w w' : World} {B base : Nat} {e : TypeId} {size n : Nat} {v : Value} {xs : List Value} (h : w.ownsRow base e size v n xs) (hb : Below w.heap.size w w') : w'.ownsRow base e size v n xs := by
  obtain ⟨h1, h2⟩ := h
  refine ⟨h1, ?_⟩
  rcases h2 with h2 | ⟨g, cap, cur, rfl, hg, hh, r⟩
  · exact .inl h2
  · refine .inr ⟨g, cap, cur, rfl, hg, ?_, r⟩
    rw [hb.block g (Array.getElem?_eq_some_iff.1 hh).1]
    exact hh
set_option maxRecDepth 100000 in
set_option maxHeartbeats 2000000 in
theorem sameInts_any (ao bo : Option Addr) (n c d : Nat) (l : List Int) (w : World) (hn : l.length = n) (hsz : n ≤ 1000000) (ha : IntsAt w ao l) (hb : IntsAt w bo l) :
    Calls Tryd.prog 32 #[.slice ao n c, .slice bo n d] w fun e w' => e = .returned (.bool true) ∧ ∃ k, w' = w.drewN k := by
  have HA := Lib.hid ha
  have HB := Lib.hid hb
  have HN := Lib.hid hn
  clear ha hb hn
  go_enter Tryd.func32, Tryd.ntmps32
  go_wp2_with fail
  go_loopw [5, 13] (fun _ i wr => ∃ k : Nat, k ≤ n ∧ i = .int .i64 (k : Int) ∧ ∃ m, wr = w.drewN m) (fun _ i _ => n - (intOf i).toNat)
  case atStart => exact ⟨0, Nat.zero_le _, rfl, 0, rfl⟩
  case round =>
    obtain ⟨k, hk, rfl, m, rfl⟩ := hrel
    by_cases hlt : k < n
    · have hne : l ≠ [] := by intro e; have := HN.out; rw [e] at this; simp at this; omega
      obtain ⟨b, off, rfl, hc⟩ := HA.out.resolve_left hne
      obtain ⟨b', off', rfl, hd⟩ := HB.out.resolve_left hne
      have h1 := hc k (by rw [HN.out]; exact hlt)
      have h2 := hd k (by rw [HN.out]; exact hlt)
      obtain ⟨x, hx⟩ : ∃ x, l.getD k 0 = x := ⟨_, rfl⟩
      rw [hx] at h1 h2
      have hlt' : (k : Int) < (n : Int) := by omega
      have hge : (0 : Int) ≤ (k : Int) := by omega
      clear hne hc hd hx hlt
      go_wp2_with fail
      go_quiet (fail)
      go_wp2_with fail
      exact ⟨⟨k + 1, by omega, by go_num, _, rfl⟩, by simp [intOf]; omega⟩
    · obtain rfl : k = n := by omega
      go_wp2_with fail
      go_ret
      exact ⟨rfl, m, rfl⟩
end Go.Proofs.YtifdbjombgcfcaaDoor
