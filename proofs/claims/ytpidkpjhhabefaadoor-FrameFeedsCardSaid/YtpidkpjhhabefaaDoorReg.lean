/- 'append' of bytes as one step of a region that draws its order. -/
import Derived.Test.YtpidkpjhhabefaaDoorBase
import Derived.Deep.RegionHeld3
namespace Go.Proofs.YtpidkpjhhabefaaDoor
open Go.RowKit
set_option linter.unusedVariables false

theorem run_append_u8 {w : World} {ty : TypeId} (base : Nat) (v : Value) (n : Nat) (l1 : List UInt8) (hown : w.ownsRow base 5 1 v n (l1.map u8v))
    (ao : Option Addr) (m c : Nat) (l2 : List UInt8) (hm : l2.length = m) (hnone : ao = none → m = 0 ∧ c = 0) (hc : Cells w ao l2)
    (hsz : n + m ≤ 100000000000000) (hbase : base ≤ w.heap.size) :
    ∃ v' w', (Builtin.append_ #[22, 22] ty #[v, .slice ao m c]).run Tryd.prog w = .ok v' w' ∧ w'.ownsRow base 5 1 v' (n + m) ((l1 ++ l2).map u8v) ∧ w.grownBy w' v.ownBlock := by
  obtain ⟨i0, hi, hz0, hz1, hz2⟩ := info_parts Tryd.infoU8
  cases ao with
  | some ad =>
    obtain ⟨v', w', h1, h2, h3, _⟩ := run_append_own (P := Tryd.prog) w base 22 ty 5 i0 (.int .u8 0) 1 1 Tryd.underlying22 hi hz0 hz1 hz2 rfl (by decide) v n _ hown ad m c (l2.map u8v) (by simp [hm]) (hc.news ad rfl) (u8v_oneCell _) (by unfold maxLen; omega) (by omega) hbase
    exact ⟨v', w', h1, by rw [List.map_append]; exact h2, h3⟩
  | none =>
    obtain ⟨rfl, rfl⟩ := hnone rfl
    have : l2 = [] := List.eq_nil_of_length_eq_zero hm
    subst this
    exact ⟨v, w, run_append_owned_none (P := Tryd.prog) (w := w) base 22 ty 5 i0 1 Tryd.underlying22 hi v n _ hown, by simpa using hown, World.grownBy.refl _ _⟩

theorem step_append_u8 {w : World} {ops : Array Oper} {o : Oper} {a : Act} {K : Act → World → Prop} {Q : Exit → Act → World → Prop} {E : Prop} (hgd : o.guard = none) (s x : Operand)
    (ho : o.op = .call { callee := .builtin .append, args := #[s, x], argTypes := #[22, 22] })
    (base : Nat) (v : Value) (n : Nat) (l1 : List UInt8) (hs : a.eval s = v) (hown : w.ownsRow base 5 1 v n (l1.map u8v))
    (ao : Option Addr) (m c : Nat) (l2 : List UInt8) (hx : a.eval x = .slice ao m c) (hm : l2.length = m) (hnone : ao = none → m = 0 ∧ c = 0) (hc : Cells w ao l2)
    (hsz : n + m ≤ 100000000000000) (hbase : base ≤ w.heap.size)
    (h : ∀ v' w', w'.ownsRow base 5 1 v' (n + m) ((l1 ++ l2).map u8v) → w.grownBy w' v.ownBlock → K (a.put o.dst v') w') :
    if Region.wanted o (yielded ops a.tmps) = true then Oper.wp Tryd.prog o a w K Q else E := by
  have hw : Region.wanted o (yielded ops a.tmps) = true := by simp [Region.wanted, hgd]
  rw [if_pos hw]
  obtain ⟨v', w', hr, h2, h3⟩ := run_append_u8 (ty := o.type) base v n l1 hown ao m c l2 hm hnone hc hsz hbase
  unfold Oper.wp execOp
  simp only [ho, resolve, invoke, builtin, Sem.run_bind, Sem.run_pure, Result.andThen_ok, List.map_toArray, List.map_cons, List.map_nil, hs, hx, hr]
  exact h v' w' h2 h3
/-- A fresh empty row is the call's own. -/
theorem own_fresh (base : Nat) (w : World) (hb : base ≤ w.heap.size) : (w.alloc (.cells #[] 5)).ownsRow base 5 1 (.slice (some ⟨w.heap.size, 0, none⟩) 0 0) 0 (([] : List UInt8).map u8v) := by
  refine ⟨rfl, .inr ⟨w.heap.size, 0, #[], rfl, hb, ?_, Nat.le_refl _, by unfold maxLen; omega, rfl, rfl⟩⟩
  exact heap_alloc_new w (.cells #[] 5)
theorem own_ge {w : World} {base e size n : Nat} {v : Value} {xs : List Value} (h : w.ownsRow base e size v n xs) : ∀ k, v.ownBlock = some k → base ≤ k := by
  intro k hk
  rcases h.2 with ⟨rfl, _⟩ | ⟨g, cap, cur, rfl, hg, _⟩
  · simp [Value.ownBlock] at hk
  · simp [Value.ownBlock] at hk; omega
theorem own_cells {w : World} {base n : Nat} {v : Value} {l : List UInt8} (h : w.ownsRow base 5 1 v n (l.map u8v)) : ∃ ao cap, v = .slice ao n cap ∧ Cells w ao l ∧ l.length = n ∧ (ao = none → n = 0 ∧ cap = 0) ∧ n ≤ cap ∧ cap ≤ maxLen := by
  have hl : l.length = n := by have := h.1; simpa using this
  rcases h.2 with ⟨rfl, rfl⟩ | ⟨g, cap, cur, rfl, hg, hb, hn, hm, _⟩
  · exact ⟨none, 0, rfl, .inl (List.eq_nil_of_length_eq_zero hl), hl, fun _ => ⟨rfl, rfl⟩, Nat.le_refl _, Nat.zero_le _⟩
  · exact ⟨_, cap, rfl, Cells.of_own h, hl, (fun h => by cases h), hn, hm⟩
theorem own_weaken' {w : World} {base base' : Nat} {e : TypeId} {size n : Nat} {v : Value} {xs : List Value} (h : w.ownsRow base e size v n xs) (hb : base' ≤ base) : w.ownsRow base' e size v n xs := by
  obtain ⟨h1, h2⟩ := h
  refine ⟨h1, ?_⟩
  rcases h2 with h2 | ⟨g, cap, cur, rfl, hg, r⟩
  · exact .inl h2
  · exact .inr ⟨g, cap, cur, rfl, Nat.le_trans hb hg, r⟩
theorem own_below {w w' : World} {B base : Nat} {e : TypeId} {size n : Nat} {v : Value} {xs : List Value} (h : w.ownsRow base e size v n xs) (hb : Below w.heap.size w w') (hB : B ≤ w.heap.size) : w'.ownsRow base e size v n xs := by
  obtain ⟨h1, h2⟩ := h
  refine ⟨h1, ?_⟩
  rcases h2 with h2 | ⟨g, cap, cur, rfl, hg, hh, r⟩
  · exact .inl h2
  · refine .inr ⟨g, cap, cur, rfl, hg, ?_, r⟩
    rw [hb.block g (Array.getElem?_eq_some_iff.1 hh).1]
    exact hh
theorem Cells.left' {w : World} {ao : Option Addr} {l : List UInt8} (h : Cells w ao l) (t : Nat) : Cells w ao (l.take t) := by
  have : Cells w ao (l.take t ++ l.drop t) := by rw [List.take_append_drop]; exact h
  exact this.left
end Go.Proofs.YtpidkpjhhabefaaDoor
