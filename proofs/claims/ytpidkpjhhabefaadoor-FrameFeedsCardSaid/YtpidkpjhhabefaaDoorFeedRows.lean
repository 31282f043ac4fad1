/- Rows that grow while streams are fed: appends that tell where the row lies, frames onto frames. -/
import Derived.Test.YtpidkpjhhabefaaDoorFeedGo
import Derived.Deep.Matrix
namespace Go.Proofs.YtpidkpjhhabefaaDoor
open Go.RowKit FrameMath
set_option linter.unusedVariables false

theorem run_append_u8_at {w : World} {ty : TypeId} (base : Nat) (v : Value) (n : Nat) (l1 : List UInt8) (hown : w.ownsRow base 5 1 v n (l1.map u8v))
    (ao : Option Addr) (m c : Nat) (l2 : List UInt8) (hm : l2.length = m) (hnone : ao = none → m = 0 ∧ c = 0) (hc : Cells w ao l2)
    (hsz : n + m ≤ 100000000000000) (hbase : base ≤ w.heap.size) :
    ∃ v' w', (Builtin.append_ #[22, 22] ty #[v, .slice ao m c]).run Tryd.prog w = .ok v' w' ∧ w'.ownsRow base 5 1 v' (n + m) ((l1 ++ l2).map u8v) ∧ w.grownBy w' v.ownBlock ∧ (v'.ownBlock = v.ownBlock ∨ v'.ownBlock = some w.heap.size) := by
  obtain ⟨i0, hi, hz0, hz1, hz2⟩ := info_parts Tryd.infoU8
  cases ao with
  | some ad =>
    obtain ⟨v', w', h1, h2, h3, _, h5⟩ := run_append_own_at (P := Tryd.prog) w base 22 ty 5 i0 (.int .u8 0) 1 1 Tryd.underlying22 hi hz0 hz1 hz2 rfl (by decide) v n _ hown ad m c (l2.map u8v) (by simp [hm]) (hc.news ad rfl) (u8v_oneCell _) (by unfold maxLen; omega) (by omega) hbase
    exact ⟨v', w', h1, by rw [List.map_append]; exact h2, h3, h5⟩
  | none =>
    obtain ⟨rfl, rfl⟩ := hnone rfl
    have : l2 = [] := List.eq_nil_of_length_eq_zero hm
    subst this
    exact ⟨v, w, run_append_owned_none (P := Tryd.prog) (w := w) base 22 ty 5 i0 1 Tryd.underlying22 hi v n _ hown, by simpa using hown, World.grownBy.refl _ _, .inl rfl⟩
theorem wpList_append_u8_at {w : World} {ops : Array Oper} {rest : List Oper} {o : Oper} {a : Act} {Q : Exit → Act → World → Prop} (hgd : o.guard = none) (s x : Operand)
    (ho : o.op = .call { callee := .builtin .append, args := #[s, x], argTypes := #[22, 22] })
    (base : Nat) (v : Value) (n : Nat) (l1 : List UInt8) (hs : a.eval s = v) (hown : w.ownsRow base 5 1 v n (l1.map u8v))
    (ao : Option Addr) (m c : Nat) (l2 : List UInt8) (hx : a.eval x = .slice ao m c) (hm : l2.length = m) (hnone : ao = none → m = 0 ∧ c = 0) (hc : Cells w ao l2)
    (hsz : n + m ≤ 100000000000000) (hbase : base ≤ w.heap.size)
    (h : ∀ v' w', w'.ownsRow base 5 1 v' (n + m) ((l1 ++ l2).map u8v) → w.grownBy w' v.ownBlock → (v'.ownBlock = v.ownBlock ∨ v'.ownBlock = some w.heap.size) → wpList Tryd.prog ops Q rest (a.put o.dst v') w') : wpList Tryd.prog ops Q (o :: rest) a w := by
  obtain ⟨v', w', hr, h2, h3, h4⟩ := run_append_u8_at (ty := o.type) base v n l1 hown ao m c l2 hm hnone hc hsz hbase
  refine wpList_plain hgd fun K hK => ?_
  unfold Oper.wp execOp
  simp only [ho, resolve, invoke, builtin, Sem.run_bind, Sem.run_pure, Result.andThen_ok, List.map_toArray, List.map_cons, List.map_nil, hs, hx, hr]
  exact hK _ _ (h v' w' h2 h3 h4)

/-- Frames onto a row of frames. -/
theorem run_append_frames {T e ty : TypeId} (HT : FrT T e) {w : World} (base base2 : Nat) (v v2 : Value) (fs fs2 : List Fr) (H : Frames w base e v fs) (H2 : Frames w base2 e v2 fs2)
    (hap : ∀ f ∈ fs2, BodyOk w v.ownBlock f.2) (hsz : fs.length + fs2.length ≤ 1000000) (hbase : base ≤ w.heap.size) :
    ∃ v' w', (Builtin.append_ #[T, T] ty #[v, v2]).run Tryd.prog w = .ok v' w' ∧ Frames w' base e v' (fs ++ fs2) ∧ w.grownBy w' v.ownBlock ∧ (v'.ownBlock = v.ownBlock ∨ v'.ownBlock = some w.heap.size) := by
  obtain ⟨ht, hinfo⟩ := HT
  obtain ⟨i0, hi, hz0, hz1, hz2⟩ := info_parts hinfo
  rcases H2.1.2 with ⟨rfl, h0⟩ | ⟨g, cap, cur, rfl, hg, hb, hn, hm, hr⟩
  · have hf : fs2 = [] := List.eq_nil_of_length_eq_zero h0
    subst hf
    exact ⟨v, w, run_append_owned_none (P := Tryd.prog) (w := w) base T ty e i0 2 ht hi v fs.length (frCells fs) H.1, by simpa using H, World.grownBy.refl _ _, .inl rfl⟩
  · obtain ⟨v', w', hrun, hown, hgr, _, hat⟩ := run_append_own_at (P := Tryd.prog) w base T ty e i0 _ 2 32 ht hi hz0 hz1 hz2 rfl (by decide) v fs.length (frCells fs) H.1 ⟨g, 0, none⟩ fs2.length cap (frCells fs2) (by rw [frCells_length])
      (fun j u hu => H2.1.cells (g := g) rfl j u hu) (frCells_one fs2) (by unfold maxLen; omega) (by omega) hbase
    refine ⟨v', w', hrun, ⟨?_, ?_⟩, hgr, hat⟩
    · rw [List.length_append, frCells_append]
      exact hown
    · intro f hf
      rcases List.mem_append.1 hf with hf | hf
      · exact (H.2 f hf).grown hgr hat
      · exact (hap f hf).grown hgr hat
theorem wpList_append_frames {T e : TypeId} (HT : FrT T e) {w : World} {ops : Array Oper} {rest : List Oper} {o : Oper} {a : Act} {Q : Exit → Act → World → Prop} (hgd : o.guard = none) (s x : Operand)
    (ho : o.op = .call { callee := .builtin .append, args := #[s, x], argTypes := #[T, T] }) (base base2 : Nat) (v v2 : Value) (fs fs2 : List Fr) (hs : a.eval s = v) (hx : a.eval x = v2)
    (H : Frames w base e v fs) (H2 : Frames w base2 e v2 fs2) (hap : ∀ f ∈ fs2, BodyOk w v.ownBlock f.2) (hsz : fs.length + fs2.length ≤ 1000000) (hbase : base ≤ w.heap.size)
    (h : ∀ v' w', Frames w' base e v' (fs ++ fs2) → w.grownBy w' v.ownBlock → (v'.ownBlock = v.ownBlock ∨ v'.ownBlock = some w.heap.size) → wpList Tryd.prog ops Q rest (a.put o.dst v') w') : wpList Tryd.prog ops Q (o :: rest) a w := by
  obtain ⟨v', w', hr, hF, hg, hat⟩ := run_append_frames (ty := o.type) HT base base2 v v2 fs fs2 H H2 hap hsz hbase
  refine wpList_plain hgd fun K hK => ?_
  unfold Oper.wp execOp
  simp only [ho, resolve, invoke, builtin, Sem.run_bind, Sem.run_pure, Result.andThen_ok, List.map_toArray, List.map_cons, List.map_nil, hs, hx, hr]
  exact hK _ _ (h v' w' hF hg hat)

/-! ### Parts that come in -/
def IsParts (w : World) (v : Value) : Prop := ∃ (ao : Option Addr) (n c : Nat), v = .slice ao n c ∧ n ≤ c ∧ c ≤ maxLen ∧ ∀ i, i < n → ∃ b off a m k l, ao = some ⟨b, off, none⟩ ∧ w.cell? ⟨b, off + i, none⟩ = some (.slice a m k) ∧ Bytes8 w a m k l
set_option maxRecDepth 100000 in
theorem open_parts {H : Type} {enc : TypeId × Value → H} {w : World} {base : Nat} {held : Bool} {r : Reach} {b0 : Nat} {v : Value} {d : DataW H} {ps : List MemPlace} {w0 : World} (hval : Value.okWide Tryd.prog w0 r b0 38 v) (h : DataW.Trod enc Tryd.prog w base (fun _ => true) held 38 v d ps) : IsParts w v := by
  obtain ⟨a0, len0, cap0, rfl⟩ := WideShapes.okWide_slice Tryd.underlying38 hval
  obtain ⟨fuel, hf⟩ := h
  rcases Deep.open_int_rows Tryd.underlying38 Tryd.underlying22 Tryd.underlying5 (by kernel_rfl) (by kernel_rfl) hf with ⟨hcs, _⟩ | ⟨a, len, cap, A, L, C, Z, hcs, _, hl, hm, _, hrow⟩
  · simp [Value.cells] at hcs
    obtain ⟨rfl, rfl, rfl⟩ := hcs
    exact ⟨none, 0, 0, rfl, Nat.le_refl _, Nat.zero_le _, fun i h => absurd h (by omega)⟩
  · simp [Value.cells] at hcs
    obtain ⟨rfl, rfl, rfl⟩ := hcs
    refine ⟨_, _, _, rfl, hl, hm, fun i hi => ?_⟩
    obtain ⟨h1, h2, h3, h4, h5, h6, h7⟩ := hrow i (by omega)
    obtain ⟨b, off, spot⟩ := a
    have hspot : spot = none := by
      have := (hrow 0 (by omega)).1
      simpa [Addr.add] using World.cell?_spot this
    subst hspot
    rw [Addr.add_lit] at h1
    have hr : IsRow .u8 w (A i) (L i) (C i) (Z i) := by
      cases hA : A i with
      | none =>
        have hc0 := h6 hA
        exact .inl ⟨rfl, by omega, hc0, List.eq_nil_of_length_eq_zero (h4.trans hc0)⟩
      | some x => exact .inr ⟨x, rfl, h2, h3, h4, fun j hj => (h7 x hA).2 j (by omega), h5⟩
    obtain ⟨l, e1, e2, e3, e4, e5⟩ := bytes_of_row hr
    exact ⟨b, off, A i, L i, C i, l, rfl, h1, e1, e2, e3, e4, by unfold maxLen at e5; omega⟩
end Go.Proofs.YtpidkpjhhabefaaDoor
