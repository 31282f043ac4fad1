/- Where the errors of package api lie, out of what a row lists. After the kit's worked proof Sent6Proofs. -/
import Derived.Test.YtpidkpjhhabefaaDoorSent
import Derived.Stop.LaidErr
namespace Go.Proofs.YtpidkpjhhabefaaDoor
open Go.RowKit
set_option linter.unusedVariables false

theorem rowE (u : TypeId) (h : Tryd.prog.typeName? 3 u = some "*errors.errorString") : u = 72 :=
  typeName_ptr_named (nm := "errors.errorString") (by rw [show "*" ++ "errors.errorString" = "*errors.errorString" by decide]; kernel_rfl) (by kernel_rfl) (by decide) u (by rw [show "*" ++ "errors.errorString" = "*errors.errorString" by decide]; exact h)
/-- A sentinel's data. -/
abbrev sentD (text : List UInt8) : DataW Unit := .iface "*errors.errorString" (.ptr (.agg [.lit (.string text)]))

set_option maxRecDepth 100000 in
theorem parts_of_vars {W : World} : ∀ (laid : List (String × DataW Unit)) (ps : List MemPlace), DataW.LaidVars Tryd.prog W laid ps →
    (∀ b off, MemPlace.cell b off ∈ ps → (∃ c t, W.heap[b]? = some (.cells c t (0, 0))) ∧ ∀ u v, W.cell? ⟨b, off, none⟩ = some (.iface u v) → Value.okWide Tryd.prog W .any 0 u v) →
    ∃ parts : List (List MemPlace), ps = parts.flatten ∧ ∀ (i : Nat) (n : String) (text : List UInt8) (g : Nat), laid[i]? = some (n, sentD text) → Tryd.prog.globalNamed n = some g → (Tryd.prog.globals[g]?).map (·.type) = some 27 →
      ∃ a part, W.cell? ⟨g, 0, none⟩ = some (.iface 72 (.pointer (some a))) ∧ parts[i]? = some part ∧ MemPlace.cell a.block a.off ∈ part
  | [], ps, h, _ => ⟨[], h, fun i n text g hi => by simp at hi⟩
  | (n0, d0) :: r, ps, h, hrows => by
    obtain ⟨g0, t0, cs0, f0, p0, q0, hg0, ht0, hv0, hd0, hr, e0⟩ := h
    subst e0
    obtain ⟨parts, hq, hp⟩ := parts_of_vars r q0 hr fun b off hm => hrows b off (by simp [hm])
    refine ⟨(MemPlace.row ⟨g0, 0, none⟩ cs0.size ++ p0) :: parts, by rw [hq]; simp, ?_⟩
    intro i n text g hi hg ht
    match i with
    | 0 =>
      simp at hi
      obtain ⟨rfl, rfl⟩ := hi
      obtain rfl := Option.some.inj (hg.symm.trans hg0)
      obtain rfl := Option.some.inj (ht.symm.trans ht0)
      obtain ⟨l0⟩ := cs0
      have ok0 : ∀ u v, l0 = [.iface u v] → Value.okWide Tryd.prog W .any 0 u v := fun u v e => by
        subst e
        exact (hrows g 0 (by simp [MemPlace.row])).2 u v (by simpa using World.var?_cell hg0 hv0 0)
      obtain ⟨a0, s0, rfl, hc0, hs0, hz0, rfl⟩ := errorString_of_trod Tryd.underlying27 rowE Tryd.underlying72 Tryd.underlying97 rfl rfl Tryd.underlying9 (by kernel_rfl) (by kernel_rfl) hd0 ok0
      exact ⟨a0, _, by simpa using World.var?_cell hg0 hv0 0, rfl, by simp [MemPlace.row]⟩
    | i + 1 =>
      obtain ⟨a, part, h1, h2, h3⟩ := hp i n text g (by simpa using hi) hg ht
      exact ⟨a, part, h1, by simpa using h2, h3⟩
theorem apart_parts {α : Type} : ∀ (parts : List (List α)), parts.flatten.Nodup → ∀ (i j : Nat) (p q : List α) (x : α), parts[i]? = some p → parts[j]? = some q → x ∈ p → x ∈ q → i = j
  | [], _, i, j, p, q, x, hi, _, _, _ => by simp at hi
  | a :: r, hn, i, j, p, q, x, hi, hj, hp, hq => by
    rw [List.flatten_cons, List.nodup_append] at hn
    obtain ⟨h1, h2, h3⟩ := hn
    match i, j with
    | 0, 0 => rfl
    | 0, j + 1 =>
      simp at hi hj
      subst hi
      exact (h3 x hp x (List.mem_flatten.2 ⟨q, List.mem_of_getElem? hj, hq⟩) rfl).elim
    | i + 1, 0 =>
      simp at hi hj
      subst hj
      exact (h3 x hq x (List.mem_flatten.2 ⟨p, List.mem_of_getElem? hi, hp⟩) rfl).elim
    | i + 1, j + 1 =>
      have := apart_parts r h2 i j p q x (by simpa using hi) (by simpa using hj) hp hq
      omega
theorem sents_of_laid {W : World} {laid : List (String × DataW Unit)} (h : laidMetH Tryd.prog laid W) (hf : laid.filter (fun x => x.2.handleName?.isSome) = []) (idx : Nat → Nat) (hinj : ∀ i j, i < 18 → j < 18 → idx i = idx j → i = j)
    (hk : ∀ k, k < 18 → ∃ n text g, laid[idx k]? = some (n, sentD text) ∧ Tryd.prog.globalNamed n = some g ∧ (Tryd.prog.globals[g]?).map (·.type) = some 27 ∧ gls[k]? = some g) : ∃ adr, Sents W adr := by
  unfold laidMetH at h
  rw [hf] at h
  obtain ⟨ps, hv, hnd, hrows⟩ := h
  obtain ⟨parts, rfl, hp⟩ := parts_of_vars laid ps hv hrows
  have hall : ∀ k : Fin 18, ∃ a : Addr, (∀ g, gls[k.1]? = some g → W.cell? ⟨g, 0, none⟩ = some (.iface 72 (.pointer (some a)))) ∧ ∃ part, parts[idx k.1]? = some part ∧ MemPlace.cell a.block a.off ∈ part := fun k => by
    obtain ⟨n, text, g, h1, h2, h3, h4⟩ := hk k.1 k.2
    obtain ⟨a, part, c1, c2, c3⟩ := hp _ n text g h1 h2 h3
    exact ⟨a, fun g' hg' => by rw [h4] at hg'; cases hg'; exact c1, part, c2, c3⟩
  obtain ⟨f, hF⟩ := Classical.axiomOfChoice hall
  refine ⟨fun k => if hk : k < 18 then f ⟨k, hk⟩ else ⟨0, 0, none⟩, ?_, ?_, ?_⟩
  · intro i g hg
    have hi : i < 18 := (List.getElem?_eq_some_iff.1 hg).1
    simp only [dif_pos hi]
    exact (hF ⟨i, hi⟩).1 g hg
  · intro i hi
    simp only [dif_pos hi]
    obtain ⟨part, c2, c3⟩ := (hF ⟨i, hi⟩).2
    exact (hrows _ _ (List.mem_flatten.2 ⟨part, List.mem_of_getElem? c2, c3⟩)).1
  · intro i j hi hj he
    simp only [dif_pos hi, dif_pos hj] at he
    obtain ⟨p, c2, c3⟩ := (hF ⟨i, hi⟩).2
    obtain ⟨q, d2, d3⟩ := (hF ⟨j, hj⟩).2
    rw [he] at c3
    exact hinj i j hi hj (apart_parts parts hnd _ _ p q _ c2 d2 c3 d3)
set_option maxRecDepth 100000 in
/-- Where one error lies, out of what is listed. -/
theorem laid_cell {W : World} {laid : List (String × DataW Unit)} (h : laidMetH Tryd.prog laid W) (hf : laid.filter (fun x => x.2.handleName?.isSome) = []) (i g : Nat)
    (hi : ∃ n text, laid[i]? = some (n, sentD text) ∧ Tryd.prog.globalNamed n = some g ∧ (Tryd.prog.globals[g]?).map (·.type) = some 27) : ∃ a, W.cell? ⟨g, 0, none⟩ = some (.iface 72 (.pointer (some a))) := by
  unfold laidMetH at h
  rw [hf] at h
  obtain ⟨ps, hv, hnd, hrows⟩ := h
  obtain ⟨parts, rfl, hp⟩ := parts_of_vars laid ps hv hrows
  obtain ⟨n, text, hi, hg, ht⟩ := hi
  obtain ⟨a, part, h1, _⟩ := hp i n text g hi hg ht
  exact ⟨a, h1⟩
end Go.Proofs.YtpidkpjhhabefaaDoor
