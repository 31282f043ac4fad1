/- prime.List. -/
import Derived.Test.YtifdbjombgcfcaaDoorListGo
namespace Go.Proofs.YtifdbjombgcfcaaDoor
open Go.RowKit Go.Shelf PrimeMath
set_option linter.unusedVariables false
attribute [local go_sem] Oper.semAt_some

/-- The numbers, as integers. -/
def zs (l : List Nat) : List Int := l.map Int.ofNat
theorem zs_length (l : List Nat) : (zs l).length = l.length := by simp [zs]
theorem zs_snoc (l : List Nat) (q : Nat) : zs (l ++ [q]) = zs l ++ [(q : Int)] := by simp [zs]
def top (m : Int) : Nat := if m < 0 then 0 else if 10000 < m then 10000 else m.toNat
/-- What List has so far. -/
def LI (w : World) (pre : List Nat) (W : World) : Prop := ∃ v, Boxed W w.heap.size 25 v ∧ W.ownsRow (w.heap.size + 5) 3 1 v pre.length ((zs pre).map iv) ∧ Below w.heap.size w W ∧ (pre ≠ [] → w.heap.size + 5 < W.heap.size)
theorem LI.kept {w : World} (pre : List Nat) (A B : World) (row : Option Nat) (h : LI w pre A) (hg : A.grownBy B row) (hr : ∀ r, row = some r → w.heap.size + 2 ≤ r ∧ r ≤ w.heap.size + 4) : LI w pre B := by
  obtain ⟨v, h1, h2, h3, h4⟩ := h
  refine ⟨v, h1.kept hg (fun e => by have := hr _ e.symm; omega), h2.kept hg ?_, h3.grown hg (Nat.le_of_lt h1.lt) (fun r e => by have := hr r e; omega), fun hp => Nat.lt_of_lt_of_le (h4 hp) hg.size⟩
  rcases h2.2 with ⟨rfl, _⟩ | ⟨g, cap, cur, rfl, hb, _⟩
  · exact .inl rfl
  · refine .inr fun e => ?_
    have := hr g (by simpa [Value.ownBlock] using e.symm)
    omega

set_option maxRecDepth 100000 in
set_option maxHeartbeats 4000000 in
theorem list_mid (m : Nat) (hm : m ≤ 10000) (w : World) :
    Calls Tryd.prog 13 #[.int .i64 (m : Int)] w fun e W' => ∃ v, e = .returned v ∧ Below w.heap.size w W' ∧ W'.ownsRow (w.heap.size + 5) 3 1 v (pl m).length ((zs (pl m)).map iv) := by
  have hm0 : (0 : Int) ≤ (m : Int) := by omega
  have hm1 : (m : Int) ≤ 10000 := by omega
  refine (callsIn_wide (n := 4)).1 ?_
  refine callsIn_of_wp_marks Tryd.func13 rfl trivial ?_ rfl
  simp only [Tryd.ntmps13, List.size_toArray, List.length_cons, List.length_nil, Nat.reduceAdd, Nat.reduceSub, Array.replicate_succ, Array.replicate_zero, List.push_toArray, List.append_toArray, List.nil_append, List.cons_append]
  gi_wp2_with (refine ⟨trivial, ?_⟩; gi_at_call 37; refine (sieveMake_in _ _ _).mono ?_; rintro e w' ⟨rfl, rfl⟩)
  obtain ⟨W2, hW2⟩ : ∃ W2, (w.alloc (.cells #[.slice none 0 0] 25)).alloc (.cells #[.int .i64 (m : Int)] 3) = W2 := ⟨_, rfl⟩
  have bL : Boxed W2 w.heap.size 25 (.slice none 0 0) := by rw [← hW2]; exact (Boxed.new w 25 (.slice none 0 0)).alloc _
  have bM : Boxed W2 (w.heap.size + 1) 3 (.int .i64 (m : Int)) := by
    rw [← hW2]; have := Boxed.new (w.alloc (.cells #[.slice none 0 0] 25)) 3 (.int .i64 (m : Int)); rwa [World.size_alloc] at this
  have hs2 : W2.heap.size = w.heap.size + 2 := by rw [← hW2]; simp
  have hb2 : Below w.heap.size w W2 := by rw [← hW2]; exact ((Below.refl _ w).alloc (Nat.le_refl _) _).alloc (by simp) _
  rw [hW2]
  clear hW2
  obtain ⟨i0, hi, hz0, hz1, hz2⟩ := info_parts Tryd.infoInt
  refine wpIn_range_sieve (by omega) (w.heap.size + 1) m hm rfl bM.cell (LI w)
    (fun pre A B row h hg hr => h.kept pre A B row hg (fun r e => by have := hr r e; omega))
    ⟨_, bL, World.ownsRow_nil _ _ _ _, hb2, fun h => absurd rfl h⟩
    (fun q => { tmps := #[.int .i64 (m : Int), undef, .slice none 0 0, .pointer (some ⟨w.heap.size, 0, none⟩), .int .i64 (q : Int), .int .i64 (m : Int), .int .i64 (m : Int), .int .i64 (m : Int), .func (.func 45) #[] #[.pointer (some ⟨w.heap.size + 1, 0, none⟩)], .int .i64 (q : Int), undef, undef, undef, undef, undef], defers := [] }) ?assign ?body ?done
  case assign =>
    intro l' q W K hK
    gi_wp2
    exact hK
  case body =>
    rintro l' q W hq2 hqm hP ⟨v, hv, hown, hB, hsz5⟩ hsz
    rw [hs2] at hsz
    obtain ⟨ao, cap, rfl, _⟩ := ints_own hown
    have hcell := hv.cell
    have hfr := hv.frozen
    have hmx : Tryd.prog.follows .mixedOrders = true := by kernel_rfl
    have hlen := pl_length (q - 1)
    have HP := Lib.hid hP
    clear hP
    have hge := iown_ge hown
    gi_wp2_with (gi_at_builtin; refine wpListIn_append_own _ rfl (.tmp 10) (.tmp 12) 25 rfl (w.heap.size + 5) 3 i0 (.int .i64 0) 1 8 Tryd.underlying25 hi hz0 hz1 hz2 rfl (by decide) _ (pl (q - 1)).length _ rfl (hown.alloc _) ⟨W.heap.size, 0, none⟩ 1 1 [iv (q : Int)] rfl rfl (fun j u hu => by match j, hu with | 0, hu => cases hu; rw [Addr.add_lit]; simp [iv]) (fun u hu => by simp at hu; subst hu; rfl) (by unfold maxLen; omega) (by omega) (by rw [World.size_alloc]; omega) ?_; intro v' w1 hown1 hg1 _; have hg2 : (W.alloc (.cells #[.int .i64 (q : Int)] 3)).grownBy w1 (Value.slice ao (pl (q - 1)).length cap).ownBlock := hg1; clear hg1; have h10 : Boxed w1 w.heap.size 25 (.slice ao (pl (q - 1)).length cap) := (hv.alloc _).kept hg2 (fun e => by have := hge _ e.symm; omega); obtain ⟨g', cap', rfl⟩ := ownsRow_succ hown1; have hcell1 := h10.cell; have hfr1 := h10.frozen)
    have hrow : ∀ g, (Value.slice ao (pl (q - 1)).length cap).ownBlock = some g → w.heap.size + 5 ≤ g := hge
    have hkeep : ∀ k, k < W.heap.size → k ≠ w.heap.size → k < w.heap.size + 5 → (w1.setCell ⟨w.heap.size, 0, none⟩ (.slice (some ⟨g', 0, none⟩) ((pl (q - 1)).length + 1) cap')).heap[k]? = W.heap[k]? := fun k hk hne hlt => by
      rw [Below.heap_setCell _ _ _ k hne, hg2.block k (by rw [World.size_alloc]; omega) (fun e => by have := hrow _ e.symm; omega), Below.heap_alloc _ _ _ hk]
    have hsz1 := hg2.size
    rw [World.size_alloc] at hsz1
    refine ⟨fun k hk1 hk2 => hkeep k (by omega) (by omega) (by omega), hkeep _ (by omega) (by omega) (by omega), by rw [World.size_setCell]; omega, ?_⟩
    have hpl : pl q = pl (q - 1) ++ [q] := by
      have := pl_succ (q - 1)
      rw [show q - 1 + 1 = q by omega, HP.out, if_pos rfl] at this
      exact this
    rw [hpl]
    refine ⟨_, h10.set _, ?_, ((hB.alloc (by omega) _).grown hg2 (by rw [World.size_alloc]; omega) (fun g e => by have := hrow g e; omega)).setCell (p := ⟨w.heap.size, 0, none⟩) (Nat.le_refl _) _, fun _ => by rw [World.size_setCell]; omega⟩
    have hk := hown1.kept (grownBy_setCell' w1 w.heap.size (.slice (some ⟨g', 0, none⟩) ((pl (q - 1)).length + 1) cap')) (.inr (fun e => by have := iown_ge hown1 _ e; omega))
    rw [zs_snoc, List.map_append, List.length_append]
    exact hk
  case done =>
    rintro W ⟨v, hv, hown, hB, _⟩ hK
    obtain ⟨ao, cap, rfl, _⟩ := ints_own hown
    have hcell := hv.cell
    gi_wp2
    refine ⟨by simp, .inl ⟨_, _, rfl, run_takeDeferred hK, ?_⟩⟩
    refine ⟨_, results_tmp rfl _ _ _, ⟨_, rfl, ?_, ownsRow_putObj hown _ hK rfl⟩⟩
    exact hB.grown (grownBy_putObj' W _ _) (Nat.le_of_lt hv.lt) (fun r e => by cases e; omega)
set_option maxRecDepth 100000 in
set_option maxHeartbeats 4000000 in
theorem list_low (M : Int) (hM : M < 0) (w : World) :
    Calls Tryd.prog 13 #[.int .i64 M] w fun e W' => ∃ v, e = .returned v ∧ Below w.heap.size w W' ∧ W'.ownsRow (w.heap.size + 5) 3 1 v (pl 0).length ((zs (pl 0)).map iv) := by
  have hm : (0 : Nat) ≤ 10000 := by omega
  refine (callsIn_wide (n := 4)).1 ?_
  refine callsIn_of_wp_marks Tryd.func13 rfl trivial ?_ rfl
  simp only [Tryd.ntmps13, List.size_toArray, List.length_cons, List.length_nil, Nat.reduceAdd, Nat.reduceSub, Array.replicate_succ, Array.replicate_zero, List.push_toArray, List.append_toArray, List.nil_append, List.cons_append]
  gi_wp2_with (refine ⟨trivial, ?_⟩; gi_at_call 37; refine (sieveMake_in _ _ _).mono ?_; rintro e w' ⟨rfl, rfl⟩)
  obtain ⟨W2, hW2⟩ : ∃ W2, (w.alloc (.cells #[.slice none 0 0] 25)).alloc (.cells #[.int .i64 0] 3) = W2 := ⟨_, rfl⟩
  have bL : Boxed W2 w.heap.size 25 (.slice none 0 0) := by rw [← hW2]; exact (Boxed.new w 25 (.slice none 0 0)).alloc _
  have bM : Boxed W2 (w.heap.size + 1) 3 (.int .i64 0) := by
    rw [← hW2]; have := Boxed.new (w.alloc (.cells #[.slice none 0 0] 25)) 3 (.int .i64 0); rwa [World.size_alloc] at this
  have hs2 : W2.heap.size = w.heap.size + 2 := by rw [← hW2]; simp
  have hb2 : Below w.heap.size w W2 := by rw [← hW2]; exact ((Below.refl _ w).alloc (Nat.le_refl _) _).alloc (by simp) _
  rw [hW2]
  clear hW2
  obtain ⟨i0, hi, hz0, hz1, hz2⟩ := info_parts Tryd.infoInt
  refine wpIn_range_sieve (by omega) (w.heap.size + 1) 0 hm rfl bM.cell (LI w)
    (fun pre A B row h hg hr => h.kept pre A B row hg (fun r e => by have := hr r e; omega))
    ⟨_, bL, World.ownsRow_nil _ _ _ _, hb2, fun h => absurd rfl h⟩
    (fun q => { tmps := #[.int .i64 M, undef, .slice none 0 0, .pointer (some ⟨w.heap.size, 0, none⟩), .int .i64 (q : Int), .int .i64 M, .int .i64 0, .int .i64 0, .func (.func 45) #[] #[.pointer (some ⟨w.heap.size + 1, 0, none⟩)], .int .i64 (q : Int), undef, undef, undef, undef, undef], defers := [] }) ?assign ?body ?done
  case assign =>
    intro l' q W K hK
    gi_wp2
    exact hK
  case body =>
    rintro l' q W hq2 hqm
    omega
  case done =>
    rintro W ⟨v, hv, hown, hB, _⟩ hK
    obtain ⟨ao, cap, rfl, _⟩ := ints_own hown
    have hcell := hv.cell
    gi_wp2
    refine ⟨by simp, .inl ⟨_, _, rfl, run_takeDeferred hK, ?_⟩⟩
    refine ⟨_, results_tmp rfl _ _ _, ⟨_, rfl, ?_, ownsRow_putObj hown _ hK rfl⟩⟩
    exact hB.grown (grownBy_putObj' W _ _) (Nat.le_of_lt hv.lt) (fun r e => by cases e; omega)
set_option maxRecDepth 100000 in
set_option maxHeartbeats 4000000 in
theorem list_high (M : Int) (hM : 10000 < M) (w : World) :
    Calls Tryd.prog 13 #[.int .i64 M] w fun e W' => ∃ v, e = .returned v ∧ Below w.heap.size w W' ∧ W'.ownsRow (w.heap.size + 5) 3 1 v (pl 10000).length ((zs (pl 10000)).map iv) := by
  have hm : (10000 : Nat) ≤ 10000 := by omega
  refine (callsIn_wide (n := 4)).1 ?_
  refine callsIn_of_wp_marks Tryd.func13 rfl trivial ?_ rfl
  simp only [Tryd.ntmps13, List.size_toArray, List.length_cons, List.length_nil, Nat.reduceAdd, Nat.reduceSub, Array.replicate_succ, Array.replicate_zero, List.push_toArray, List.append_toArray, List.nil_append, List.cons_append]
  gi_wp2_with (refine ⟨trivial, ?_⟩; gi_at_call 37; refine (sieveMake_in _ _ _).mono ?_; rintro e w' ⟨rfl, rfl⟩)
  obtain ⟨W2, hW2⟩ : ∃ W2, (w.alloc (.cells #[.slice none 0 0] 25)).alloc (.cells #[.int .i64 10000] 3) = W2 := ⟨_, rfl⟩
  have bL : Boxed W2 w.heap.size 25 (.slice none 0 0) := by rw [← hW2]; exact (Boxed.new w 25 (.slice none 0 0)).alloc _
  have bM : Boxed W2 (w.heap.size + 1) 3 (.int .i64 10000) := by
    rw [← hW2]; have := Boxed.new (w.alloc (.cells #[.slice none 0 0] 25)) 3 (.int .i64 10000); rwa [World.size_alloc] at this
  have hs2 : W2.heap.size = w.heap.size + 2 := by rw [← hW2]; simp
  have hb2 : Below w.heap.size w W2 := by rw [← hW2]; exact ((Below.refl _ w).alloc (Nat.le_refl _) _).alloc (by simp) _
  rw [hW2]
  clear hW2
  obtain ⟨i0, hi, hz0, hz1, hz2⟩ := info_parts Tryd.infoInt
  refine wpIn_range_sieve (by omega) (w.heap.size + 1) 10000 hm rfl bM.cell (LI w)
    (fun pre A B row h hg hr => h.kept pre A B row hg (fun r e => by have := hr r e; omega))
    ⟨_, bL, World.ownsRow_nil _ _ _ _, hb2, fun h => absurd rfl h⟩
    (fun q => { tmps := #[.int .i64 M, undef, .slice none 0 0, .pointer (some ⟨w.heap.size, 0, none⟩), .int .i64 (q : Int), .int .i64 M, .int .i64 M, .int .i64 10000, .func (.func 45) #[] #[.pointer (some ⟨w.heap.size + 1, 0, none⟩)], .int .i64 (q : Int), undef, undef, undef, undef, undef], defers := [] }) ?assign ?body ?done
  case assign =>
    intro l' q W K hK
    gi_wp2
    exact hK
  case body =>
    rintro l' q W hq2 hqm hP ⟨v, hv, hown, hB, hsz5⟩ hsz
    rw [hs2] at hsz
    obtain ⟨ao, cap, rfl, _⟩ := ints_own hown
    have hcell := hv.cell
    have hfr := hv.frozen
    have hmx : Tryd.prog.follows .mixedOrders = true := by kernel_rfl
    have hlen := pl_length (q - 1)
    have HP := Lib.hid hP
    clear hP
    have hge := iown_ge hown
    gi_wp2_with (gi_at_builtin; refine wpListIn_append_own _ rfl (.tmp 10) (.tmp 12) 25 rfl (w.heap.size + 5) 3 i0 (.int .i64 0) 1 8 Tryd.underlying25 hi hz0 hz1 hz2 rfl (by decide) _ (pl (q - 1)).length _ rfl (hown.alloc _) ⟨W.heap.size, 0, none⟩ 1 1 [iv (q : Int)] rfl rfl (fun j u hu => by match j, hu with | 0, hu => cases hu; rw [Addr.add_lit]; simp [iv]) (fun u hu => by simp at hu; subst hu; rfl) (by unfold maxLen; omega) (by omega) (by rw [World.size_alloc]; omega) ?_; intro v' w1 hown1 hg1 _; have hg2 : (W.alloc (.cells #[.int .i64 (q : Int)] 3)).grownBy w1 (Value.slice ao (pl (q - 1)).length cap).ownBlock := hg1; clear hg1; have h10 : Boxed w1 w.heap.size 25 (.slice ao (pl (q - 1)).length cap) := (hv.alloc _).kept hg2 (fun e => by have := hge _ e.symm; omega); obtain ⟨g', cap', rfl⟩ := ownsRow_succ hown1; have hcell1 := h10.cell; have hfr1 := h10.frozen)
    have hrow : ∀ g, (Value.slice ao (pl (q - 1)).length cap).ownBlock = some g → w.heap.size + 5 ≤ g := hge
    have hkeep : ∀ k, k < W.heap.size → k ≠ w.heap.size → k < w.heap.size + 5 → (w1.setCell ⟨w.heap.size, 0, none⟩ (.slice (some ⟨g', 0, none⟩) ((pl (q - 1)).length + 1) cap')).heap[k]? = W.heap[k]? := fun k hk hne hlt => by
      rw [Below.heap_setCell _ _ _ k hne, hg2.block k (by rw [World.size_alloc]; omega) (fun e => by have := hrow _ e.symm; omega), Below.heap_alloc _ _ _ hk]
    have hsz1 := hg2.size
    rw [World.size_alloc] at hsz1
    refine ⟨fun k hk1 hk2 => hkeep k (by omega) (by omega) (by omega), hkeep _ (by omega) (by omega) (by omega), by rw [World.size_setCell]; omega, ?_⟩
    have hpl : pl q = pl (q - 1) ++ [q] := by
      have := pl_succ (q - 1)
      rw [show q - 1 + 1 = q by omega, HP.out, if_pos rfl] at this
      exact this
    rw [hpl]
    refine ⟨_, h10.set _, ?_, ((hB.alloc (by omega) _).grown hg2 (by rw [World.size_alloc]; omega) (fun g e => by have := hrow g e; omega)).setCell (p := ⟨w.heap.size, 0, none⟩) (Nat.le_refl _) _, fun _ => by rw [World.size_setCell]; omega⟩
    have hk := hown1.kept (grownBy_setCell' w1 w.heap.size (.slice (some ⟨g', 0, none⟩) ((pl (q - 1)).length + 1) cap')) (.inr (fun e => by have := iown_ge hown1 _ e; omega))
    rw [zs_snoc, List.map_append, List.length_append]
    exact hk
  case done =>
    rintro W ⟨v, hv, hown, hB, _⟩ hK
    obtain ⟨ao, cap, rfl, _⟩ := ints_own hown
    have hcell := hv.cell
    gi_wp2
    refine ⟨by simp, .inl ⟨_, _, rfl, run_takeDeferred hK, ?_⟩⟩
    refine ⟨_, results_tmp rfl _ _ _, ⟨_, rfl, ?_, ownsRow_putObj hown _ hK rfl⟩⟩
    exact hB.grown (grownBy_putObj' W _ _) (Nat.le_of_lt hv.lt) (fun r e => by cases e; omega)

/-- prime.List of any number. -/
theorem list_any (m : Int) (w : World) :
    Calls Tryd.prog 13 #[.int .i64 m] w fun e W' => ∃ v, e = .returned v ∧ Below w.heap.size w W' ∧ W'.ownsRow (w.heap.size + 5) 3 1 v (pl (top m)).length ((zs (pl (top m))).map iv) := by
  unfold top
  by_cases h0 : m < 0
  · rw [if_pos h0]; exact list_low m h0 w
  · by_cases h1 : 10000 < m
    · rw [if_neg h0, if_pos h1]; exact list_high m h1 w
    · rw [if_neg h0, if_neg h1]
      obtain ⟨k, rfl⟩ : ∃ k : Nat, m = (k : Int) := ⟨m.toNat, by omega⟩
      rw [Int.toNat_natCast]
      exact list_mid k (by omega) w
end Go.Proofs.YtifdbjombgcfcaaDoor
