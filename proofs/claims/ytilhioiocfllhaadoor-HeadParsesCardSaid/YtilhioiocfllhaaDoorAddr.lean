/- The walks of addr.size, bytes.Clone, addr.Bytes, slices.Grow (of nil) and slices.Concat (of bytes). -/
import Derived.Test.YtilhioiocfllhaaDoorReg
import Derived.Deep.MidRow
import Derived.Lib.AppendZeros
import Derived.Laws.Cover3
namespace Go.Proofs.YtilhioiocfllhaaDoor
open Go.RowKit
set_option linter.unusedVariables false

/-- An address's cells. -/
def IsAddr (A : List Value) (six : Bool) (l : List UInt8) : Prop := l.length = 16 ∧ A = .bool six :: l.map u8v
theorem IsAddr.head {A : List Value} {six : Bool} {l : List UInt8} (h : IsAddr A six l) : A[0]? = some (.bool six) := by rw [h.2]; rfl
theorem IsAddr.length {A : List Value} {six : Bool} {l : List UInt8} (h : IsAddr A six l) : A.length = 17 := by rw [h.2]; simp [h.1]

theorem IsAddr.cells_of {A : List Value} {six : Bool} {l : List UInt8} (h : IsAddr A six l) {w : World} {b o : Nat} (hr : w.rangeAt b o A) : Cells w (some ⟨b, o + 1, none⟩) l := by
  refine .inr ⟨b, o + 1, rfl, fun i hi => ?_⟩
  have := hr (i + 1) (u8v l[i]) (by rw [h.2]; simp [List.getElem?_eq_getElem hi])
  rw [show o + 1 + i = o + (i + 1) by omega, this]
  simp [u8v, List.getD, List.getElem?_eq_getElem hi]

set_option maxHeartbeats 1000000 in
theorem size_any (A : List Value) (six : Bool) (l : List UInt8) (w : World) (h : IsAddr A six l) :
    Calls Tryd.prog 96 #[.agg A.toArray] w fun e w' => e = .returned (.int .i64 (if six then 16 else 4)) ∧ w' = w.alloc (.cells A.toArray 46) := by
  have h0 := h.head
  clear h
  cases six
  · go_enter Tryd.func96, Tryd.ntmps96
    go_wp2_with fail
    go_ret
    exact ⟨rfl, rfl⟩
  · go_enter Tryd.func96, Tryd.ntmps96
    go_wp2_with fail
    go_ret
    exact ⟨rfl, rfl⟩

/-- A fresh row of the call's own, returned. -/
def OwnPost (n : Nat) (l : List UInt8) (w : World) (e : Ending) (w' : World) : Prop :=
  ∃ v, e = .returned v ∧ Below w.heap.size w w' ∧ w'.ownsRow w.heap.size 5 1 v n (l.map u8v)

set_option maxHeartbeats 1000000 in
theorem clone_some (b off n c : Nat) (l : List UInt8) (w : World) (hn : l.length = n) (hsz : n ≤ 1000000000000) (hc : Cells w (some ⟨b, off, none⟩) l) :
    Calls Tryd.prog 95 #[.slice (some ⟨b, off, none⟩) n c] w (OwnPost n l w) := by
  have HN := Lib.hid hn
  have HC := Lib.hid hc
  have HB1 := Lib.hid ((Below.refl w.heap.size w).alloc (Nat.le_refl _) (.cells #[] 5))
  have hq : Sem.run Tryd.prog (binOp .eql 23 (.slice (some ⟨b, off, none⟩) n c) (.slice none 0 0)) w = .ok (.bool false) w := Lib.run_eql_slice_nil w _ _ _ _ _ _ _ Tryd.underlying23
  clear hn hc
  go_enter Tryd.func95, Tryd.ntmps95
  go_wp2_with (at_builtin; (refine wpList_append_u8 rfl (.tmp 5) (.tmp 6) rfl w.heap.size (.slice (some ⟨w.heap.size, 0, none⟩) 0 0) 0 [] rfl (own_fresh _ _ (Nat.le_refl _)) (some ⟨b, off, none⟩) n c l rfl HN.out (fun h => by cases h) (HC.out.below HB1.out rfl) (by omega) HB1.out.size ?_; intro v2 w2 hown2 hg2; simp only [Nat.zero_add, List.nil_append] at hown2))
  go_ret
  exact ⟨v2, rfl, HB1.out.grown hg2 HB1.out.size (fun k h => by cases h; exact Nat.le_refl _), hown2⟩

/-- How many bytes an address is written with. -/
def asize (six : Bool) : Nat := if six then 16 else 4
set_option maxHeartbeats 1000000 in
theorem addrBytes_any (A : List Value) (six : Bool) (l : List UInt8) (w : World) (h : IsAddr A six l) :
    Calls Tryd.prog 84 #[.agg A.toArray] w (OwnPost (asize six) (l.take (asize six)) w) := by
  have HL := Lib.hid h
  have hA : A.length = 17 := h.length
  have HB1 := Lib.hid ((Below.refl w.heap.size w).alloc (Nat.le_refl _) (.cells A.toArray 46))
  have hld : Hid ((w.alloc (.cells A.toArray 46)).rangeAt w.heap.size 0 A) := Lib.hid fun j v hv => by
    rw [Nat.zero_add, World.cell?_alloc_mark]; simpa using hv
  have HI : Hid ((Tryd.prog.info? 46).map (·.size) = some A.length) := Lib.hid (by rw [hA]; kernel_rfl)
  have HB2 := Lib.hid (HB1.out.alloc (by simp) (.cells A.toArray 46))
  have HT : Hid (∀ n, n ≤ 16 → (l.take n).length = n) := Lib.hid fun n hn => by rw [List.length_take, h.1]; omega
  have HC : Hid (∀ n, Cells ((w.alloc (.cells A.toArray 46)).alloc (.cells A.toArray 46)) (some ⟨w.heap.size, 1, none⟩) (l.take n)) := Lib.hid fun n => ((h.cells_of hld.out).left' n).below ((Below.refl _ _).alloc (Nat.le_refl _) _) rfl
  clear h hA
  cases six
  · go_enter Tryd.func84, Tryd.ntmps84
    go_wp2_with (first | (refine wpList_load_mid rfl 46 (.tmp 1) rfl w.heap.size 0 rfl A _ hld.out Tryd.underlying46 rfl HI.out ?_) | (go_at_call 96; refine (size_any A false l _ HL.out).mono ?_; rintro e w' ⟨rfl, rfl⟩) | (go_at_call 95; refine (clone_some w.heap.size 1 4 16 (l.take 4) _ (HT.out 4 (by omega)) (by omega) (HC.out 4)).mono ?_; rintro e w3 ⟨v, rfl, hb3, hO3⟩; have hB := HB2.out.trans (hb3.mono HB2.out.size); have hO := own_weaken' hO3 HB2.out.size))
    go_ret
    exact ⟨v, rfl, hB, hO⟩
  · go_enter Tryd.func84, Tryd.ntmps84
    go_wp2_with (first | (refine wpList_load_mid rfl 46 (.tmp 1) rfl w.heap.size 0 rfl A _ hld.out Tryd.underlying46 rfl HI.out ?_) | (go_at_call 96; refine (size_any A true l _ HL.out).mono ?_; rintro e w' ⟨rfl, rfl⟩) | (go_at_call 95; refine (clone_some w.heap.size 1 16 16 (l.take 16) _ (HT.out 16 (by omega)) (by omega) (HC.out 16)).mono ?_; rintro e w3 ⟨v, rfl, hb3, hO3⟩; have hB := HB2.out.trans (hb3.mono HB2.out.size); have hO := own_weaken' hO3 HB2.out.size))
    go_ret
    exact ⟨v, rfl, hB, hO⟩

theorem run_grow {ty : TypeId} (w : World) (n : Nat) (h0 : 0 < n) (hn : n ≤ 1000000000000) :
    ∃ C W', (Builtin.append_ #[23, 3] ty #[.slice none 0 0, .int .i64 n]).run Tryd.prog w = .ok (.slice (some ⟨w.heap.size, 0, none⟩) n C) W' ∧ n ≤ C ∧ Below w.heap.size w W' ∧
      W'.ownsRow w.heap.size 5 1 (.slice (some ⟨w.heap.size, 0, none⟩) 0 C) 0 (([] : List UInt8).map u8v) := by
  obtain ⟨i0, hi, hz0, hz1, hz2⟩ := info_parts Tryd.infoU8
  have hr := Lib.run_append_nil_zeros (P := Tryd.prog) w 23 3 ty 5 i0 (.int .u8 0) .i64 .i64 Tryd.underlying23 Tryd.underlying3 hi hz0 n h0 (by rw [hz1]; decide) (by omega) (by rw [hz2]; omega)
  have hge := grownCap_ge w n 0 5
  have hle := grownCap_le_maxLen w n 0 5 (by unfold maxLen; omega)
  refine ⟨_, _, hr, hge, (Below.refl w.heap.size w).drew.alloc (by simp) _, rfl, .inr ⟨w.heap.size, _, _, rfl, Nat.le_refl _, heap_alloc_new w.drew _, Nat.zero_le _, hle, ?_, rfl⟩⟩
  simp [Builtin.zeroCells, Value.cells]
  omega

set_option maxRecDepth 100000 in
set_option maxHeartbeats 1000000 in
theorem grow_nil (n : Nat) (w : World) (hn : n ≤ 1000000000000) :
    Calls Tryd.prog 83 #[.slice none 0 0, .int .i64 n] w (OwnPost 0 [] w) := by
  rcases Nat.eq_zero_or_pos n with rfl | h0
  · go_enter Tryd.func83, Tryd.ntmps83
    go_wp2_with fail
    go_ret
    exact ⟨_, rfl, Below.refl _ _, World.ownsRow_nil _ _ _ _⟩
  · obtain ⟨C, W', hr, hC, hB, hO⟩ := run_grow (ty := 23) w n h0 hn
    have HB := Lib.hid hB
    have HO := Lib.hid hO
    have HR := Lib.hid hr
    have h1 : 0 < (n : Int) := by omega
    clear hB hO hr
    go_enter Tryd.func83, Tryd.ntmps83
    go_wp2_with (at_builtin; refine Lib.wpList_append_run _ rfl (.tmp 20) (.tmp 21) 23 3 rfl _ _ rfl rfl _ _ HR.out ?_)
    go_ret
    exact ⟨_, rfl, HB.out, HO.out⟩

/-! ### slices.Concat of slices of bytes -/
/-- A slice value and the bytes it leads to. -/
structure Piece where
  ao : Option Addr
  n : Nat
  c : Nat
  l : List UInt8
def Piece.val (p : Piece) : Value := .slice p.ao p.n p.c
def Piece.ok (w : World) (p : Piece) : Prop := p.l.length = p.n ∧ p.n ≤ 1000000 ∧ (p.ao = none → p.n = 0 ∧ p.c = 0) ∧ Cells w p.ao p.l
theorem Piece.ok.below {w w' : World} {p : Piece} {B : Nat} (h : p.ok w) (hb : Below B w w') (hB : B = w.heap.size) : p.ok w' := ⟨h.1, h.2.1, h.2.2.1, h.2.2.2.below hb hB⟩
def bytesOf (ps : List Piece) : List UInt8 := ps.flatMap (·.l)
def sizeOf' (ps : List Piece) : Nat := (ps.map (·.n)).sum
theorem bytesOf_length {w : World} : ∀ (ps : List Piece), (∀ p ∈ ps, p.ok w) → (bytesOf ps).length = sizeOf' ps
  | [], _ => rfl
  | p :: ps, h => by
    have ih := bytesOf_length ps fun q hq => h q (List.mem_cons_of_mem _ hq)
    have := (h p (List.mem_cons_self ..)).1
    simp [bytesOf, sizeOf'] at ih ⊢
    omega
theorem sizeOf'_le {w : World} : ∀ (ps : List Piece), (∀ p ∈ ps, p.ok w) → sizeOf' ps ≤ 1000000 * ps.length
  | [], _ => Nat.le_refl _
  | p :: ps, h => by
    have ih := sizeOf'_le ps fun q hq => h q (List.mem_cons_of_mem _ hq)
    have := (h p (List.mem_cons_self ..)).2.1
    simp [sizeOf'] at ih ⊢
    omega

theorem take_snoc {α : Type} (ps : List α) (k : Nat) (h : k < ps.length) : ps.take (k + 1) = ps.take k ++ [ps[k]] := by
  rw [List.take_add_one, List.getElem?_eq_getElem h]; rfl
theorem sizeOf'_append (a b : List Piece) : sizeOf' (a ++ b) = sizeOf' a + sizeOf' b := by simp [sizeOf']
theorem bytesOf_append (a b : List Piece) : bytesOf (a ++ b) = bytesOf a ++ bytesOf b := by simp [bytesOf]
theorem sizeOf'_snoc (ps : List Piece) (k : Nat) (h : k < ps.length) : sizeOf' (ps.take (k + 1)) = sizeOf' (ps.take k) + ps[k].n := by
  rw [take_snoc ps k h, sizeOf'_append]; simp [sizeOf']
theorem bytesOf_snoc (ps : List Piece) (k : Nat) (h : k < ps.length) : bytesOf (ps.take (k + 1)) = bytesOf (ps.take k) ++ ps[k].l := by
  rw [take_snoc ps k h, bytesOf_append]; simp [bytesOf]
theorem sizeOf'_take (ps : List Piece) : ∀ k, sizeOf' (ps.take k) ≤ sizeOf' ps
  | 0 => by simp [sizeOf']
  | k + 1 => by
    by_cases h : k < ps.length
    · have e : ps = ps.take (k + 1) ++ ps.drop (k + 1) := (List.take_append_drop _ _).symm
      have : sizeOf' ps = sizeOf' (ps.take (k + 1)) + sizeOf' (ps.drop (k + 1)) := by
        conv => lhs; rw [e]
        exact sizeOf'_append _ _
      omega
    · rw [List.take_of_length_le (by omega)]; exact Nat.le_refl _

set_option maxRecDepth 100000 in
set_option maxHeartbeats 2000000 in
theorem concat_any (ps : List Piece) (K B : Nat) (w : World) (hK : ps.length = K) (hK2 : K ≤ 100) (hok : ∀ p ∈ ps, p.ok w) (hB : ∀ i (h : i < ps.length), w.cell? ⟨B, i, none⟩ = some ps[i].val) (hBs : B < w.heap.size) :
    Calls Tryd.prog 59 #[.slice (some ⟨B, 0, none⟩) K K] w (OwnPost (sizeOf' ps) (bytesOf ps) w) := by
  have HS := Lib.hid (sizeOf'_le ps hok)
  have HT := Lib.hid (sizeOf'_take ps)
  have HK := Lib.hid hK
  have HOK := Lib.hid hok
  have HC := Lib.hid hB
  clear hok hB hK
  go_enter Tryd.func59, Tryd.ntmps59
  go_wp2_with fail
  go_loop [3, 5, 11] (fun s v i => ∃ k : Nat, k ≤ K ∧ i = .int .i64 (k : Int) ∧ s = .int .i64 (sizeOf' (ps.take k) : Nat)) (fun _ _ i => K - (intOf i).toNat)
  case atStart => exact ⟨0, Nat.zero_le _, rfl, rfl⟩
  case round =>
    obtain ⟨k, hk, rfl, rfl⟩ := hrel
    by_cases hlt : k < K
    · have hlt' : (k : Int) < (K : Int) := by omega
      have hp : k < ps.length := by rw [HK.out]; exact hlt
      obtain ⟨q, hq⟩ : ∃ q, ps[k] = q := ⟨_, rfl⟩
      have hc := HC.out k hp
      rw [hq] at hc
      have hqn : q.n ≤ 1000000 := by rw [← hq]; exact (HOK.out _ (List.getElem_mem hp)).2.1
      have HSN := Lib.hid (sizeOf'_snoc ps k hp)
      have hz : sizeOf' (ps.take k) ≤ 100000000 := by have := HT.out k; have := HS.out; have := HK.out; omega
      rw [hq] at HSN
      have HQ := Lib.hid hq
      clear hq
      cases q with
      | mk ao n c l =>
        dsimp only [Piece.val] at hc hqn HSN
        obtain ⟨z, hz'⟩ : ∃ z, sizeOf' (ps.take k) = z := ⟨_, rfl⟩
        rw [hz'] at hz HSN ⊢
        clear hz'
        go_wp2_with fail
        exact ⟨⟨k + 1, by omega, by go_num, by rw [HSN.out]; go_num⟩, by simp [intOf]; omega⟩
    · obtain rfl : k = K := by omega
      have ht : ps.take k = ps := List.take_of_length_le (by have := HK.out; omega)
      rw [ht]
      clear hlt hk ht
      have hz : sizeOf' ps ≤ 100000000 := by have := HS.out; have := HK.out; omega
      obtain ⟨z, hz'⟩ : ∃ z, sizeOf' ps = z := ⟨_, rfl⟩
      have HZ := Lib.hid hz'
      rw [hz'] at hz ⊢
      clear hz'
      go_wp2_with (go_at_call 83; refine (grow_nil z _ (by omega)).mono ?_; rintro e w1 ⟨v1, rfl, hb1, hO1⟩; have HB1 := Lib.hid hb1; have HO1 := Lib.hid hO1; clear hb1 hO1)
      go_loopw [6, 8, 27] (fun v _ i wr => ∃ j : Nat, j ≤ k ∧ i = .int .i64 (j : Int) ∧ Below w.heap.size w wr ∧ wr.ownsRow w.heap.size 5 1 v (sizeOf' (ps.take j)) ((bytesOf (ps.take j)).map u8v)) (fun _ _ i _ => k - (intOf i).toNat)
      case atStart => exact ⟨0, Nat.zero_le _, rfl, HB1.out, HO1.out⟩
      case round =>
        obtain ⟨j, hj, rfl, hbw, hO⟩ := hrel
        have HBW := Lib.hid hbw
        have HOW := Lib.hid hO
        clear hbw hO
        by_cases hlt : j < k
        · have hlt' : (j : Int) < (k : Int) := by omega
          have hp : j < ps.length := by rw [HK.out]; exact hlt
          obtain ⟨q, hq⟩ : ∃ q, ps[j] = q := ⟨_, rfl⟩
          have hc := HC.out j hp
          rw [hq, ← HBW.out.cell (p := ⟨B, j, none⟩) hBs] at hc
          have hok := HOK.out _ (List.getElem_mem hp)
          rw [hq] at hok
          have hqn : q.n ≤ 1000000 := hok.2.1
          have hql := Lib.hid hok.1
          have hqo := Lib.hid hok.2.2.1
          have hqc := Lib.hid (hok.2.2.2.below HBW.out rfl)
          have HSN := Lib.hid (sizeOf'_snoc ps j hp)
          have HBN := Lib.hid (bytesOf_snoc ps j hp)
          have hz : sizeOf' (ps.take j) ≤ 100000000 := by have := HT.out j; have := HZ.out; omega
          rw [hq] at HSN HBN
          have HQ := Lib.hid hq
          clear hq hok
          cases q with
          | mk ao n c l =>
            dsimp only [Piece.val] at hc hqn HSN HBN hql hqo hqc
            obtain ⟨y, hy⟩ : ∃ y, sizeOf' (ps.take j) = y := ⟨_, rfl⟩
            rw [hy] at hz HSN HOW
            clear hy
            go_wp2_with (at_builtin; refine wpList_append_u8 rfl (.tmp 31) (.tmp 32) rfl w.heap.size _ y (bytesOf (ps.take j)) rfl HOW.out ao n c l rfl hql.out hqo.out hqc.out (by omega) HBW.out.size ?_; intro v2 w2 hown2 hg2; have HB2 := Lib.hid (HBW.out.grown hg2 HBW.out.size (fun k h => own_ge HOW.out k h)); have HO2 := Lib.hid hown2; clear hown2 hg2)
            exact ⟨⟨j + 1, by omega, by go_num, HB2.out, by rw [HSN.out, HBN.out]; exact HO2.out⟩, by simp [intOf]; omega⟩
        · obtain rfl : j = k := by omega
          have ht : ps.take j = ps := List.take_of_length_le (by have := HK.out; omega)
          rw [ht] at HOW
          clear hlt hj ht
          go_wp2_with fail
          go_ret
          rw [← HZ.out]
          exact ⟨_, rfl, HBW.out, HOW.out⟩

theorem concat2 (p q : Piece) (t : TypeId) (w : World) (hp : p.ok w) (hq : q.ok w) :
    Calls Tryd.prog 59 #[.slice (some ⟨w.heap.size, 0, none⟩) 2 2] (w.alloc (.cells #[p.val, q.val] t)) (OwnPost (p.n + q.n) (p.l ++ q.l) (w.alloc (.cells #[p.val, q.val] t))) := by
  have hb : Below w.heap.size w (w.alloc (.cells #[p.val, q.val] t)) := (Below.refl _ _).alloc (Nat.le_refl _) _
  have h := concat_any [p, q] 2 w.heap.size (w.alloc (.cells #[p.val, q.val] t)) rfl (by decide) (fun x hx => by
    simp at hx
    rcases hx with rfl | rfl
    · exact hp.below hb rfl
    · exact hq.below hb rfl) (fun i h => by
    rw [World.cell?_alloc_mark]
    match i, h with
    | 0, _ => rfl
    | 1, _ => rfl) (by simp)
  simpa [sizeOf', bytesOf] using h
theorem concat3 (p q r : Piece) (t : TypeId) (w : World) (hp : p.ok w) (hq : q.ok w) (hr : r.ok w) :
    Calls Tryd.prog 59 #[.slice (some ⟨w.heap.size, 0, none⟩) 3 3] (w.alloc (.cells #[p.val, q.val, r.val] t)) (OwnPost (p.n + (q.n + r.n)) (p.l ++ (q.l ++ r.l)) (w.alloc (.cells #[p.val, q.val, r.val] t))) := by
  have hb : Below w.heap.size w (w.alloc (.cells #[p.val, q.val, r.val] t)) := (Below.refl _ _).alloc (Nat.le_refl _) _
  have h := concat_any [p, q, r] 3 w.heap.size (w.alloc (.cells #[p.val, q.val, r.val] t)) rfl (by decide) (fun x hx => by
    simp at hx
    rcases hx with rfl | rfl | rfl
    · exact hp.below hb rfl
    · exact hq.below hb rfl
    · exact hr.below hb rfl) (fun i h => by
    rw [World.cell?_alloc_mark]
    match i, h with
    | 0, _ => rfl
    | 1, _ => rfl
    | 2, _ => rfl) (by simp)
  simpa [sizeOf', bytesOf] using h
end Go.Proofs.YtilhioiocfllhaaDoor
