/- The walks of octets.Num, Text, Flag and of the reference's Num. -/
import Derived.Test.YtilhioiocfllhaaDoorOctMath
import Derived.Test.YtilhioiocfllhaaDoorSent
import Derived.Test.YtilhioiocfllhaaDoorReg
import Derived.Laws.OwnMore
import Derived.Laws.Shifts
import Derived.Deep.QuietTactic
import Derived.BigQuiet
namespace Go.Proofs.YtilhioiocfllhaaDoor
open Go.RowKit OctMath
set_option linter.unusedVariables false

/-- octets.Num: a number that fits. -/
def NumPost (n m : Nat) (w : World) (e : Ending) (w' : World) : Prop :=
  ∃ v, e = .returned (.tuple #[v, .nilIface]) ∧ w'.ownsRow w.heap.size 5 1 v m ((be n m).map u8v) ∧ Below w.heap.size w w'
theorem shr_cast (n j : Nat) : (n : Int) / 2 ^ (8 * j) = ((n / 256 ^ j : Nat) : Int) := by
  rw [Int.natCast_ediv, ← pow_256, Int.natCast_pow]; rfl
theorem shr_byte (n j : Nat) : IntKind.u8.wrap ((n : Int) / 2 ^ (8 * j)) = ((UInt8.ofNat (n / 256 ^ j)).toNat : Int) := by
  rw [shr_cast, IntKind.wrap_u8, UInt8.toNat_ofNat']; omega
theorem shr_small (n m : Nat) (h : n < 256 ^ m) : decide (0 < (n : Int) / 2 ^ (8 * m)) = false := by
  rw [shr_cast, Nat.div_eq_of_lt h]; rfl
theorem shr_big (n m : Nat) (h : 256 ^ m ≤ n) : decide (0 < (n : Int) / 2 ^ (8 * m)) = true := by
  rw [shr_cast]
  have h2 : 0 < n / 256 ^ m := Nat.div_pos h (Nat.pow_pos (by omega))
  obtain ⟨q, hq⟩ : ∃ q, n / 256 ^ m = q := ⟨_, rfl⟩
  rw [hq] at h2 ⊢
  simp; omega
set_option maxRecDepth 100000 in
set_option maxHeartbeats 4000000 in
theorem num_ok (n m : Nat) (w : World) (h1 : 1 ≤ m) (h8 : m ≤ 8) (hn : Hid (n ≤ 4611686018427387904)) (hf : Hid (m < 8 → n < 256 ^ m)) :
    Calls Tryd.prog 12 #[.int .i64 (n : Int), .int .i64 (m : Int)] w (NumPost n m w) := by
  have g1 : (1 : Int) ≤ (m : Int) := by omega
  have g8 : (m : Int) ≤ 8 := by omega
  have d1 : decide ((m : Int) < 1) = false := by simp; omega
  have d2 : decide ((8 : Int) < (m : Int)) = false := by simp; omega
  have d4 : decide ((4611686018427387904 : Int) < (n : Int)) = false := by have := hn.out; simp; omega
  have HE := Lib.hid ((List.take_of_length_le (by rw [be_length]; exact Nat.le_refl m)) : (be n m).take m = be n m)
  rcases (show m < 8 ∨ m = 8 by omega) with hm | hm
  · have hm' : (m : Int) < 8 := by omega
    have d5 := shr_small n m (hf.out hm)
    clear hm
    go_enter Tryd.func12, Tryd.ntmps12
    go_wp2_with fail
    clear d1 d2 d4 d5
    go_loopw [6, 7] (fun v i wr => ∃ k : Nat, k ≤ m ∧ i = .int .i64 ((m : Int) - 1 - (k : Int)) ∧ wr.ownsRow w.heap.size 5 1 v k (((be n m).take k).map u8v) ∧ Below w.heap.size w wr) (fun _ i _ => (intOf i + 1).toNat)
    case atStart => exact ⟨0, Nat.zero_le _, by simp, World.ownsRow_nil _ _ _ _, Below.refl _ _⟩
    case round =>
      obtain ⟨k, hk, rfl, hown, hB⟩ := hrel
      have HO := Lib.hid hown
      have HB := Lib.hid hB
      clear hown hB
      by_cases hlt : k < m
      · obtain ⟨j, hj⟩ : ∃ j, m - 1 - k = j := ⟨_, rfl⟩
        have ej : (m : Int) - 1 - (k : Int) = (j : Int) := by omega
        have HS := Lib.hid (be_take n m k hlt)
        rw [hj] at HS
        have hb := shr_byte n j
        obtain ⟨x, hx⟩ : ∃ x, UInt8.ofNat (n / 256 ^ j) = x := ⟨_, rfl⟩
        rw [hx] at HS hb
        have hj8 : (j : Int) < 8 := by omega
        have HJ := Lib.hid ej
        have HHJ := Lib.hid hj
        rw [ej]
        clear hx hj ej
        go_wp2_with (at_builtin; refine wpList_append_u8 rfl (.tmp 40) (.tmp 46) rfl w.heap.size u6 k ((be n m).take k) (by rfl) (HO.out.alloc _) (some ⟨wr.heap.size, 0, none⟩) 1 1 [x] (by rfl) rfl (fun h => by cases h) (Cells.new _ _ _ [x] rfl) (by omega) (Nat.le_trans HB.out.size (by simp)) ?_; intro v5 w5 hown5 hg5; have HO5 := Lib.hid hown5; have HB5 := Lib.hid ((HB.out.alloc HB.out.size (.cells #[.int .u8 (x.toNat : Int)] 5)).grown hg5 (Nat.le_trans HB.out.size (by simp)) (fun k h => own_ge HO.out k h)); clear hown5 hg5)
        have ej := HJ.out
        refine ⟨⟨k + 1, by omega, by rw [show (m : Int) - 1 - ((k + 1 : Nat) : Int) = (j : Int) - 1 by omega], by rw [HS.out]; exact HO5.out, HB5.out⟩, by simp [intOf]⟩
      · obtain rfl : k = m := by omega
        have e1 : (k : Int) - 1 - (k : Int) = -1 := by omega
        rw [e1]
        clear e1 hlt
        go_wp2_with fail
        go_ret2
        have h := HO.out
        rw [HE.out] at h
        exact ⟨_, rfl, h, HB.out⟩
  · have hm' : decide ((m : Int) < 8) = false := by simp; omega
    clear hm
    go_enter Tryd.func12, Tryd.ntmps12
    go_wp2_with fail
    clear d1 d2 d4
    go_loopw [6, 7] (fun v i wr => ∃ k : Nat, k ≤ m ∧ i = .int .i64 ((m : Int) - 1 - (k : Int)) ∧ wr.ownsRow w.heap.size 5 1 v k (((be n m).take k).map u8v) ∧ Below w.heap.size w wr) (fun _ i _ => (intOf i + 1).toNat)
    case atStart => exact ⟨0, Nat.zero_le _, by simp, World.ownsRow_nil _ _ _ _, Below.refl _ _⟩
    case round =>
      obtain ⟨k, hk, rfl, hown, hB⟩ := hrel
      have HO := Lib.hid hown
      have HB := Lib.hid hB
      clear hown hB
      by_cases hlt : k < m
      · obtain ⟨j, hj⟩ : ∃ j, m - 1 - k = j := ⟨_, rfl⟩
        have ej : (m : Int) - 1 - (k : Int) = (j : Int) := by omega
        have HS := Lib.hid (be_take n m k hlt)
        rw [hj] at HS
        have hb := shr_byte n j
        obtain ⟨x, hx⟩ : ∃ x, UInt8.ofNat (n / 256 ^ j) = x := ⟨_, rfl⟩
        rw [hx] at HS hb
        have hj8 : (j : Int) < 8 := by omega
        have HJ := Lib.hid ej
        have HHJ := Lib.hid hj
        rw [ej]
        clear hx hj ej
        go_wp2_with (at_builtin; refine wpList_append_u8 rfl (.tmp 40) (.tmp 46) rfl w.heap.size u6 k ((be n m).take k) (by rfl) (HO.out.alloc _) (some ⟨wr.heap.size, 0, none⟩) 1 1 [x] (by rfl) rfl (fun h => by cases h) (Cells.new _ _ _ [x] rfl) (by omega) (Nat.le_trans HB.out.size (by simp)) ?_; intro v5 w5 hown5 hg5; have HO5 := Lib.hid hown5; have HB5 := Lib.hid ((HB.out.alloc HB.out.size (.cells #[.int .u8 (x.toNat : Int)] 5)).grown hg5 (Nat.le_trans HB.out.size (by simp)) (fun k h => own_ge HO.out k h)); clear hown5 hg5)
        have ej := HJ.out
        refine ⟨⟨k + 1, by omega, by rw [show (m : Int) - 1 - ((k + 1 : Nat) : Int) = (j : Int) - 1 by omega], by rw [HS.out]; exact HO5.out, HB5.out⟩, by simp [intOf]⟩
      · obtain rfl : k = m := by omega
        have e1 : (k : Int) - 1 - (k : Int) = -1 := by omega
        rw [e1]
        clear e1 hlt
        go_wp2_with fail
        go_ret2
        have h := HO.out
        rw [HE.out] at h
        exact ⟨_, rfl, h, HB.out⟩
/-- octets.Num: what does not fit. -/
def NumBad (n s : Int) : Prop := s < 1 ∨ 8 < s ∨ n < 0 ∨ 4611686018427387904 < n ∨ ∃ a m : Nat, n = (a : Int) ∧ s = (m : Int) ∧ m < 8 ∧ 256 ^ m ≤ a
set_option maxRecDepth 100000 in
set_option maxHeartbeats 4000000 in
theorem num_bad_c (ev : Value) (n s : Int) (w : World) (hc : w.cell? ⟨0, 0, none⟩ = some ev) (h : NumBad n s) :
    Calls Tryd.prog 12 #[.int .i64 n, .int .i64 s] w fun e w' => e = .returned (.tuple #[.slice none 0 0, ev]) ∧ ∃ k, w' = w.drewN k := by
  by_cases a1 : s < 1
  · go_enter Tryd.func12, Tryd.ntmps12
    go_wp2_with fail
    go_quiet (fail)
    go_wp2_with fail
    go_ret2
    exact ⟨rfl, _, rfl⟩
  have d1 : decide (s < 1) = false := by simp; omega
  by_cases a2 : 8 < s
  · have d2 : decide (8 < s) = true := by simp; omega
    clear h a1 a2
    go_enter Tryd.func12, Tryd.ntmps12
    go_wp2_with fail
    go_quiet (fail)
    go_wp2_with fail
    go_ret2
    exact ⟨rfl, _, rfl⟩
  have d2 : decide (8 < s) = false := by simp; omega
  by_cases a3 : n < 0
  · have d3 : decide (n < 0) = true := by simp; omega
    clear h a1 a2 a3
    go_enter Tryd.func12, Tryd.ntmps12
    go_wp2_with fail
    go_quiet (fail)
    go_wp2_with fail
    go_ret2
    exact ⟨rfl, _, rfl⟩
  have d3 : decide (n < 0) = false := by simp; omega
  by_cases a4 : 4611686018427387904 < n
  · have d4 : decide (4611686018427387904 < n) = true := by simp; omega
    clear h a1 a2 a3 a4
    go_enter Tryd.func12, Tryd.ntmps12
    go_wp2_with fail
    go_quiet (fail)
    go_wp2_with fail
    go_ret2
    exact ⟨rfl, _, rfl⟩
  obtain ⟨a, m, rfl, rfl, hm, ha⟩ : ∃ a m : Nat, n = (a : Int) ∧ s = (m : Int) ∧ m < 8 ∧ 256 ^ m ≤ a := by
    rcases h with h | h | h | h | h
    · exact (a1 h).elim
    · exact (a2 h).elim
    · exact (a3 h).elim
    · exact (a4 h).elim
    · exact h
  have d4 : decide (4611686018427387904 < (a : Int)) = false := by simp; omega
  have d5 := shr_big a m ha
  have d6 : (m : Int) < 8 := by omega
  have d7 : (1 : Int) ≤ (m : Int) := by omega
  clear h a1 a2 a3 a4 ha d3
  go_enter Tryd.func12, Tryd.ntmps12
  go_wp2_with fail
  go_quiet (fail)
  go_wp2_with fail
  go_ret2
  exact ⟨rfl, _, rfl⟩
theorem num_bad (adr : Nat → Addr) (n s : Int) (w : World) (hS : Sents w adr) (h : NumBad n s) :
    Calls Tryd.prog 12 #[.int .i64 n, .int .i64 s] w fun e w' => e = .returned (.tuple #[.slice none 0 0, errV adr 0]) ∧ ∃ k, w' = w.drewN k := num_bad_c (errV adr 0) n s w (hS.cell 0 _ rfl) h
/-! ### the reference -/
def RNumPost (n m : Nat) (w : World) (e : Ending) (w' : World) : Prop :=
  ∃ v, e = .returned (.tuple #[v, .int .i64 0]) ∧ w'.ownsRow w.heap.size 5 1 v m ((be n m).map u8v) ∧ Below w.heap.size w w'
theorem rnum_bad (n s : Int) (w : World) (h : s < 1 ∨ 8 < s ∨ n < 0 ∨ 4611686018427387904 < n) :
    Calls Tryd.prog 13 #[.int .i64 n, .int .i64 s] w fun e w' => e = .returned (.tuple #[.slice none 0 0, .int .i64 1]) ∧ w = w' := by
  by_cases a1 : s < 1
  · go_enter Tryd.func13, Tryd.ntmps13
    go_wp2_with fail
    go_ret2
    exact ⟨rfl, rfl⟩
  have d1 : decide (s < 1) = false := by simp; omega
  by_cases a2 : 8 < s
  · have d2 : decide (8 < s) = true := by simp; omega
    clear h a1 a2
    go_enter Tryd.func13, Tryd.ntmps13
    go_wp2_with fail
    go_ret2
    exact ⟨rfl, rfl⟩
  have d2 : decide (8 < s) = false := by simp; omega
  by_cases a3 : n < 0
  · have d3 : decide (n < 0) = true := by simp; omega
    clear h a1 a2 a3
    go_enter Tryd.func13, Tryd.ntmps13
    go_wp2_with fail
    go_ret2
    exact ⟨rfl, rfl⟩
  have d3 : decide (n < 0) = false := by simp; omega
  have d4 : decide (4611686018427387904 < n) = true := by simp; omega
  clear h a1 a2 a3
  go_enter Tryd.func13, Tryd.ntmps13
  go_wp2_with fail
  go_ret2
  exact ⟨rfl, rfl⟩
def RNumEnd (n m : Nat) (w : World) (e : Ending) (w' : World) : Prop :=
  (256 ^ m ≤ n → e = .returned (.tuple #[.slice none 0 0, .int .i64 1]) ∧ Below w.heap.size w w') ∧ (n < 256 ^ m → RNumPost n m w e w')
theorem tl_at (n m k j : Nat) (h : j < k) (hk : k ≤ m) : (List.map u8v (tl n m k))[j]? = some (.int .u8 0) := by
  unfold tl
  rw [List.map_append, List.getElem?_append_left (by simp; exact h), List.getElem?_map, List.getElem?_replicate, if_pos h]
  rfl
set_option maxRecDepth 100000 in
set_option maxHeartbeats 4000000 in
theorem rnum_any (n m : Nat) (w : World) (h1 : 1 ≤ m) (h8 : m ≤ 8) (hn : Hid (n ≤ 4611686018427387904)) :
    Calls Tryd.prog 13 #[.int .i64 (n : Int), .int .i64 (m : Int)] w (RNumEnd n m w) := by
  have g1 : (1 : Int) ≤ (m : Int) := by omega
  have g8 : (m : Int) ≤ 8 := by omega
  have d1 : decide ((m : Int) < 1) = false := by simp; omega
  have d2 : decide ((8 : Int) < (m : Int)) = false := by simp; omega
  have d4 : decide ((4611686018427387904 : Int) < (n : Int)) = false := by have := hn.out; simp; omega
  obtain ⟨i0, hi, hz0, hz1, hz2⟩ := info_parts Tryd.infoU8
  obtain ⟨w1, hmk, hown, hg⟩ := run_makeSlice_full (P := Tryd.prog) w w.heap.size 23 5 i0 (.int .u8 0) 1 Tryd.underlying23 hi hz0 hz1 .i64 .i64 m (by omega) (by rw [hz2]; omega) (by unfold maxLen; omega) (Nat.le_refl _)
  have HO1 : Hid (w1.ownsRow w.heap.size 5 1 (.slice (some ⟨w.heap.size, 0, none⟩) m m) m ((tl n m m).map u8v)) := Lib.hid (by
    rw [tl_top, List.map_replicate]
    have e : (madeCells (Value.int .u8 0).cells (m * 1)).toList = List.replicate m (u8v 0) := by
      rw [Nat.mul_one]
      exact toList_madeCells_one _ _
    rw [← e]; exact hown)
  have HB1 := Lib.hid ((Below.refl w.heap.size w).grown hg (Nat.le_refl _) (fun _ h => by cases h))
  clear hown hg hi hz0 hz1 hz2
  go_enter Tryd.func13, Tryd.ntmps13
  go_wp2_with fail
  clear d1 d2 d4 hmk
  go_loopw [0, 7] (fun nv i wr => ∃ k : Nat, k ≤ m ∧ i = .int .i64 ((k : Int) - 1) ∧ nv = .int .i64 ((n / 256 ^ (m - k) : Nat) : Int) ∧ wr.ownsRow w.heap.size 5 1 (.slice (some ⟨w.heap.size, 0, none⟩) m m) m ((tl n m k).map u8v) ∧ Below w.heap.size w wr) (fun _ i _ => (intOf i + 1).toNat)
  case atStart => exact ⟨m, Nat.le_refl _, rfl, by simp, HO1.out, HB1.out⟩
  case round =>
    obtain ⟨k, hk, rfl, rfl, hown, hB⟩ := hrel
    have HO := Lib.hid hown
    have HB := Lib.hid hB
    clear hown hB
    match k, hk, HO with
    | j + 1, hk, HO =>
      have ej : ((j + 1 : Nat) : Int) - 1 = (j : Int) := by omega
      rw [ej]
      have hq1 : m - (j + 1) = m - 1 - j := by omega
      obtain ⟨q, hq⟩ : ∃ q, n / 256 ^ (m - 1 - j) = q := ⟨_, rfl⟩
      rw [hq1, hq]
      have HQ := Lib.hid hq
      have HQ2 : Hid (n / 256 ^ (m - j) = q / 256) := Lib.hid (by
        rw [← hq, Nat.div_div_eq_div_mul, ← Nat.pow_succ]
        congr 2
        omega)
      have hx : IntKind.u8.wrap ((q : Int) % 256) = ((UInt8.ofNat q).toNat : Int) := by rw [IntKind.wrap_u8, UInt8.toNat_ofNat']; omega
      obtain ⟨x, hxx⟩ : ∃ x, UInt8.ofNat q = x := ⟨_, rfl⟩
      rw [hxx] at hx
      have HX := Lib.hid hxx
      have HJ := Lib.hid hk
      have hj1 : (j : Int) < (m : Int) := by omega
      have hcell := (HO.out.cellAt j (by omega)).trans (tl_at n m (j + 1) j (by omega) hk)
      have hfr := HO.out.frozenAt j
      have hq9 : (q : Int) ≤ 4611686018427387904 := by
        have h1 := hn.out
        have h2 := HQ.out
        have h3 : n / 256 ^ (m - 1 - j) ≤ n := Nat.div_le_self _ _
        omega
      clear hq hq1 hxx ej hk
      go_wp2_with fail
      have hst := (HO.out.stored j (u8v x)).1
      rw [← List.map_set] at hst
      have hts := tl_set n m j (by have := HJ.out; omega)
      rw [HQ.out, HX.out] at hts
      rw [hts] at hst
      refine ⟨⟨j, by have := HJ.out; omega, rfl, by rw [HQ2.out, Int.natCast_ediv]; rfl, hst, HB.out.setCell (Nat.le_refl _) _⟩, by simp [intOf]⟩
    | 0, hk, HO =>
      have e0 : ((0 : Nat) : Int) - 1 = -1 := rfl
      rw [e0, Nat.sub_zero]
      obtain ⟨q, hq⟩ : ∃ q, n / 256 ^ m = q := ⟨_, rfl⟩
      rw [hq]
      have HQ := Lib.hid hq
      clear hq e0
      by_cases hz : q = 0
      · subst hz
        go_wp2_with fail
        go_ret2
        refine ⟨fun h => ?_, fun _ => ⟨_, rfl, by have := HO.out; rwa [tl_zero] at this, HB.out⟩⟩
        have := Nat.div_pos h (Nat.pow_pos (by omega))
        rw [HQ.out] at this
        omega
      · have hq0 : (0 : Int) < (q : Int) := by omega
        clear hz
        go_wp2_with fail
        go_ret2
        refine ⟨fun _ => ⟨rfl, HB.out⟩, fun h => ?_⟩
        have h2 := Nat.div_eq_of_lt h
        have h3 := HQ.out
        rw [h2] at h3
        omega
end Go.Proofs.YtilhioiocfllhaaDoor
