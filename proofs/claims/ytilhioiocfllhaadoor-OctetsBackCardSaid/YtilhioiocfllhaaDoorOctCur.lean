/- The walks of octets' cursor, where what is asked for is there. -/
import Derived.Test.YtilhioiocfllhaaDoorOctText
import Derived.Lib.SliceRun
import Derived.WalkMore
import Derived.Laws.Bits64
import Derived.Maps.AppendAt
namespace Go.Proofs.YtilhioiocfllhaaDoor
open Go.RowKit OctMath
set_option linter.unusedVariables false

/-- A cursor: its bytes, its place, no error. -/
structure Cur (Bc b off n c : Nat) (L : List UInt8) (p : Nat) (w : World) : Prop where
  c0 : w.cell? ⟨Bc, 0, none⟩ = some (.slice (some ⟨b, off, none⟩) n c)
  c1 : w.cell? ⟨Bc, 1, none⟩ = some (.int .i64 (p : Int))
  c2 : w.cell? ⟨Bc, 2, none⟩ = some .nilIface
  fr : w.frozen? ⟨Bc, 1, none⟩ = false
  len : L.length = n
  le : p ≤ n
  cap : n ≤ c
  small : n ≤ 1000000000
  top : c ≤ 9223372036854775807
  cells : Cells w (some ⟨b, off, none⟩) L
  apart : b ≠ Bc
theorem Cur.drewN {Bc b off n c : Nat} {L : List UInt8} {p : Nat} {w : World} (h : Cur Bc b off n c L p w) (k : Nat) : Cur Bc b off n c L p (w.drewN k) where
  c0 := by simpa using h.c0
  c1 := by simpa using h.c1
  c2 := by simpa using h.c2
  fr := by simpa using h.fr
  len := h.len
  le := h.le
  cap := h.cap
  small := h.small
  top := h.top
  cells := h.cells.drewN k
  apart := h.apart
theorem Cur.step {Bc b off n c : Nat} {L : List UInt8} {p : Nat} {w : World} (h : Cur Bc b off n c L p w) (q : Nat) (hq : q ≤ n) : Cur Bc b off n c L q (w.setCell ⟨Bc, 1, none⟩ (.int .i64 (q : Int))) where
  c0 := by rw [World.cell?_setCell_other _ _ _ _ (by simp)]; exact h.c0
  c1 := World.cell?_setCell_same' _ _ _ (by rw [h.c1]; rfl)
  c2 := by rw [World.cell?_setCell_other _ _ _ _ (by simp)]; exact h.c2
  fr := by rw [World.frozen?_setCell]; exact h.fr
  len := h.len
  le := hq
  cap := h.cap
  small := h.small
  top := h.top
  cells := .inr ⟨b, off, rfl, fun i hi => by
    rw [World.cell?_setCell_other _ _ _ _ (by intro e; simp at e; exact h.apart e.1.symm)]
    exact h.cells.at i hi⟩
  apart := h.apart
/-- What a cursor's function leaves of memory. -/
def CurTo (Bc b off n c : Nat) (L : List UInt8) (q : Nat) (w w' : World) : Prop := Cur Bc b off n c L q w' ∧ w.grownBy w' (some Bc)

theorem grown_drewN (w : World) (k : Nat) (r : Option Nat) : w.grownBy (w.drewN k) r := ⟨rfl, rfl, rfl, Nat.le_refl _, fun _ _ _ => rfl⟩
theorem grown_store (w : World) (b i : Nat) (v : Value) : w.grownBy (w.setCell ⟨b, i, none⟩ v) (some b) :=
  ⟨rfl, rfl, rfl, by simp, fun k _ hk => heap_setCell_other w ⟨b, i, none⟩ k v (fun e => hk (by simp [e]))⟩
set_option maxHeartbeats 1000000 in
theorem left_any {Bc b off n c : Nat} {L : List UInt8} {p : Nat} {w : World} (h : Cur Bc b off n c L p w) :
    Calls Tryd.prog 22 #[.pointer (some ⟨Bc, 0, none⟩)] w fun e w' => e = .returned (.int .i64 ((n : Int) - (p : Int))) ∧ ∃ k, w' = w.drewN k := by
  have c0 := h.c0
  have c1 := h.c1
  have hp : (p : Int) ≤ (n : Int) := by have := h.le; omega
  have hn : (n : Int) ≤ 1000000000 := by have := h.cap; have := h.small; omega
  clear h
  go_enter Tryd.func22, Tryd.ntmps22
  go_wp2_with fail
  go_quiet (fail)
  go_wp2_with fail
  go_ret
  exact ⟨rfl, _, rfl⟩
set_option maxHeartbeats 1000000 in
theorem place_any {Bc b off n c : Nat} {L : List UInt8} {p : Nat} {w : World} (h : Cur Bc b off n c L p w) :
    Calls Tryd.prog 23 #[.pointer (some ⟨Bc, 0, none⟩)] w fun e w' => e = .returned (.int .i64 (p : Int)) ∧ w = w' := by
  have c1 := h.c1
  clear h
  go_enter Tryd.func23, Tryd.ntmps23
  go_wp2_with fail
  go_ret
  exact ⟨rfl, rfl⟩
set_option maxHeartbeats 1000000 in
theorem end_any {Bc b off n c : Nat} {L : List UInt8} {w : World} (h : Cur Bc b off n c L n w) :
    Calls Tryd.prog 21 #[.pointer (some ⟨Bc, 0, none⟩)] w fun e w' => e = .returned .nilIface ∧ ∃ k, w' = w.drewN k := by
  have H := Lib.hid h
  have c2 := h.c2
  have e0 : (n : Int) - (n : Int) = 0 := by omega
  clear h
  go_enter Tryd.func21, Tryd.ntmps21
  go_wp2_with (go_at_call 22; refine (left_any H.out).mono ?_; rintro e w' ⟨rfl, k, rfl⟩)
  go_ret
  exact ⟨rfl, _, rfl⟩
set_option maxRecDepth 100000 in
set_option maxHeartbeats 2000000 in
theorem next_any {Bc b off n c : Nat} {L : List UInt8} {p : Nat} {w : World} (h : Cur Bc b off n c L p w) (m : Nat) (h1 : 1 ≤ m) (hm : p + m ≤ n) :
    Calls Tryd.prog 42 #[.pointer (some ⟨Bc, 0, none⟩), .int .i64 (m : Int)] w fun e w' => e = .returned (.slice (some ⟨b, off + p, none⟩) m m) ∧ ∃ k, w' = w.drewN k := by
  have H := Lib.hid h
  have c0 := h.c0
  have c1 := h.c1
  have c2 := h.c2
  have hn : (n : Int) ≤ 1000000000 := by have := h.cap; have := h.small; omega
  have hc : (n : Int) ≤ (c : Int) := by have := h.cap; omega
  have hm1 : (1 : Int) ≤ (m : Int) := by omega
  have hm2 : (p : Int) + (m : Int) ≤ (n : Int) := by omega
  have hm3 : (m : Int) ≤ (n : Int) - (p : Int) := by omega
  have hm4 : (p : Int) + (m : Int) ≤ (c : Int) := by omega
  have hne : ¬ p + m - p = 0 := by omega
  have hse : p + m - p = m := by omega
  clear h
  go_enter Tryd.func42, Tryd.ntmps42
  go_wp2_with (go_at_call 22; refine (left_any H.out).mono ?_; rintro e w' ⟨rfl, k, rfl⟩)
  go_quiet (fail)
  go_wp2_with fail
  rw [hse]
  go_ret
  exact ⟨rfl, k + nq, World.drewN_drewN _ _ _⟩
theorem Cells.sub {w : World} {b off : Nat} {L : List UInt8} (h : Cells w (some ⟨b, off, none⟩) L) (p m : Nat) : Cells w (some ⟨b, off + p, none⟩) ((L.drop p).take m) := by
  refine .inr ⟨b, off + p, rfl, fun i hi => ?_⟩
  have hi' : i < m ∧ i < L.length - p := by simp at hi; omega
  have h1 := h.at (p + i) (by omega)
  rw [← Nat.add_assoc] at h1
  rw [h1]
  simp [List.getD, hi'.1]
set_option maxHeartbeats 1000000 in
/-- Flag. -/
theorem cflag_any {Bc b off n c : Nat} {L : List UInt8} {p : Nat} {w : World} (h : Cur Bc b off n c L p w) (is : Bool) (hm : p + 1 ≤ n) (hl : (L.drop p).take 1 = [bit is]) :
    Calls Tryd.prog 18 #[.pointer (some ⟨Bc, 0, none⟩)] w fun e w' => e = .returned (.bool is) ∧ CurTo Bc b off n c L (p + 1) w w' := by
  have H := Lib.hid h
  have HM := Lib.hid hm
  have hc := h.cells.sub p 1
  rw [hl] at hc
  have hx := hc.at 0 (by simp)
  simp only [Nat.add_zero, List.getD_cons_zero] at hx
  have hq : ∀ W, Sem.run Tryd.prog (binOp .eql 23 (.slice (some ⟨b, off + p, none⟩) 1 1) (.slice none 0 0)) W = .ok (.bool false) W := fun W => Lib.run_eql_slice_nil W _ _ _ _ _ _ _ Tryd.underlying23
  have hk : ∀ W v, World.cell? (World.setCell W ⟨Bc, 1, none⟩ v) ⟨b, off + p, none⟩ = World.cell? W ⟨b, off + p, none⟩ := fun W v => World.cell?_setCell_other _ _ _ _ (by intro e; simp at e; exact h.apart e.1.symm)
  have c1 := h.c1
  have fr := h.fr
  have hn : (p : Int) + 1 ≤ 1000000000 := by have := h.cap; have := h.small; omega
  clear h hc hl hm
  cases is
  all_goals
    simp only [bit] at hx
    have hx' : w.cell? ⟨b, off + p, none⟩ = some (.int .u8 _) := hx
    go_enter Tryd.func18, Tryd.ntmps18
    go_wp2_with (go_at_call 42; refine (next_any H.out 1 (by omega) HM.out).mono ?_; rintro e w' ⟨rfl, k, rfl⟩)
    go_ret
    refine ⟨rfl, ?_, ?_⟩
    · have := (H.out.drewN k).step (p + 1) HM.out
      simpa using this
    · exact (grown_drewN w k _).trans (grown_store _ _ _ _)
/-! ### a number -/
theorem or_u64 (q : Nat) (x : UInt8) (h : q * 256 + 255 ≤ 9223372036854775807) : bits .or .u64 ((q : Int) * 256) (x.toNat : Int) = (q : Int) * 256 + (x.toNat : Int) := by
  have hx := x.toNat_lt
  exact bits_join .u64 64 (by decide) (fun n h0 h1 => by rw [IntKind.wrap_u64]; omega) 8 _ _ (by omega) (by omega) (by omega) (by omega) (by omega) (by omega)
theorem shl_u64 (q : Nat) (h : q * 256 + 255 ≤ 9223372036854775807) : IntKind.u64.wrap ((q : Int) * 256) = (q : Int) * 256 := by rw [IntKind.wrap_u64]; omega
set_option maxRecDepth 100000 in
set_option maxHeartbeats 2000000 in
theorem number_any (b off m c n : Nat) (w : World) (hc : Cells w (some ⟨b, off, none⟩) (be n m)) (h1 : 1 ≤ m) (h8 : m ≤ 8) (hn : Hid (n ≤ 4611686018427387904)) (hf : Hid (n < 256 ^ m)) :
    Calls Tryd.prog 44 #[.slice (some ⟨b, off, none⟩) m c] w fun e w' => e = .returned (.int .u64 (n : Int)) ∧ w = w' := by
  have HC := Lib.hid hc
  clear hc
  go_enter Tryd.func44, Tryd.ntmps44
  go_wp2_with fail
  go_loop [3, 8] (fun v i => ∃ k : Nat, k ≤ m ∧ i = .int .i64 (k : Int) ∧ v = .int .u64 ((n / 256 ^ (m - k) : Nat) : Int)) (fun _ i => m - (intOf i).toNat)
  case atStart => exact ⟨0, Nat.zero_le _, rfl, by rw [Nat.sub_zero, Nat.div_eq_of_lt hf.out]; rfl⟩
  case round =>
    obtain ⟨k, hk, rfl, rfl⟩ := hrel
    by_cases hlt : k < m
    · have hlt' : (k : Int) < (m : Int) := by omega
      have hx := HC.out.at k (by rw [be_length]; exact hlt)
      rw [be_getD n m k hlt] at hx
      obtain ⟨a, ha⟩ : ∃ a, n / 256 ^ (m - 1 - k) = a := ⟨_, rfl⟩
      have HA := Lib.hid ha
      have hq : n / 256 ^ (m - k) = a / 256 := by
        rw [← ha, Nat.div_div_eq_div_mul, ← Nat.pow_succ]
        congr 2
        omega
      have hale : a ≤ n := by rw [← ha]; exact Nat.div_le_self _ _
      rw [ha] at hx
      rw [hq]
      obtain ⟨q, hqq⟩ : ∃ q, a / 256 = q := ⟨_, rfl⟩
      obtain ⟨x, hxx⟩ : ∃ x, UInt8.ofNat a = x := ⟨_, rfl⟩
      have hxa : x.toNat = a % 256 := by rw [← hxx, UInt8.toNat_ofNat']
      have hbd : q * 256 + 255 ≤ 9223372036854775807 := by have := hn.out; omega
      have e1 := shl_u64 q hbd
      have e2 := or_u64 q x hbd
      have HQX : Hid ((a : Int) = (q : Int) * 256 + (x.toNat : Int)) := Lib.hid (by omega)
      have e3 : IntKind.u64.wrap (x.toNat : Int) = (x.toNat : Int) := by have := x.toNat_lt; rw [IntKind.wrap_u64]; omega
      rw [hqq]
      rw [hxx] at hx
      have HLT := Lib.hid hlt
      clear ha hq hale hqq hxx hxa hbd hlt
      go_wp2_with fail
      refine ⟨⟨k + 1, by have := HLT.out; omega, by go_num, ?_⟩, by have := HLT.out; simp [intOf]; omega⟩
      rw [show m - (k + 1) = m - 1 - k by omega, HA.out, HQX.out]
    · obtain rfl : k = m := by omega
      have e0 : n / 256 ^ (k - k) = n := by rw [Nat.sub_self, Nat.pow_zero, Nat.div_one]
      rw [e0]
      clear e0 hlt
      go_wp2_with fail
      go_ret
      exact ⟨rfl, rfl⟩
set_option maxRecDepth 100000 in
set_option maxHeartbeats 2000000 in
theorem cnum_any {Bc b off n c : Nat} {L : List UInt8} {p : Nat} {w : World} (h : Cur Bc b off n c L p w) (a m : Nat) (h1 : 1 ≤ m) (h8 : m ≤ 8) (hm : p + m ≤ n) (hl : (L.drop p).take m = be a m) (ha : Hid (a ≤ 4611686018427387904)) (hf : Hid (a < 256 ^ m)) :
    Calls Tryd.prog 19 #[.pointer (some ⟨Bc, 0, none⟩), .int .i64 (m : Int)] w fun e w' => e = .returned (.int .i64 (a : Int)) ∧ CurTo Bc b off n c L (p + m) w w' := by
  have H := Lib.hid h
  have HM := Lib.hid hm
  have hc := h.cells.sub p m
  rw [hl] at hc
  have HC := Lib.hid hc
  have c1 := h.c1
  have fr := h.fr
  have hn : (p : Int) + (m : Int) ≤ 1000000000 := by have := h.cap; have := h.small; omega
  have d1 : decide ((m : Int) < 1) = false := by simp; omega
  have d2 : decide ((8 : Int) < (m : Int)) = false := by simp; omega
  have d3 : decide ((4611686018427387904 : Int) < (a : Int)) = false := by have := ha.out; simp; omega
  have e1 : IntKind.i64.wrap (a : Int) = (a : Int) := by have := ha.out; rw [IntKind.wrap_i64]; omega
  clear h hc hl hm
  go_enter Tryd.func19, Tryd.ntmps19
  go_wp2_with (first | (go_at_call 42; refine (next_any H.out m h1 HM.out).mono ?_; rintro e w' ⟨rfl, k, rfl⟩) | (go_at_call 44; refine (number_any _ _ m _ a _ (HC.out.drewN _) h1 h8 ha hf).mono ?_; rintro e w' ⟨rfl, rfl⟩))
  go_ret
  refine ⟨rfl, ?_, ?_⟩
  · have := (H.out.drewN k).step (p + m) HM.out
    simpa using this
  · exact (grown_drewN w k _).trans (grown_store _ _ _ _)
/-! ### a text -/
set_option maxRecDepth 100000 in
set_option maxHeartbeats 2000000 in
theorem ctext_any {Bc b off n c : Nat} {L : List UInt8} {p : Nat} {w : World} (h : Cur Bc b off n c L p w) (s : ByteArray) (hs : s.size ≤ 255) (hm : p + (1 + s.size) ≤ n) (hl : (L.drop p).take (1 + s.size) = tx s) :
    Calls Tryd.prog 20 #[.pointer (some ⟨Bc, 0, none⟩), .int .i64 255] w fun e w' => e = .returned (.string s) ∧ CurTo Bc b off n c L (p + (1 + s.size)) w w' := by
  have H := Lib.hid h
  have HM := Lib.hid hm
  have hc := h.cells.sub p (1 + s.size)
  rw [hl] at hc
  have HC := Lib.hid hc
  obtain ⟨m, hmm⟩ : ∃ m, s.size = m := ⟨_, rfl⟩
  have HMM := Lib.hid hmm
  obtain ⟨M, hMM⟩ : ∃ M, 1 + m = M := ⟨_, rfl⟩
  have hx := hc.at 0 (by simp [tx])
  have hx0 : (tx s).getD 0 0 = UInt8.ofNat m := by rw [← hmm]; rfl
  rw [hx0, Nat.add_zero] at hx
  have hxn : ((UInt8.ofNat m).toNat : Int) = (m : Int) := by rw [UInt8.toNat_ofNat']; omega
  rw [hxn] at hx
  have hq1 : ∀ W, Sem.run Tryd.prog (binOp .eql 23 (.slice (some ⟨b, off + p, none⟩) 1 1) (.slice none 0 0)) W = .ok (.bool false) W := fun W => Lib.run_eql_slice_nil W _ _ _ _ _ _ _ Tryd.underlying23
  have hq2 : ∀ W, Sem.run Tryd.prog (binOp .eql 23 (.slice (some ⟨b, off + p, none⟩) M M) (.slice none 0 0)) W = .ok (.bool false) W := fun W => Lib.run_eql_slice_nil W _ _ _ _ _ _ _ Tryd.underlying23
  have hss : (⟨s.data.toList.toArray⟩ : ByteArray) = s := by obtain ⟨⟨l⟩⟩ := s; rfl
  have hsl : s.data.toList.length = m := by rw [← hmm]; simp
  have HT : Hid (∀ W, Cells W (some ⟨b, off + p, none⟩) (tx s) → ∀ cc, Sem.run Tryd.prog (convert 23 9 (.slice (some ⟨b, off + p + 1, none⟩) m cc)) W = .ok (.string s) W) := Lib.hid fun W hW cc => by
    have h1 : Cells W (some ⟨b, off + p + 1, none⟩) s.data.toList := .inr ⟨b, off + p + 1, rfl, fun i hi => by
      have := hW.at (i + 1) (by simp only [tx, List.length_cons]; omega)
      rw [show off + p + 1 + i = off + p + (i + 1) by omega]
      simpa [tx] using this⟩
    have := conv_cells (n := m) (c := cc) h1 hsl
    rwa [hss] at this
  have HT0 : Hid (m = 0 → ∀ W cc, Sem.run Tryd.prog (convert 23 9 (.slice (some ⟨b, off + p, none⟩) 0 cc)) W = .ok (.string s) W) := Lib.hid fun h0 W cc => by
    have h1 : Cells W (some ⟨b, off + p, none⟩) s.data.toList := .inl (List.eq_nil_of_length_eq_zero (by rw [hsl]; exact h0))
    have := conv_cells (n := m) (c := cc) h1 hsl
    rw [hss, h0] at this
    exact this
  have HK : Hid (∀ W v, Cells W (some ⟨b, off + p, none⟩) (tx s) → Cells (World.setCell W ⟨Bc, 1, none⟩ v) (some ⟨b, off + p, none⟩) (tx s)) := Lib.hid fun W v hW => .inr ⟨b, off + p, rfl, fun i hi => by
    rw [World.cell?_setCell_other _ _ _ _ (by intro e; simp at e; exact h.apart e.1.symm)]
    exact hW.at i hi⟩
  have c1 := h.c1
  have fr := h.fr
  have hn : (p : Int) + (M : Int) ≤ 1000000000 := by have := h.cap; have := h.small; omega
  have hm255 : (m : Int) ≤ 255 := by omega
  have e1 : (1 : Int) + (m : Int) = (M : Int) := by omega
  have HMX := Lib.hid hMM
  clear h hc hl hm hmm hx0 hxn hss hsl hs hMM
  rcases Nat.eq_zero_or_pos m with h0 | h0
  · subst h0
    have T0 := HT0.out rfl
    obtain rfl : M = 1 := HMX.out.symm
    go_enter Tryd.func20, Tryd.ntmps20
    go_wp2_with fail
    refine (next_any H.out 1 (by omega) (by have := HM.out; omega)).mono ?_
    rintro e w' ⟨rfl, k, rfl⟩
    go_wp2_with fail
    refine (next_any (H.out.drewN k) 1 (by omega) (by have := HM.out; omega)).mono ?_
    rintro e w' ⟨rfl, k', rfl⟩
    go_wp2_with fail
    go_ret
    refine ⟨rfl, ?_, ?_⟩
    · rw [HMM.out]
      have := ((H.out.drewN k).drewN k').step (p + 1) (by have := HM.out; omega)
      simpa using this
    · exact (grown_drewN w (k + k') _).trans (grown_store _ _ _ _)
  · have hne : ¬ M = 1 := by have := HMX.out; omega
    have he : M - 1 = m := by have := HMX.out; omega
    have hM1 : (1 : Int) ≤ (M : Int) := by have := HMX.out; omega
    clear HT0
    go_enter Tryd.func20, Tryd.ntmps20
    go_wp2_with fail
    refine (next_any H.out 1 (by omega) (by have := HM.out; omega)).mono ?_
    rintro e w' ⟨rfl, k, rfl⟩
    go_wp2_with fail
    refine (next_any (H.out.drewN k) M (by have := HMX.out; omega) (by have := HM.out; have := HMM.out; have := HMX.out; omega)).mono ?_
    rintro e w' ⟨rfl, k', rfl⟩
    have T1 := HT.out _ (HK.out _ (.int .i64 ((p : Int) + (M : Int))) ((HC.out.drewN k).drewN k')) m
    simp only [World.drewN_drewN] at T1
    go_wp2_with fail
    go_ret
    refine ⟨rfl, ?_, ?_⟩
    · rw [HMM.out, HMX.out]
      have := ((H.out.drewN k).drewN k').step (p + M) (by have := HM.out; have := HMM.out; have := HMX.out; omega)
      simpa using this
    · exact (grown_drewN w (k + k') _).trans (grown_store _ _ _ _)
/-! ### its making -/
def ClonePost (n : Nat) (L : List UInt8) (w : World) (e : Ending) (w' : World) : Prop :=
  ∃ g c, e = .returned (.slice (some ⟨g, 0, none⟩) n c) ∧ Cells w' (some ⟨g, 0, none⟩) L ∧ Below w.heap.size w w' ∧ w.heap.size ≤ g ∧ n ≤ c ∧ c ≤ 9223372036854775807 ∧ g < w'.heap.size
set_option maxHeartbeats 1000000 in
theorem sclone_any (b off n c : Nat) (L : List UInt8) (w : World) (hn : L.length = n) (h1 : 1 ≤ n) (hsz : n ≤ 1000000) (hc : Cells w (some ⟨b, off, none⟩) L) :
    Calls Tryd.prog 41 #[.slice (some ⟨b, off, none⟩) n c] w (ClonePost n L w) := by
  have HN := Lib.hid hn
  have HC := Lib.hid hc
  have HB1 := Lib.hid ((Below.refl w.heap.size w).alloc (Nat.le_refl _) (.cells #[] 5))
  have hq : Sem.run Tryd.prog (binOp .eql 23 (.slice (some ⟨b, off, none⟩) n c) (.slice none 0 0)) w = .ok (.bool false) w := Lib.run_eql_slice_nil w _ _ _ _ _ _ _ Tryd.underlying23
  clear hn hc
  go_enter Tryd.func41, Tryd.ntmps41
  go_wp2_with (at_builtin; refine wpList_append_u8 rfl (.tmp 5) (.tmp 6) rfl w.heap.size (.slice (some ⟨w.heap.size, 0, none⟩) 0 0) 0 [] (by rfl) (own_fresh _ _ (Nat.le_refl _)) (some ⟨b, off, none⟩) n c L (by rfl) HN.out (fun h => by cases h) (HC.out.below HB1.out rfl) (by omega) HB1.out.size ?_; intro v2 w2 hown2 hg2; simp only [Nat.zero_add, List.nil_append] at hown2; have HO := Lib.hid hown2; have HB2 := Lib.hid (HB1.out.grown hg2 HB1.out.size (fun k h => by cases h; exact Nat.le_refl _)); clear hown2 hg2)
  go_ret
  have h4 := HO.out
  obtain ⟨ao, cc, rfl, hcc, hl, hno, hcp, htp⟩ := own_cells h4
  unfold maxLen at htp
  rcases h4.2 with ⟨h5, h6⟩ | ⟨g, c', cur, h5, hg, hh, _⟩
  · omega
  · simp only [Value.slice.injEq, true_and] at h5
    obtain ⟨rfl, rfl⟩ := h5
    exact ⟨g, cc, rfl, hcc, HB2.out, hg, hcp, by omega, (Array.getElem?_eq_some_iff.1 hh).1⟩
def AtPost (n : Nat) (L : List UInt8) (w : World) (e : Ending) (w' : World) : Prop :=
  ∃ Bc b c, e = .returned (.pointer (some ⟨Bc, 0, none⟩)) ∧ Cur Bc b 0 n c L 0 w' ∧ Below w.heap.size w w' ∧ w.heap.size ≤ Bc ∧ w.heap.size ≤ b
set_option maxHeartbeats 1000000 in
theorem at_any (b off n c : Nat) (L : List UInt8) (w : World) (hn : L.length = n) (h1 : 1 ≤ n) (hsz : n ≤ 1000000) (hc : Cells w (some ⟨b, off, none⟩) L) :
    Calls Tryd.prog 17 #[.slice (some ⟨b, off, none⟩) n c] w (AtPost n L w) := by
  have HCL := Lib.hid (sclone_any b off n c L w hn h1 hsz hc)
  have HN := Lib.hid hn
  clear hn hc
  go_enter Tryd.func17, Tryd.ntmps17
  go_wp2_with (go_at_call 41; refine HCL.out.mono ?_; rintro e w1 ⟨g, cc, rfl, hcc, hb, hg, hcp, htp, hgl⟩; have HC := Lib.hid hcc; have HB := Lib.hid hb; clear hcc hb)
  go_ret
  have hbn : Below w1.heap.size w1 (w1.alloc (.cells #[.slice (some ⟨g, 0, none⟩) n cc, .int .i64 0, .nilIface] 80)) := (Below.refl _ w1).alloc (Nat.le_refl _) _
  refine ⟨w1.heap.size, g, cc, rfl, ⟨?_, ?_, ?_, ?_, HN.out, Nat.zero_le _, hcp, by omega, htp, HC.out.below hbn rfl, by omega⟩, HB.out.alloc HB.out.size _, HB.out.size, hg⟩
  · rw [World.cell?_alloc_mark]; rfl
  · rw [World.cell?_alloc_mark]; rfl
  · rw [World.cell?_alloc_mark]; rfl
  · exact frozen_of_row _ _ _ _ _ (heap_alloc_new w1 _)
end Go.Proofs.YtilhioiocfllhaaDoor
