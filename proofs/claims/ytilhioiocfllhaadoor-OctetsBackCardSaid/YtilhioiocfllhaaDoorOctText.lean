/- The walks of octets.Text, Flag and the chapter's example. -/
import Derived.Test.YtilhioiocfllhaaDoorOct
import Derived.Lib.AppendStr
namespace Go.Proofs.YtilhioiocfllhaaDoor
open Go.RowKit OctMath
set_option linter.unusedVariables false

/-- A text's bytes, its length ahead. -/
def tx (s : ByteArray) : List UInt8 := UInt8.ofNat s.size :: s.data.toList
theorem tx_length (s : ByteArray) : (tx s).length = 1 + s.size := by
  have : s.data.toList.length = s.size := by simp
  simp [tx]; omega
theorem strCells_u8 (s : ByteArray) : Lib.strCells s = s.data.toList.map u8v := rfl
def TextPost (s : ByteArray) (w : World) (e : Ending) (w' : World) : Prop :=
  ∃ g c, e = .returned (.tuple #[.slice (some ⟨g, 0, none⟩) (1 + s.size) c, .nilIface]) ∧ Cells w' (some ⟨g, 0, none⟩) (tx s) ∧ Below w.heap.size w w' ∧ 1 + s.size ≤ c ∧ c ≤ 9223372036854775807
set_option maxRecDepth 100000 in
set_option maxHeartbeats 2000000 in
theorem text_ok (s : ByteArray) (w : World) (hs : s.size ≤ 255) : Calls Tryd.prog 15 #[.string s] w (TextPost s w) := by
  obtain ⟨i0, hi, hz0, hz1, hz2⟩ := info_parts Tryd.infoU8
  obtain ⟨n, hn⟩ : ∃ n, s.size = n := ⟨_, rfl⟩
  have HN := Lib.hid hn
  have hs' : (s.size : Int) ≤ 255 := by omega
  have hx : IntKind.u8.wrap (s.size : Int) = ((UInt8.ofNat s.size).toNat : Int) := by rw [IntKind.wrap_u8, UInt8.toNat_ofNat']; omega
  obtain ⟨x, hxx⟩ : ∃ x, UInt8.ofNat s.size = x := ⟨_, rfl⟩
  rw [hxx] at hx
  have HX : Hid (tx s = x :: s.data.toList) := Lib.hid (by unfold tx; rw [hxx])
  have HO := Lib.hid (World.ownsRow_lit (base := w.heap.size) (e := 5) (size := 1) w #[.int .u8 (x.toNat : Int)] 1 (Nat.le_refl _) (by unfold maxLen; omega) rfl)
  have HB0 := Lib.hid ((Below.refl w.heap.size w).alloc (Nat.le_refl _) (.cells #[.int .u8 (x.toNat : Int)] 5))
  clear hn hxx
  go_enter Tryd.func15, Tryd.ntmps15
  go_wp2_with (at_builtin; refine Lib.wpList_append_own_string _ rfl (.tmp 11) (.tmp 12) 23 9 rfl w.heap.size 5 i0 Tryd.underlying23 Tryd.underlying9 hi hz0 hz1 hz2 (.slice (some ⟨w.heap.size, 0, none⟩) 1 1) 1 _ (by rfl) HO.out s (by rfl) (by unfold maxLen; omega) (by omega) HB0.out.size ?_; intro v3 w3 hown3 hg3 _; have HO3 := Lib.hid hown3; have HB3 := Lib.hid (HB0.out.grown hg3 HB0.out.size (fun k h => by cases h; exact Nat.le_refl _)); clear hown3 hg3)
  go_ret2
  have h3 := HO3.out
  rw [strCells_u8] at h3
  have h4 : w3.ownsRow w.heap.size 5 1 v3 (1 + s.size) ((tx s).map u8v) := by rw [HX.out]; exact h3
  obtain ⟨ao, c, rfl, hc, hl, hno, hcp, htp⟩ := own_cells h4
  unfold maxLen at htp
  rcases hc with h | ⟨b, off, rfl, h⟩
  · have := tx_length s
    rw [h] at this
    simp at this
    omega
  · rcases h4.2 with ⟨h5, _⟩ | ⟨g, c', cur, h5, _⟩
    · cases h5
    · simp only [Value.slice.injEq, Option.some.injEq, Addr.mk.injEq, and_true] at h5
      obtain ⟨⟨rfl, rfl⟩, _, rfl⟩ := h5
      exact ⟨_, _, rfl, .inr ⟨_, _, rfl, h⟩, HB3.out, hcp, by omega⟩
set_option maxHeartbeats 1000000 in
theorem text_long_c (ev : Value) (s : ByteArray) (w : World) (hc : w.cell? ⟨2, 0, none⟩ = some ev) (hs : 255 < s.size) (hm : s.size ≤ 9223372036854775807) :
    Calls Tryd.prog 15 #[.string s] w fun e w' => e = .returned (.tuple #[.slice none 0 0, ev]) ∧ ∃ k, w' = w.drewN k := by
  have hs' : (255 : Int) < (s.size : Int) := by omega
  go_enter Tryd.func15, Tryd.ntmps15
  go_wp2_with fail
  go_quiet (fail)
  go_wp2_with fail
  go_ret2
  exact ⟨rfl, _, rfl⟩
theorem text_long (adr : Nat → Addr) (s : ByteArray) (w : World) (hS : Sents w adr) (hs : 255 < s.size) (hm : s.size ≤ 9223372036854775807) :
    Calls Tryd.prog 15 #[.string s] w fun e w' => e = .returned (.tuple #[.slice none 0 0, errV adr 2]) ∧ ∃ k, w' = w.drewN k := text_long_c (errV adr 2) s w (hS.cell 2 _ rfl) hs hm
/-- A text's bytes, read: the length, and the text behind it. -/
theorem text_parts (g ct : Nat) (s : ByteArray) (x : UInt8) (w : World) (hc : Cells w (some ⟨g, 0, none⟩) (tx s)) (hx : tx s = x :: s.data.toList) (h1 : 1 + s.size ≤ ct) :
    w.cell? ⟨g, 0, none⟩ = some (.int .u8 (x.toNat : Int)) ∧ ∃ o, (if ct = 1 then some (⟨g, 0, none⟩ : Addr) else some ⟨g, 1, none⟩) = some o ∧ ∀ c, Sem.run Tryd.prog (convert 23 9 (.slice (some o) s.size c)) w = .ok (.string s) w := by
  rw [hx] at hc
  have h0 := hc.at 0 (by simp)
  have hs : (⟨s.data.toList.toArray⟩ : ByteArray) = s := by obtain ⟨⟨l⟩⟩ := s; rfl
  have hl : s.data.toList.length = s.size := by simp
  refine ⟨by simpa using h0, ?_⟩
  by_cases h : ct = 1
  · refine ⟨_, if_pos h, fun c => ?_⟩
    have e : s.data.toList = [] := List.eq_nil_of_length_eq_zero (by omega)
    have := conv_cells (n := s.size) (c := c) (.inl e : Cells w (some ⟨g, 0, none⟩) s.data.toList) hl
    rwa [hs] at this
  · refine ⟨_, if_neg h, fun c => ?_⟩
    have hc1 : Cells w (some ⟨g, 1, none⟩) s.data.toList := .inr ⟨g, 1, rfl, fun i hi => by
      have := hc.at (i + 1) (by simp; omega)
      rw [Nat.zero_add] at this
      rw [Nat.add_comm 1 i]
      simpa using this⟩
    have := conv_cells (n := s.size) (c := c) hc1 hl
    rwa [hs] at this
def bit (b : Bool) : UInt8 := if b then 1 else 0
theorem flag_any (b : Bool) (w : World) : Calls Tryd.prog 16 #[.bool b] w fun e w' => e = .returned (.slice (some ⟨w.heap.size, 0, none⟩) 1 1) ∧ w' = w.alloc (.cells #[u8v (bit b)] 5) := by
  cases b
  · go_enter Tryd.func16, Tryd.ntmps16
    go_wp2_with fail
    go_ret
    exact ⟨rfl, rfl⟩
  · go_enter Tryd.func16, Tryd.ntmps16
    go_wp2_with fail
    go_ret
    exact ⟨rfl, rfl⟩
set_option maxHeartbeats 1000000 in
theorem alive01_any (w : World) : Calls Tryd.prog 11 #[] w fun e w' => e = .returned (.bool true) ∧ Below w.heap.size w w' := by
  have HC : Hid (Calls Tryd.prog 12 #[.int .i64 258, .int .i64 2] w (NumPost 258 2 w)) := Lib.hid (num_ok 258 2 w (by omega) (by omega) (Lib.hid (by omega)) (Lib.hid (by decide)))
  go_enter Tryd.func11, Tryd.ntmps11
  go_wp2_with (go_at_call 12; refine HC.out.mono ?_; rintro e w1 ⟨v, rfl, hown, hb⟩; have HB := Lib.hid hb; obtain ⟨ao, c, rfl, hc, hl, _⟩ := own_cells hown; have hcv := conv_cells (n := 2) (c := c) hc hl; rw [show be 258 2 = [1, 2] by decide] at hcv; clear hown hb hc hl)
  go_ret
  exact ⟨rfl, HB.out⟩
end Go.Proofs.YtilhioiocfllhaaDoor
