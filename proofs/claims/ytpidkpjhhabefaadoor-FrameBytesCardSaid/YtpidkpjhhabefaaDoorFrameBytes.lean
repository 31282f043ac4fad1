/- The walks of frame.Bytes, frame.Same, bytes.Equal. -/
import Derived.Test.YtpidkpjhhabefaaDoorFrameOpen
namespace Go.Proofs.YtpidkpjhhabefaaDoor
open Go.RowKit FrameMath
set_option linter.unusedVariables false

/-- bytes.Equal, as a Bool. -/
def eqL (a b : List UInt8) : Bool := decide (a = b)
theorem str_eq (a b : List UInt8) : ((⟨a.toArray⟩ : ByteArray).toList == (⟨b.toArray⟩ : ByteArray).toList) = eqL a b := by
  rw [ByteArray.toList_eq, ByteArray.toList_eq]
  rw [Bool.eq_iff_iff, beq_iff_eq]
  simp [eqL]
set_option maxHeartbeats 1000000 in
theorem equal_any (ao bo : Option Addr) (n c m d : Nat) (l k : List UInt8) (w : World) (ha : Cells w ao l) (hb : Cells w bo k) (hn : l.length = n) (hm : k.length = m) :
    Calls Tryd.prog 24 #[.slice ao n c, .slice bo m d] w fun e w' => e = .returned (.bool (eqL l k)) ∧ w = w' := by
  have k1 := conv_cells (c := c) ha hn
  have k2 := conv_cells (c := d) hb hm
  have hs := str_eq l k
  obtain ⟨x, hx⟩ : ∃ x : ByteArray, ⟨l.toArray⟩ = x := ⟨_, rfl⟩
  obtain ⟨y, hy⟩ : ∃ x : ByteArray, ⟨k.toArray⟩ = x := ⟨_, rfl⟩
  rw [hx] at k1 hs
  rw [hy] at k2 hs
  obtain ⟨r, hr⟩ : ∃ r, eqL l k = r := ⟨_, rfl⟩
  rw [hr] at hs ⊢
  clear hx hy hr ha hb hn hm
  go_enter Tryd.func24, Tryd.ntmps24
  go_wp2_with fail
  go_ret
  exact ⟨rfl, rfl⟩
set_option maxHeartbeats 1000000 in
/-- frame.Same: kinds and bodies alike. -/
theorem samef_ne (k1 k2 : Int) (v1 v2 : Value) (w : World) (h : k1 ≠ k2) (o1 : v1.oneCell' = true) (o2 : v2.oneCell' = true) :
    Calls Tryd.prog 20 #[.agg #[.int .i64 k1, v1], .agg #[.int .i64 k2, v2]] w fun e w' => e = .returned (.bool false) ∧ Below w.heap.size w w' := by
  have hk : (k1 == k2) = false := by rw [beq_eq_false_iff_ne]; exact h
  clear h
  go_enter Tryd.func20, Tryd.ntmps20
  go_wp2_with fail
  go_ret
  exact ⟨rfl, ((Below.refl _ w).alloc (Nat.le_refl _) _).alloc (by simp) _⟩
set_option maxHeartbeats 1000000 in
theorem samef_eq (k : Int) (ao bo : Option Addr) (n c m d : Nat) (l j : List UInt8) (w : World) (ha : Cells w ao l) (hb : Cells w bo j) (hn : l.length = n) (hm : j.length = m) :
    Calls Tryd.prog 20 #[.agg #[.int .i64 k, .slice ao n c], .agg #[.int .i64 k, .slice bo m d]] w fun e w' => e = .returned (.bool (eqL l j)) ∧ Below w.heap.size w w' := by
  have HB := Lib.hid (((Below.refl _ w).alloc (Nat.le_refl _) (.cells #[.int .i64 k, .slice ao n c] 46)).alloc (by simp) (.cells #[.int .i64 k, .slice bo m d] 46))
  have HA1 := Lib.hid (ha.below HB.out rfl)
  have HA2 := Lib.hid (hb.below HB.out rfl)
  have HN := Lib.hid hn
  have HM := Lib.hid hm
  clear ha hb hn hm
  go_enter Tryd.func20, Tryd.ntmps20
  go_wp2_with (go_at_call 24; refine (equal_any _ _ _ _ _ _ l j _ HA1.out HA2.out HN.out HM.out).mono ?_; rintro e w' ⟨rfl, rfl⟩)
  go_ret
  exact ⟨rfl, HB.out⟩
set_option maxHeartbeats 1000000 in
theorem fbytes_range (adr : Nat → Addr) (kd : Int) (ao : Option Addr) (n c : Nat) (w : World) (hS : Sents w adr) (hk : kd < 0 ∨ 255 < kd) (hn : n ≤ 1000000) :
    Calls Tryd.prog 19 #[.agg #[.int .i64 kd, .slice ao n c]] w fun e w' => e = .returned (.tuple #[.slice none 0 0, errV adr 0]) ∧ Below w.heap.size w w' := by
  have HB := Lib.hid ((Below.refl _ w).alloc (Nat.le_refl _) (.cells #[.int .i64 kd, .slice ao n c] 46))
  have HC := Lib.hid ((hS.below HB.out).cell 0 _ rfl)
  clear hS
  have hn' : (n : Int) ≤ 1000000 := by omega
  rcases hk with hk | hk
  · have hc := HC.out
    go_enter Tryd.func19, Tryd.ntmps19
    go_wp2_with fail
    go_quiet (fail)
    go_wp2_with fail
    go_ret2
    exact ⟨rfl, HB.out.trans (drewN_below _ _ _)⟩
  · have hc := HC.out
    have h0 : decide (kd < 0) = false := by simp; omega
    go_enter Tryd.func19, Tryd.ntmps19
    go_wp2_with fail
    go_quiet (fail)
    go_wp2_with fail
    go_ret2
    exact ⟨rfl, HB.out.trans (drewN_below _ _ _)⟩
set_option maxHeartbeats 1000000 in
theorem fbytes_long (adr : Nat → Addr) (kd : Int) (ao : Option Addr) (n c : Nat) (w : World) (hS : Sents w adr) (h0 : 0 ≤ kd) (h1 : kd ≤ 255) (hn : n ≤ 1000000) (hl : 1199 < n) :
    Calls Tryd.prog 19 #[.agg #[.int .i64 kd, .slice ao n c]] w fun e w' => e = .returned (.tuple #[.slice none 0 0, errV adr 2]) ∧ Below w.heap.size w w' := by
  have HB := Lib.hid ((Below.refl _ w).alloc (Nat.le_refl _) (.cells #[.int .i64 kd, .slice ao n c] 46))
  have hc := (hS.below HB.out).cell 2 _ rfl
  clear hS
  have hn' : (n : Int) ≤ 1000000 := by omega
  have hl' : (1200 : Int) < (n : Int) + 1 := by omega
  go_enter Tryd.func19, Tryd.ntmps19
  go_wp2_with fail
  go_quiet (fail)
  go_wp2_with fail
  go_ret2
  exact ⟨rfl, HB.out.trans (drewN_below _ _ _)⟩
/-- The bytes of a frame. -/
def enc (kd : Int) (l : List UInt8) : List UInt8 := [UInt8.ofNat ((l.length + 1) / 256), UInt8.ofNat (l.length + 1), UInt8.ofNat kd.toNat] ++ l
def FBytesPost (kd : Int) (l : List UInt8) (w : World) (e : Ending) (w' : World) : Prop :=
  ∃ ao c, e = .returned (.tuple #[.slice ao (l.length + 3) c, .nilIface]) ∧ Below w.heap.size w w' ∧ Bytes8 w' ao (l.length + 3) c (enc kd l)
set_option maxRecDepth 100000 in
set_option maxHeartbeats 1000000 in
theorem fbytes_ok (kd : Int) (ao : Option Addr) (n c : Nat) (l : List UInt8) (w : World) (h0 : 0 ≤ kd) (h1 : kd ≤ 255) (hl : n ≤ 1199) (hb : Bytes8 w ao n c l) :
    Calls Tryd.prog 19 #[.agg #[.int .i64 kd, .slice ao n c]] w (FBytesPost kd l w) := by
  have HB := Lib.hid ((Below.refl _ w).alloc (Nat.le_refl _) (.cells #[.int .i64 kd, .slice ao n c] 46))
  have HBY := Lib.hid hb
  have hn' : (n : Int) ≤ 1199 := by omega
  obtain ⟨x1, hx1⟩ : ∃ x, UInt8.ofNat ((n + 1) / 256) = x := ⟨_, rfl⟩
  obtain ⟨x2, hx2⟩ : ∃ x, UInt8.ofNat (n + 1) = x := ⟨_, rfl⟩
  obtain ⟨x3, hx3⟩ : ∃ x, UInt8.ofNat kd.toNat = x := ⟨_, rfl⟩
  have e1 : IntKind.u8.wrap (((n : Int) + 1) / 256) = (x1.toNat : Int) := by
    rw [IntKind.wrap_u8, ← hx1, UInt8.toNat_ofNat']; omega
  have e2 : IntKind.u8.wrap ((n : Int) + 1) = (x2.toNat : Int) := by
    rw [IntKind.wrap_u8, ← hx2, UInt8.toNat_ofNat']; omega
  have e3 : IntKind.u8.wrap kd = (x3.toNat : Int) := by
    rw [IntKind.wrap_u8, ← hx3, UInt8.toNat_ofNat']; omega
  have HE : Hid (enc kd l = [x1, x2, x3] ++ l) := Lib.hid (by unfold enc; rw [hb.len, hx1, hx2, hx3])
  have HOWN : Hid (((w.alloc (.cells #[.int .i64 kd, .slice ao n c] 46)).alloc (.cells #[.int .u8 (x1.toNat : Int), .int .u8 (x2.toNat : Int), .int .u8 (x3.toNat : Int)] 5)).ownsRow w.heap.size 5 1 (.slice (some ⟨w.heap.size + 1, 0, none⟩) 3 3) 3 ([x1, x2, x3].map u8v)) := Lib.hid (by
    have h := own_new w.heap.size (w.alloc (.cells #[.int .i64 kd, .slice ao n c] 46)) [x1, x2, x3] #[.int .u8 (x1.toNat : Int), .int .u8 (x2.toNat : Int), .int .u8 (x3.toNat : Int)] rfl 3 rfl (by omega) (by simp)
    rw [World.size_alloc] at h
    exact h)
  have HB2 := Lib.hid (HB.out.alloc HB.out.size (.cells #[.int .u8 (x1.toNat : Int), .int .u8 (x2.toNat : Int), .int .u8 (x3.toNat : Int)] 5))
  have HC2 := Lib.hid (hb.cells.below HB2.out rfl)
  have HN : Hid (l.length = n) := Lib.hid hb.len
  have HNO := Lib.hid hb.none
  clear hb hx1 hx2 hx3
  go_enter Tryd.func19, Tryd.ntmps19
  go_wp2_with (at_builtin; refine wpList_append_u8 rfl (.tmp 31) (.tmp 33) rfl w.heap.size (.slice (some ⟨w.heap.size + 1, 0, none⟩) 3 3) 3 [x1, x2, x3] (by rfl) HOWN.out ao n c l (by rfl) HN.out HNO.out HC2.out (by omega) HB2.out.size ?_; intro v3 w3 hown3 hg3; have HO3 := Lib.hid hown3; have HB3 := Lib.hid (HB2.out.grown hg3 HB2.out.size (fun k h => by cases h; exact Nat.le_succ _)); clear hown3 hg3)
  go_ret2
  obtain ⟨ao3, c3, rfl, hc3, hl3, hno3, hcp3, htp3⟩ := own_cells HO3.out
  unfold maxLen at htp3
  refine ⟨ao3, c3, ?_, HB3.out, ?_⟩
  · rw [HN.out, Nat.add_comm n 3]; rfl
  · rw [HN.out, Nat.add_comm n 3, HE.out]
    exact ⟨hl3, hc3, hno3, hcp3, by omega⟩
end Go.Proofs.YtpidkpjhhabefaaDoor
