/- The walk of the reference's Parse. -/
import Derived.Test.YtilhioiocfllhaaDoorHeadParse
namespace Go.Proofs.YtilhioiocfllhaaDoor
open Go.RowKit HeadMath SumsMath
set_option linter.unusedVariables false
set_option maxRecDepth 100000

/-! ### Loads and stores of whole heads -/
def ldR (x : Value) : Sem Value := Instr.loadAt 53 x
theorem ldR_eq (x : Value) : Instr.loadAt 53 x = ldR x := rfl
def stR (x v : Value) : Sem Unit := Instr.storeAt 53 x v
theorem stR_eq (x v : Value) : Instr.storeAt 53 x v = stR x v := rfl
theorem run_ldR {w : World} {b : Nat} {cs : List Value} (h : w.rangeAt b 0 cs) (hn : cs.length = 40) : Sem.run Tryd.prog (ldR (.pointer (some ⟨b, 0, none⟩))) w = .ok (.agg cs.toArray) w :=
  run_loadAt_mid w b 0 _ cs _ h Tryd.underlying53 rfl (by rw [hn]; kernel_rfl)
theorem run_stR {w : World} {b : Nat} {A : Array Value} (ht : w.there b 0 40) (hn : A.size = 40) (h1 : A.all (·.oneCell') = true) : Sem.run Tryd.prog (stR (.pointer (some ⟨b, 0, none⟩)) (.agg A)) w = .ok () (w.setCells b 0 A.toList) :=
  run_storeAt_mid w b 0 _ A (by rw [hn]; exact ht) (by rw [hn]; kernel_rfl) h1
/-- Zeros lie at a block. -/
def ZR (w : World) (b : Nat) : Prop := w.rangeAt b 0 HV.zero.cells
def zA : Array Value := HV.zero.cells.toArray
theorem run_ldZ (w : World) (b : Nat) (h : ZR w b) : Sem.run Tryd.prog (ldR (.pointer (some ⟨b, 0, none⟩))) w = .ok (.agg zA) w := run_ldR h rfl
theorem run_stZR (w : World) (b : Nat) (h : w.there b 0 40) : Sem.run Tryd.prog (stR (.pointer (some ⟨b, 0, none⟩)) (.agg zA)) w = .ok () (w.setCells b 0 HV.zero.cells) := run_stR (A := HV.zero.cells.toArray) h rfl (HV.one _)
theorem ZR_drewN (w : World) (d b : Nat) : ZR (w.drewN d) b = ZR w b := rfl
theorem there_drewN (w : World) (d b o n : Nat) : (w.drewN d).there b o n = w.there b o n := rfl
theorem ZR_setCells {w : World} {b b' o : Nat} {vs : List Value} (h : ZR w b) (hne : b ≠ b') : ZR (w.setCells b' o vs) b := fun j v hv => by
  rw [World.cell?_setCells_out _ _ _ _ _ (fun e => absurd e (by simpa using hne))]
  exact h j v hv
attribute [local go_sem ↓] ldA_eq stA_eq stI_eq ldR_eq stR_eq
attribute [local go_sem] there_setCells_rw there_setCell_rw run_stA_adr run_stI run_ldZ run_stZR ZR_drewN there_drewN

def RefPost (w : World) (r : Nat × HV) (e : Ending) (w' : World) : Prop :=
  Below w.heap.size w w' ∧ e = .returned (.tuple #[.agg r.2.cells.toArray, .int .i64 (r.1 : Int)])

theorem afterIp_err (r : Nat × HV) (l : List UInt8) (k : Nat) (h : r.1 = k + 1) : afterIp r l = (k + 1, HV.zero) := by
  unfold afterIp; rw [if_pos (by omega), h]
theorem own_form (h : HV) (q : List UInt8) : (ownH h q).2 = { h with flags := (ownH h q).2.flags, body := (ownH h q).2.body } := by
  unfold ownH tcpH udpH
  split <;> split <;> rfl
theorem ip_six (l : List UInt8) : ((ip4 HV.zero l).1 = 0 → (ip4 HV.zero l).2.six1 = false) ∧ ((ip6 HV.zero l).1 = 0 → (ip6 HV.zero l).2.six1 = true) := by
  constructor
  · unfold ip4; intro h
    split at h
    · cases h
    · split at h
      · cases h
      · split at h
        · cases h
        · rename_i k1 k2 k3
          rw [if_neg k1, if_neg k2, if_neg k3]
  · unfold ip6; intro h
    split at h
    · cases h
    · split at h
      · cases h
      · rename_i k1 k2
        rw [if_neg k1, if_neg k2]
/-- What holds where TCP and UDP meet again. -/
def OwnCut (B : Nat) (W5 : World) (h5 : HV) (ro : Nat × HV) (u : Value) (w : World) : Prop :=
  ∃ o : Int, u = .int .i64 o ∧ 0 ≤ o ∧ o ≤ 1000 ∧ ro.1 = 0 ∧ ro.2.body = h5.part + o ∧ W5.grownBy w (some B) ∧ HRec w B { h5 with flags := ro.2.flags }
/-- What holds where the versions meet again. -/
def RCut (B : Nat) (W2 : World) (r : Nat × HV) (w : World) : Prop := r.1 = 0 ∧ W2.grownBy w (some B) ∧ HRec w B r.2

set_option maxHeartbeats 16000000 in
theorem refparse_any (ao : Option Addr) (n c : Nat) (l : List UInt8) (w : World) (hl : l.length = n) (hnc : n ≤ c) (hcm : c ≤ 9223372036854775807) (hn6 : n ≤ 1000000) (hC : Cells w ao l) :
    Calls Tryd.prog 27 #[.slice ao n c] w (RefPost w (parse l)) := by
  obtain ⟨R, hR⟩ : ∃ R, w.heap.size = R := ⟨_, rfl⟩
  obtain ⟨W0, hW0⟩ : ∃ W, w.alloc (.cells #[.int .i64 0, .bool false, .int .u8 0, .int .u8 0, .int .u8 0, .int .u8 0, .int .u8 0, .int .u8 0, .int .u8 0, .int .u8 0, .int .u8 0, .int .u8 0, .int .u8 0, .int .u8 0, .int .u8 0, .int .u8 0, .int .u8 0, .int .u8 0, .int .i64 0, .bool false, .int .u8 0, .int .u8 0, .int .u8 0, .int .u8 0, .int .u8 0, .int .u8 0, .int .u8 0, .int .u8 0, .int .u8 0, .int .u8 0, .int .u8 0, .int .u8 0, .int .u8 0, .int .u8 0, .int .u8 0, .int .u8 0, .int .i64 0, .int .i64 0, .int .i64 0, .int .i64 0] 53) = W := ⟨_, rfl⟩
  have hs0 : W0.heap.size = R + 1 := by rw [← hW0, ← hR]; simp
  obtain ⟨W1, hW1⟩ : ∃ W, W0.alloc (.cells #[.int .i64 0, .bool false, .int .u8 0, .int .u8 0, .int .u8 0, .int .u8 0, .int .u8 0, .int .u8 0, .int .u8 0, .int .u8 0, .int .u8 0, .int .u8 0, .int .u8 0, .int .u8 0, .int .u8 0, .int .u8 0, .int .u8 0, .int .u8 0, .int .i64 0, .bool false, .int .u8 0, .int .u8 0, .int .u8 0, .int .u8 0, .int .u8 0, .int .u8 0, .int .u8 0, .int .u8 0, .int .u8 0, .int .u8 0, .int .u8 0, .int .u8 0, .int .u8 0, .int .u8 0, .int .u8 0, .int .u8 0, .int .i64 0, .int .i64 0, .int .i64 0, .int .i64 0] 53) = W := ⟨_, rfl⟩
  have hs1 : W1.heap.size = R + 2 := by rw [← hW1]; simp [hs0]
  have hst1 : Sem.run Tryd.prog (stR (.pointer (some ⟨R + 1, 0, none⟩)) (.agg #[.int .i64 0, .bool false, .int .u8 0, .int .u8 0, .int .u8 0, .int .u8 0, .int .u8 0, .int .u8 0, .int .u8 0, .int .u8 0, .int .u8 0, .int .u8 0, .int .u8 0, .int .u8 0, .int .u8 0, .int .u8 0, .int .u8 0, .int .u8 0, .int .i64 0, .bool false, .int .u8 0, .int .u8 0, .int .u8 0, .int .u8 0, .int .u8 0, .int .u8 0, .int .u8 0, .int .u8 0, .int .u8 0, .int .u8 0, .int .u8 0, .int .u8 0, .int .u8 0, .int .u8 0, .int .u8 0, .int .u8 0, .int .i64 0, .int .i64 0, .int .i64 0, .int .i64 0])) W1 = .ok () W1 := by
    rw [← hW1, ← hs0]
    exact run_storeAt_new W0 _ _ _ (by kernel_rfl) rfl (HV.one HV.zero)
  have hww1 : Below w.heap.size w W1 := by rw [← hW1, ← hW0]; exact ((Below.refl _ _).alloc (Nat.le_refl _) _).alloc (by simp) _
  have HK : Hid (∀ W, Below (R + 2) W1 W → W.there R 0 40 ∧ ZR W (R + 1) ∧ Below w.heap.size w W ∧ Cells W ao l) := Lib.hid fun W hb => by
    have h0 : W1.there R 0 40 := by
      have h00 : W0.there R 0 40 := by rw [← hW0, ← hR]; exact there_new w _ _ 40 rfl
      rw [← hW1]; exact there_below h00 ((Below.refl W0.heap.size W0).alloc (Nat.le_refl _) _) (by omega)
    have h1 : ZR W1 (R + 1) := by rw [← hW1, ← hs0]; exact range_new W0 _ _
    have hb2 : Below w.heap.size w W := hww1.trans (hb.mono (by omega))
    exact ⟨there_below h0 hb (by omega), rangeAt_below h1 hb (by omega), hb2, hC.below hb2 rfl⟩
  have HLO : Hid (∀ b off, ao = some ⟨b, off, none⟩ → l ≠ [] → b < R) := Lib.hid fun b off e hne => by
    subst e
    have := hC.at 0 (List.length_pos_iff.2 hne)
    rw [← hR]; exact World.block_lt_of_cell? w _ this
  obtain ⟨ht1, hz1, hb1, hC1⟩ := HK.out W1 (Below.refl _ _)
  have HT1 := Lib.hid ht1
  have HB1 := Lib.hid hb1
  have HC1 := Lib.hid hC1
  have HL := Lib.hid hl
  have HWW := Lib.hid hW1
  clear hb1 hC1 hC hww1 hl
  go_enter Tryd.func27, Tryd.ntmps27
  by_cases k0 : n = 0
  · subst k0
    have hr : Hid (parse l = (2, HV.zero)) := Lib.hid (by unfold parse; rw [if_pos HL.out])
    go_wp2_with fail
    exact bodyPost_ret (results_agg_tmp (p := 2) (u := 3) (ty := 53) rfl _ _ R HV.zero.cells _ rfl (range_stZ HV.zero ⟨rfl, rfl⟩ HT1.out) Tryd.underlying53 rfl (by kernel_rfl)) rfl ⟨setCells_below R (by omega) HV.zero.cells 0 _ HB1.out, by rw [hr.out]; rfl⟩
  have n0 : ¬ (n : Int) = 0 := by omega
  have n1 : (0 : Int) < (n : Int) := by omega
  obtain ⟨b, off, rfl, _⟩ : ∃ b off, ao = some ⟨b, off, none⟩ ∧ True := by
    rcases HC1.out with h | ⟨b, off, e, _⟩
    · have := HL.out; rw [h] at this; simp at this; omega
    · exact ⟨b, off, e, trivial⟩
  have c0 := byt_cell HL.out HC1.out 0 (by omega)
  rw [Nat.add_zero] at c0
  obtain ⟨y0, y1⟩ := byt_bd l 0
  obtain ⟨x0, hx0⟩ : ∃ x, byt l 0 = x := ⟨_, rfl⟩
  rw [hx0] at c0 y0 y1
  have HX0 := Lib.hid hx0
  clear hx0
  have eW : IntKind.i64.wrap x0 = x0 := by rw [IntKind.wrap_i64]; omega
  by_cases kv : x0 / 16 ≠ 4 ∧ x0 / 16 ≠ 6
  · have hr : Hid (parse l = (4, HV.zero)) := Lib.hid (by unfold parse; rw [if_neg (by rw [HL.out]; exact k0), if_pos (by rw [HX0.out]; exact kv)])
    have e4 : (x0 / 16 != 4) = true := by simpa using kv.1
    have e6 : (x0 / 16 != 6) = true := by simpa using kv.2
    clear kv
    go_wp2_with fail
    exact bodyPost_ret (results_agg_tmp (p := 2) (u := 3) (ty := 53) rfl _ _ R HV.zero.cells _ rfl (range_stZ HV.zero ⟨rfl, rfl⟩ HT1.out) Tryd.underlying53 rfl (by kernel_rfl)) rfl ⟨setCells_below R (by omega) HV.zero.cells 0 _ HB1.out, by rw [hr.out]; rfl⟩
  obtain ⟨v, hv⟩ : ∃ v, x0 / 16 = v := ⟨_, rfl⟩
  have HVV := Lib.hid hv
  have hv46 : v = 4 ∨ v = 6 := by omega
  have HV46 := Lib.hid hv46
  have HKV := Lib.hid kv
  clear kv hv46
  go_upto_region 5 with fail
  go_cut [5, 25] from 10 to 25 (fun u5 u wx => u5 = .int .i64 v ∧ u = .bool false ∧ W1 = wx)
  case first =>
    rcases HV46.out with k4 | k4
    · have e4 : (v != 4) = false := by rw [k4]; rfl
      clear k4
      go_wp2_with fail
      go_meet
      exact ⟨by first | rfl | rw [HVV.out], rfl, rfl⟩
    · have e4 : (v != 4) = true := by rw [k4]; rfl
      have e6 : (v != 6) = false := by rw [k4]; rfl
      clear k4
      go_wp2_with fail
      go_meet
      exact ⟨by first | rfl | rw [HVV.out], rfl, rfl⟩
  obtain ⟨rfl, rfl, rfl⟩ := hcut
  by_cases k3 : 300 < n
  · have hr : Hid (parse l = (3, HV.zero)) := Lib.hid (by unfold parse; rw [if_neg (by rw [HL.out]; exact k0), if_neg (by rw [HX0.out]; exact HKV.out), if_pos (by rw [HL.out]; exact k3)])
    have k3' : (300 : Int) < (n : Int) := by omega
    go_wp2_with fail
    exact bodyPost_ret (results_agg_tmp (p := 2) (u := 3) (ty := 53) rfl _ _ R HV.zero.cells _ rfl (range_stZ HV.zero ⟨rfl, rfl⟩ HT1.out) Tryd.underlying53 rfl (by kernel_rfl)) rfl ⟨setCells_below R (by omega) HV.zero.cells 0 _ HB1.out, by rw [hr.out]; rfl⟩
  have k3' : (n : Int) ≤ 300 := by omega
  obtain ⟨W2, hW2⟩ : ∃ W, W1.alloc (.cells #[.int .i64 0, .bool false, .int .u8 0, .int .u8 0, .int .u8 0, .int .u8 0, .int .u8 0, .int .u8 0, .int .u8 0, .int .u8 0, .int .u8 0, .int .u8 0, .int .u8 0, .int .u8 0, .int .u8 0, .int .u8 0, .int .u8 0, .int .u8 0, .int .i64 0, .bool false, .int .u8 0, .int .u8 0, .int .u8 0, .int .u8 0, .int .u8 0, .int .u8 0, .int .u8 0, .int .u8 0, .int .u8 0, .int .u8 0, .int .u8 0, .int .u8 0, .int .u8 0, .int .u8 0, .int .u8 0, .int .u8 0, .int .i64 0, .int .i64 0, .int .i64 0, .int .i64 0] 53) = W := ⟨_, rfl⟩
  have HH2 := Lib.hid (show HRec W2 (R + 2) HV.zero from by rw [← hW2, ← hs1]; exact ⟨⟨rfl, rfl⟩, range_new W1 _ _, there_new W1 _ _ 40 rfl⟩)
  have HB2 := Lib.hid (show Below (R + 2) W1 W2 from by rw [← hW2]; exact (Below.refl _ _).alloc (by omega) _)
  have hst2 : Sem.run Tryd.prog (stR (.pointer (some ⟨R + 2, 0, none⟩)) (.agg #[.int .i64 0, .bool false, .int .u8 0, .int .u8 0, .int .u8 0, .int .u8 0, .int .u8 0, .int .u8 0, .int .u8 0, .int .u8 0, .int .u8 0, .int .u8 0, .int .u8 0, .int .u8 0, .int .u8 0, .int .u8 0, .int .u8 0, .int .u8 0, .int .i64 0, .bool false, .int .u8 0, .int .u8 0, .int .u8 0, .int .u8 0, .int .u8 0, .int .u8 0, .int .u8 0, .int .u8 0, .int .u8 0, .int .u8 0, .int .u8 0, .int .u8 0, .int .u8 0, .int .u8 0, .int .u8 0, .int .u8 0, .int .i64 0, .int .i64 0, .int .i64 0, .int .i64 0])) W2 = .ok () W2 := by
    rw [← hW2, ← hs1]
    exact run_storeAt_new W1 _ _ _ (by kernel_rfl) rfl (HV.one HV.zero)
  have HKG : Hid (∀ W, W2.grownBy W (some (R + 2)) → Below (R + 2) W1 W) := Lib.hid fun W hg => HB2.out.grown hg (by have := HB2.out.size; omega) (fun g e => by cases e; omega)
  obtain ⟨ht2, hz2, hb2, hC2⟩ := HK.out W2 HB2.out
  have HT2 := Lib.hid ht2
  have HBW := Lib.hid hb2
  have HC2 := Lib.hid hC2
  clear hb2 hC2
  have HNE : Hid (b ≠ R + 2) := Lib.hid (by
    have := HLO.out b off rfl (by intro e; have := HL.out; rw [e] at this; simp at this; omega)
    omega)
  obtain ⟨r, hre⟩ : ∃ r, (if v = 4 then ip4 HV.zero l else ip6 HV.zero l) = r := ⟨_, rfl⟩
  have HP : Hid (parse l = afterIp r l) := Lib.hid (by unfold parse; rw [if_neg (by rw [HL.out]; exact k0), if_neg (by rw [HX0.out]; exact HKV.out), if_neg (by rw [HL.out]; exact k3), HX0.out, HVV.out, hre])
  have HR4 : Hid (v = 4 → ip4 HV.zero l = r) := Lib.hid fun k => by rw [← hre, if_pos k]
  have HR6 : Hid (¬ v = 4 → ip6 HV.zero l = r) := Lib.hid fun k => by rw [← hre, if_neg k]
  have HPT : Hid (r.1 = 0 → ∃ p : Nat, r.2.part = (p : Int) ∧ p ≤ l.length ∧ 20 ≤ p ∧ p ≤ 60 ∧ r.2.ok) := Lib.hid (by
    by_cases k4 : v = 4
    · rw [← HR4.out k4]; exact ip4_part l
    · rw [← HR6.out k4]; exact ip6_part l)
  clear hre
  go_upto_if 33 with fail
  go_cut [7] from 27 to 121 (fun _ wx => RCut (R + 2) W2 r wx)
  case first =>
    rcases HV46.out with k4 | k4
    · as_aux_lemma =>
      -- addresses of four bytes
      have e33 : (v == 4) = true := by rw [k4]; rfl
      have HE := Lib.hid (HR4.out k4)
      clear k4
      by_cases h20 : n < 20
      · have hr : Hid (parse l = (2, HV.zero)) := Lib.hid (by rw [HP.out, ← HE.out]; exact afterIp_err _ _ 1 (by unfold ip4; rw [if_pos (by rw [HL.out]; exact h20)]))
        have t1 : (n : Int) < 20 := by omega
        go_wp2_with fail
        exact bodyPost_ret (results_agg_tmp (p := 2) (u := 3) (ty := 53) rfl _ _ R HV.zero.cells _ rfl (range_stZ HV.zero ⟨rfl, rfl⟩ HT2.out) Tryd.underlying53 rfl (by kernel_rfl)) rfl ⟨setCells_below R (by omega) HV.zero.cells 0 _ HBW.out, by rw [hr.out]; rfl⟩
      have t1 : ¬ (n : Int) < 20 := by omega
      have c02 := byt_cell HL.out HC2.out 0 (by omega)
      rw [Nat.add_zero, HX0.out] at c02
      obtain ⟨p, hpe⟩ : ∃ p, pn l = p := ⟨_, rfl⟩
      have HPE := Lib.hid hpe
      have hp4 : 4 * (x0 % 16) = (p : Int) := by have := pn_byt l; rw [hpe, HX0.out] at this; exact this
      have hp : x0 % 16 * 4 = (p : Int) := by omega
      have p60 : (p : Int) ≤ 60 := by omega
      have p0 : (0 : Int) ≤ (p : Int) := by omega
      clear hpe hp4
      have q38 := there_part HH2.out.2.2 38 1 (by omega)
      rw [Nat.zero_add] at q38
      obtain ⟨W3, hW3⟩ : ∃ W, W2.setCell ⟨R + 2, 38, none⟩ (.int .i64 (p : Int)) = W := ⟨_, rfl⟩
      have HG3 := Lib.hid (show W2.grownBy W3 (some (R + 2)) from by rw [← hW3]; exact grown_setCells (R + 2) [.int .i64 (p : Int)] 38 W2)
      have HR3 := Lib.hid (show HRec W3 (R + 2) { HV.zero with part := p } from by rw [← hW3]; exact HH2.out.part _)
      have HC3 := Lib.hid (HC2.out.grown HG3.out HNE.out)
      obtain ⟨ht3, hz3, hb3, _⟩ := HK.out W3 (HKG.out _ HG3.out)
      have hz3d : ∀ d, ZR (W3.drewN d) (R + 1) := fun _ => hz3
      have ht3d : ∀ d, (W3.drewN d).there R 0 40 := fun _ => ht3
      have HT3 := Lib.hid ht3
      have HB3 := Lib.hid hb3
      have f38 := HR3.out.at.2.2.2.2.2.1
      simp only at f38
      clear hb3
      have HT6 : Hid (∀ d, Calls Tryd.prog 52 #[.slice (some ⟨b, off, none⟩) n c, .int .i64 6] (W3.drewN d) fun e w'' => e = .returned (.int .i64 (two l 6)) ∧ ∃ d2, w'' = (W3.drewN d).drewN d2) := Lib.hid fun d => pair28_at b off n c 6 l _ HL.out (by omega) (by omega) HC3.out
      have HT60 : Hid (Calls Tryd.prog 52 #[.slice (some ⟨b, off, none⟩) n c, .int .i64 6] W3 fun e w'' => e = .returned (.int .i64 (two l 6)) ∧ ∃ d2, w'' = W3.drewN d2) := Lib.hid (pair28_at b off n c 6 l _ HL.out (by omega) (by omega) HC3.out)
      have HT2p : Hid (∀ d, Calls Tryd.prog 52 #[.slice (some ⟨b, off, none⟩) n c, .int .i64 2] (W3.drewN d) fun e w'' => e = .returned (.int .i64 (two l 2)) ∧ ∃ d2, w'' = (W3.drewN d).drewN d2) := Lib.hid fun d => pair28_at b off n c 2 l _ HL.out (by omega) (by omega) HC3.out
      obtain ⟨v2, hv2⟩ : ∃ x, two l 2 = x := ⟨_, rfl⟩
      obtain ⟨v6, hv6⟩ : ∃ x, two l 6 = x := ⟨_, rfl⟩
      rw [hv2] at HT2p
      rw [hv6] at HT6 HT60
      have HV2 := Lib.hid hv2
      have HV6 := Lib.hid hv6
      clear hv2 hv6
      by_cases k1 : p < 20
      · have hr : Hid (parse l = (4, HV.zero)) := Lib.hid (by rw [HP.out, ← HE.out]; exact afterIp_err _ _ 3 (by unfold ip4; rw [if_neg (by rw [HL.out]; exact h20), if_pos (.inl (by rw [HPE.out]; exact k1))]))
        have t3 : (p : Int) < 20 := by omega
        go_wp2_with (go_at_call 52; (first | ((with_reducible refine HT60.out.mono ?_); rintro e w' ⟨rfl, d6, rfl⟩) | ((with_reducible refine (HT6.out _).mono ?_); rintro e w' ⟨rfl, d6, rfl⟩) | ((with_reducible refine (HT2p.out _).mono ?_); rintro e w' ⟨rfl, d2, rfl⟩) | fail))
        exact bodyPost_ret (results_agg_tmp (p := 2) (u := 3) (ty := 53) rfl _ _ R HV.zero.cells _ rfl (range_stZ HV.zero ⟨rfl, rfl⟩ HT3.out) Tryd.underlying53 rfl (by kernel_rfl)) rfl ⟨setCells_below R (by omega) HV.zero.cells 0 _ (HB3.out.trans (drewN_below _ _ _)), by rw [hr.out]; rfl⟩
      have t3 : ¬ (p : Int) < 20 := by omega
      by_cases k2 : n < p
      · have hr : Hid (parse l = (4, HV.zero)) := Lib.hid (by rw [HP.out, ← HE.out]; exact afterIp_err _ _ 3 (by unfold ip4; rw [if_neg (by rw [HL.out]; exact h20), if_pos (.inr (.inl (by rw [HPE.out, HL.out]; exact k2)))]))
        have t4 : (n : Int) < (p : Int) := by omega
        go_wp2_with (go_at_call 52; (first | ((with_reducible refine HT60.out.mono ?_); rintro e w' ⟨rfl, d6, rfl⟩) | ((with_reducible refine (HT6.out _).mono ?_); rintro e w' ⟨rfl, d6, rfl⟩) | ((with_reducible refine (HT2p.out _).mono ?_); rintro e w' ⟨rfl, d2, rfl⟩) | fail))
        exact bodyPost_ret (results_agg_tmp (p := 2) (u := 3) (ty := 53) rfl _ _ R HV.zero.cells _ rfl (range_stZ HV.zero ⟨rfl, rfl⟩ HT3.out) Tryd.underlying53 rfl (by kernel_rfl)) rfl ⟨setCells_below R (by omega) HV.zero.cells 0 _ (HB3.out.trans (drewN_below _ _ _)), by rw [hr.out]; rfl⟩
      have t4 : ¬ (n : Int) < (p : Int) := by omega
      by_cases k3' : v2 = (n : Int)
      case neg =>
        have hr : Hid (parse l = (4, HV.zero)) := Lib.hid (by rw [HP.out, ← HE.out]; exact afterIp_err _ _ 3 (by unfold ip4; rw [if_neg (by rw [HL.out]; exact h20), if_pos (.inr (.inr (.inl (by rw [HV2.out, HL.out]; exact k3'))))]))
        have k5 : (v2 != (n : Int)) = true := by simpa using k3'
        clear k3'
        go_wp2_with (go_at_call 52; (first | ((with_reducible refine HT60.out.mono ?_); rintro e w' ⟨rfl, d6, rfl⟩) | ((with_reducible refine (HT6.out _).mono ?_); rintro e w' ⟨rfl, d6, rfl⟩) | ((with_reducible refine (HT2p.out _).mono ?_); rintro e w' ⟨rfl, d2, rfl⟩) | fail))
        exact bodyPost_ret (results_agg_tmp (p := 2) (u := 3) (ty := 53) rfl _ _ R HV.zero.cells _ rfl (range_stZ HV.zero ⟨rfl, rfl⟩ HT3.out) Tryd.underlying53 rfl (by kernel_rfl)) rfl ⟨setCells_below R (by omega) HV.zero.cells 0 _ (HB3.out.trans (drewN_below _ _ _)), by rw [hr.out]; rfl⟩
      subst k3'
      by_cases k6 : v6 = 0 ∨ v6 = 16384
      case neg =>
        have hr : Hid (parse l = (4, HV.zero)) := Lib.hid (by rw [HP.out, ← HE.out]; exact afterIp_err _ _ 3 (by unfold ip4; rw [if_neg (by rw [HL.out]; exact h20), if_pos (.inr (.inr (.inr (by rw [HV6.out]; omega))))]))
        have k7 : (v6 != 0) = true := by have : v6 ≠ 0 := by omega
                                         simpa using this
        have k8 : (v6 != 16384) = true := by have : v6 ≠ 16384 := by omega
                                             simpa using this
        clear k6
        go_wp2_with (go_at_call 52; (first | ((with_reducible refine HT60.out.mono ?_); rintro e w' ⟨rfl, d6, rfl⟩) | ((with_reducible refine (HT6.out _).mono ?_); rintro e w' ⟨rfl, d6, rfl⟩) | ((with_reducible refine (HT2p.out _).mono ?_); rintro e w' ⟨rfl, d2, rfl⟩) | fail))
        exact bodyPost_ret (results_agg_tmp (p := 2) (u := 3) (ty := 53) rfl _ _ R HV.zero.cells _ rfl (range_stZ HV.zero ⟨rfl, rfl⟩ HT3.out) Tryd.underlying53 rfl (by kernel_rfl)) rfl ⟨setCells_below R (by omega) HV.zero.cells 0 _ (HB3.out.trans (drewN_below _ _ _)), by rw [hr.out]; rfl⟩
      have HK6 := Lib.hid k6
      clear k6
      go_upto_region 15 with (go_at_call 52; (first | ((with_reducible refine HT60.out.mono ?_); rintro e w' ⟨rfl, d6, rfl⟩) | ((with_reducible refine (HT6.out _).mono ?_); rintro e w' ⟨rfl, d6, rfl⟩) | ((with_reducible refine (HT2p.out _).mono ?_); rintro e w' ⟨rfl, d2, rfl⟩) | fail))
      go_cut [71] from 47 to 71 (fun u wx => u = .bool false ∧ W2.grownBy wx (some (R + 2)) ∧ HRec wx (R + 2) { HV.zero with part := p })
      case first =>
        rcases HK6.out with k7 | k7
        · have k8 : (v6 != 0) = false := by rw [k7]; rfl
          clear k7
          go_wp2_with (go_at_call 52; (first | ((with_reducible refine HT60.out.mono ?_); rintro e w' ⟨rfl, d6, rfl⟩) | ((with_reducible refine (HT6.out _).mono ?_); rintro e w' ⟨rfl, d6, rfl⟩) | ((with_reducible refine (HT2p.out _).mono ?_); rintro e w' ⟨rfl, d2, rfl⟩; dsimp only) | fail))
          go_meet
          exact ⟨congrArg Value.bool (decide_eq_false (by omega)), HG3.out.trans (grown_drewN _ _ _), HR3.out⟩
        · have k8 : (v6 != 0) = true := by rw [k7]; rfl
          have k9 : (v6 != 16384) = false := by rw [k7]; rfl
          clear k7
          go_wp2_with (go_at_call 52; (first | ((with_reducible refine HT60.out.mono ?_); rintro e w' ⟨rfl, d6, rfl⟩) | ((with_reducible refine (HT6.out _).mono ?_); rintro e w' ⟨rfl, d6, rfl⟩) | ((with_reducible refine (HT2p.out _).mono ?_); rintro e w' ⟨rfl, d2, rfl⟩; dsimp only) | fail))
          go_meet
          exact ⟨congrArg Value.bool (decide_eq_false (by omega)), HG3.out.trans (grown_drewN _ _ _), HR3.out⟩
      obtain ⟨W4, rfl⟩ : ∃ W, W = wc := ⟨_, rfl⟩
      obtain ⟨rfl, hg4, hr4⟩ := hcut
      have HR4 := Lib.hid hr4
      have HG4 := Lib.hid hg4
      have HC4 := Lib.hid (HC2.out.grown hg4 HNE.out)
      obtain ⟨ht4, hz4, hb4, _⟩ := HK.out W4 (HKG.out _ hg4)
      have HT4 := Lib.hid ht4
      have HB4 := Lib.hid hb4
      have f38 := hr4.at.2.2.2.2.2.1
      simp only at f38
      clear hb4 hr4 hg4 hz3 ht3 hz3d ht3d hW3
      have t5 : (p : Int) ≤ (c : Int) := by omega
      have HGD : Hid (∀ w, Cells w (some ⟨b, off, none⟩) l → Calls Tryd.prog 53 #[.slice (some ⟨b, off, none⟩) p c] w fun e w' => e = .returned (.bool (fold (tot (l.take p)) == 65535)) ∧ w = w') := Lib.hid fun w hc => good_any (some ⟨b, off, none⟩) p c (l.take p) w (by rw [List.length_take, HL.out]; omega) (by omega) (hc.left' p)
      obtain ⟨g, hg⟩ : ∃ g, (fold (tot (l.take p)) == 65535) = g := ⟨_, rfl⟩
      rw [hg] at HGD
      have HGE : Hid ((fold (tot (l.take (pn l))) == 65535) = g) := Lib.hid (by rw [HPE.out]; exact hg)
      clear hg
      cases g
      · have hr : Hid (parse l = (5, HV.zero)) := Lib.hid (by rw [HP.out, ← HE.out]; exact afterIp_err _ _ 4 (by unfold ip4; rw [if_neg (by rw [HL.out]; exact h20), if_neg (by rw [HPE.out, HV2.out, HV6.out, HL.out]; have := HK6.out; omega), if_pos HGE.out]))
        go_wp2_with (go_at_call 53; (with_reducible refine (HGD.out _ HC4.out).mono ?_); rintro e w' ⟨rfl, rfl⟩)
        exact bodyPost_ret (results_agg_tmp (p := 2) (u := 3) (ty := 53) rfl _ _ R HV.zero.cells _ rfl (range_stZ HV.zero ⟨rfl, rfl⟩ HT4.out) Tryd.underlying53 rfl (by kernel_rfl)) rfl ⟨setCells_below R (by omega) HV.zero.cells 0 _ HB4.out, by rw [hr.out]; rfl⟩
      go_upto_region 19 with (go_at_call 53; (with_reducible refine (HGD.out _ HC4.out).mono ?_); rintro e w' ⟨rfl, rfl⟩)
      obtain ⟨z0, z1⟩ := byt_bd l 9
      obtain ⟨x9, hx9⟩ : ∃ x, byt l 9 = x := ⟨_, rfl⟩
      have HSW : Hid (∀ W, QB W4 (R + 2) W → W.cell? ⟨b, off + 9, none⟩ = some (.int .u8 x9) ∧ W.there (R + 2) 0 1 ∧ W.there (R + 2) 1 17 ∧ W.there (R + 2) 19 17) := Lib.hid fun W hq =>
        ⟨by rw [byt_cell HL.out (hq.cells HC4.out HNE.out) 9 (by omega), hx9], hq.there 0 1 (by omega), hq.there 1 17 (by omega), hq.there 19 17 (by omega)⟩
      rw [hx9] at z0 z1
      have HX9 := Lib.hid hx9
      clear hx9
      have HA1 := Lib.hid fun W (hb : Below W4.heap.size W4 W) => refaddress_4 b (off + 12) (c - 12) ((l.drop 12).take 4) W (by rw [List.length_take, List.length_drop, HL.out]; omega) ((HC4.out.below hb rfl).part 12 4)
      have HA2 := Lib.hid fun W (hb : Below W4.heap.size W4 W) => refaddress_4 b (off + 16) (c - 16) ((l.drop 16).take 4) W (by rw [List.length_take, List.length_drop, HL.out]; omega) ((HC4.out.below hb rfl).part 16 4)
      have hL1 := adr_length ((l.drop 12).take 4) (by rw [List.length_take]; omega)
      have hL2 := adr_length ((l.drop 16).take 4) (by rw [List.length_take]; omega)
      obtain ⟨L1, hL1e⟩ : ∃ L, HeadMath.adr ((l.drop 12).take 4) = L := ⟨_, rfl⟩
      obtain ⟨L2, hL2e⟩ : ∃ L, HeadMath.adr ((l.drop 16).take 4) = L := ⟨_, rfl⟩
      rw [hL1e] at HA1 hL1
      rw [hL2e] at HA2 hL2
      have HE1 := Lib.hid hL1e
      have HE2 := Lib.hid hL2e
      clear hL1e hL2e
      have t6 : (16 : Int) ≤ (c : Int) := by omega
      have t8 : (9 : Int) < (n : Int) := by omega
      have t9 : ¬ c = 12 := by omega
      have t10 : ¬ c = 16 := by omega
      have t7 : (20 : Int) ≤ (c : Int) := by omega
      have HB0 := Lib.hid (Below.refl W4.heap.size W4)
      clear ht4 hz4 f38
      go_region_held3 (fun W => W.cell? ⟨b, off + 9, none⟩ = some (.int .u8 x9) ∧ W.there (R + 2) 0 1 ∧ W.there (R + 2) 1 17 ∧ W.there (R + 2) 19 17) (first | exact HSW.out _ (QB.of HR4.out HBb.out) | exact HSW.out _ (QB.of HR4.out HBa.out) | exact HSW.out _ (QB.of HR4.out HB0.out) | exact HSW.out _ (QB.of HR4.out HB0.out.drew) | exact HSW.out _ ((QB.of HR4.out HBb.out).set _ _) | exact HSW.out _ (((QB.of HR4.out HBb.out).set _ _).sets _ _) | exact HSW.out _ ((((QB.of HR4.out HBb.out).set _ _).sets _ _).sets _ _) | fail) ((go_at_call 54; (first | ((with_reducible refine (HA1.out _ HB0.out.drew).mono ?_); rintro e Wa ⟨rfl, hba⟩; have HBa := Lib.hid (HB0.out.drew.trans (hba.mono HB0.out.drew.size)); clear hba) | ((with_reducible refine (HA2.out _ HBa.out).mono ?_); rintro e Wb ⟨rfl, hbb⟩; have HBb := Lib.hid (HBa.out.trans (hbb.mono HBa.out.size)); clear hbb) | fail)))
      have hw9 : IntKind.i64.wrap x9 = x9 := by rw [IntKind.wrap_i64]; omega
      rw [hw9]
      have HQ := Lib.hid ((((QB.of HR4.out HBb.out).set 0 (.int .i64 x9)).sets 1 (adrC false L1)).sets 19 (adrC false L2)).1
      have HRR := Lib.hid ((((HR4.out.below HBb.out).proto x9).addr1 false L1 hL1).addr2 false L2 hL2)
      have hr : Hid (r = (0, { HV.zero with part := p, proto := x9, six1 := false, l1 := L1, six2 := false, l2 := L2 })) := Lib.hid (by rw [← HE.out]; unfold ip4; rw [if_neg (by rw [HL.out]; exact h20), if_neg (by rw [HPE.out, HV2.out, HV6.out, HL.out]; have := HK6.out; omega), if_neg (by rw [HGE.out]; simp), HPE.out, HX9.out, HE1.out, HE2.out])
      go_wp2_with fail
      go_meet
      exact ⟨by rw [hr.out], HG4.out.trans HQ.out, by rw [hr.out]; exact HRR.out⟩
    · as_aux_lemma =>
      -- addresses of sixteen bytes
      have e33 : (v == 4) = false := by rw [k4]; rfl
      have HE := Lib.hid (HR6.out (by omega))
      clear k4
      by_cases h20 : n < 40
      · have hr : Hid (parse l = (2, HV.zero)) := Lib.hid (by rw [HP.out, ← HE.out]; exact afterIp_err _ _ 1 (by unfold ip6; rw [if_pos (by rw [HL.out]; exact h20)]))
        have t1 : (n : Int) < 40 := by omega
        go_wp2_with fail
        exact bodyPost_ret (results_agg_tmp (p := 2) (u := 3) (ty := 53) rfl _ _ R HV.zero.cells _ rfl (range_stZ HV.zero ⟨rfl, rfl⟩ HT2.out) Tryd.underlying53 rfl (by kernel_rfl)) rfl ⟨setCells_below R (by omega) HV.zero.cells 0 _ HBW.out, by rw [hr.out]; rfl⟩
      have t1 : ¬ (n : Int) < 40 := by omega
      have hz2d : ∀ d, ZR (W2.drewN d) (R + 1) := fun _ => hz2
      have ht2d : ∀ d, (W2.drewN d).there R 0 40 := fun _ => ht2
      have HT4p : Hid (Calls Tryd.prog 52 #[.slice (some ⟨b, off, none⟩) n c, .int .i64 4] W2 fun e w'' => e = .returned (.int .i64 (two l 4)) ∧ ∃ d2, w'' = W2.drewN d2) := Lib.hid (pair28_at b off n c 4 l _ HL.out (by omega) (by omega) HC2.out)
      obtain ⟨v40, v41⟩ := two_bd l 4
      obtain ⟨v4, hv4⟩ : ∃ x, two l 4 = x := ⟨_, rfl⟩
      rw [hv4] at HT4p v40 v41
      have HV4 := Lib.hid hv4
      clear hv4
      by_cases k3' : v4 + 40 = (n : Int)
      case neg =>
        have hr : Hid (parse l = (4, HV.zero)) := Lib.hid (by rw [HP.out, ← HE.out]; exact afterIp_err _ _ 3 (by unfold ip6; rw [if_neg (by rw [HL.out]; exact h20), if_pos (by rw [HV4.out, HL.out]; omega)]))
        have k5 : (v4 + 40 != (n : Int)) = true := by simpa using k3'
        clear k3'
        go_wp2_with (go_at_call 52; (with_reducible refine HT4p.out.mono ?_); rintro e w' ⟨rfl, d2, rfl⟩; dsimp only)
        exact bodyPost_ret (results_agg_tmp (p := 2) (u := 3) (ty := 53) rfl _ _ R HV.zero.cells _ rfl (range_stZ HV.zero ⟨rfl, rfl⟩ HT2.out) Tryd.underlying53 rfl (by kernel_rfl)) rfl ⟨setCells_below R (by omega) HV.zero.cells 0 _ (HBW.out.trans (drewN_below _ _ _)), by rw [hr.out]; rfl⟩
      have k5 : (v4 + 40 != (n : Int)) = false := by simpa using k3'
      have HK3 := Lib.hid k3'
      clear k3'
      go_upto_region 24 with (go_at_call 52; (with_reducible refine HT4p.out.mono ?_); rintro e w' ⟨rfl, d2, rfl⟩; dsimp only)
      obtain ⟨W4, hW4⟩ : ∃ W, W2.drewN d2 = W := ⟨_, rfl⟩
      have HR4 := Lib.hid (show HRec W4 (R + 2) HV.zero from by rw [← hW4]; exact HH2.out)
      have HG4 := Lib.hid (show W2.grownBy W4 (some (R + 2)) from by rw [← hW4]; exact grown_drewN _ _ _)
      have HC4 := Lib.hid (show Cells W4 (some ⟨b, off, none⟩) l from by rw [← hW4]; exact HC2.out)
      rw [hW4]
      clear hW4 hz2d ht2d
      obtain ⟨z0, z1⟩ := byt_bd l 6
      obtain ⟨x9, hx9⟩ : ∃ x, byt l 6 = x := ⟨_, rfl⟩
      have HSW : Hid (∀ W, QB W4 (R + 2) W → W.cell? ⟨b, off + 6, none⟩ = some (.int .u8 x9) ∧ W.there (R + 2) 38 1 ∧ W.there (R + 2) 0 1 ∧ W.there (R + 2) 1 17 ∧ W.there (R + 2) 19 17) := Lib.hid fun W hq =>
        ⟨by rw [byt_cell HL.out (hq.cells HC4.out HNE.out) 6 (by omega), hx9], hq.there 38 1 (by omega), hq.there 0 1 (by omega), hq.there 1 17 (by omega), hq.there 19 17 (by omega)⟩
      rw [hx9] at z0 z1
      have HX9 := Lib.hid hx9
      clear hx9
      have HA1 := Lib.hid fun W (hb : Below W4.heap.size W4 W) => refaddress_16 b (off + 8) (c - 8) ((l.drop 8).take 16) W (by rw [List.length_take, List.length_drop, HL.out]; omega) ((HC4.out.below hb rfl).part 8 16)
      have HA2 := Lib.hid fun W (hb : Below W4.heap.size W4 W) => refaddress_16 b (off + 24) (c - 24) ((l.drop 24).take 16) W (by rw [List.length_take, List.length_drop, HL.out]; omega) ((HC4.out.below hb rfl).part 24 16)
      have hL1 := adr_length ((l.drop 8).take 16) (by rw [List.length_take]; omega)
      have hL2 := adr_length ((l.drop 24).take 16) (by rw [List.length_take]; omega)
      obtain ⟨L1, hL1e⟩ : ∃ L, HeadMath.adr ((l.drop 8).take 16) = L := ⟨_, rfl⟩
      obtain ⟨L2, hL2e⟩ : ∃ L, HeadMath.adr ((l.drop 24).take 16) = L := ⟨_, rfl⟩
      rw [hL1e] at HA1 hL1
      rw [hL2e] at HA2 hL2
      have HE1 := Lib.hid hL1e
      have HE2 := Lib.hid hL2e
      clear hL1e hL2e
      have t6 : (24 : Int) ≤ (c : Int) := by omega
      have t8 : (6 : Int) < (n : Int) := by omega
      have t9 : ¬ c = 8 := by omega
      have t10 : ¬ c = 24 := by omega
      have t7 : (40 : Int) ≤ (c : Int) := by omega
      have HB0 := Lib.hid (Below.refl W4.heap.size W4)
      go_region_held3 (fun W => W.cell? ⟨b, off + 6, none⟩ = some (.int .u8 x9) ∧ W.there (R + 2) 38 1 ∧ W.there (R + 2) 0 1 ∧ W.there (R + 2) 1 17 ∧ W.there (R + 2) 19 17) (first | exact HSW.out _ (QB.of HR4.out HBb.out) | exact HSW.out _ (QB.of HR4.out HBa.out) | exact HSW.out _ (QB.of HR4.out HB0.out) | exact HSW.out _ (QB.of HR4.out HB0.out.drew) | exact HSW.out _ ((QB.of HR4.out HBb.out).set _ _) | exact HSW.out _ (((QB.of HR4.out HBb.out).set _ _).set _ _) | exact HSW.out _ ((((QB.of HR4.out HBb.out).set _ _).set _ _).sets _ _) | exact HSW.out _ (((((QB.of HR4.out HBb.out).set _ _).set _ _).sets _ _).sets _ _) | fail) ((go_at_call 54; (first | ((with_reducible refine (HA1.out _ HB0.out.drew).mono ?_); rintro e Wa ⟨rfl, hba⟩; have HBa := Lib.hid (HB0.out.drew.trans (hba.mono HB0.out.drew.size)); clear hba) | ((with_reducible refine (HA2.out _ HBa.out).mono ?_); rintro e Wb ⟨rfl, hbb⟩; have HBb := Lib.hid (HBa.out.trans (hbb.mono HBa.out.size)); clear hbb) | fail)))
      have hw9 : IntKind.i64.wrap x9 = x9 := by rw [IntKind.wrap_i64]; omega
      rw [hw9]
      have HQ := Lib.hid (((((QB.of HR4.out HBb.out).set 38 (.int .i64 40)).set 0 (.int .i64 x9)).sets 1 (adrC true L1)).sets 19 (adrC true L2)).1
      have HRR := Lib.hid (((((HR4.out.below HBb.out).part 40).proto x9).addr1 true L1 hL1).addr2 true L2 hL2)
      have hr : Hid (r = (0, { HV.zero with part := 40, proto := x9, six1 := true, l1 := L1, six2 := true, l2 := L2 })) := Lib.hid (by rw [← HE.out]; unfold ip6; rw [if_neg (by rw [HL.out]; exact h20), if_neg (by rw [HV4.out, HL.out]; have := HK3.out; omega), HX9.out, HE1.out, HE2.out])
      go_wp2_with fail
      go_meet
      exact ⟨by rw [hr.out], HG4.out.trans HQ.out, by rw [hr.out]; exact HRR.out⟩
  obtain ⟨W3, rfl⟩ : ∃ W, W = wc := ⟨_, rfl⟩
  obtain ⟨h0, hg3, hR3⟩ := hcut
  obtain ⟨ht3, hz3, hb3, hC3⟩ := HK.out W3 (HKG.out _ hg3)
  obtain ⟨p, hp, hpn, hp20, hp60, hok⟩ := HPT.out h0
  have HT3 := Lib.hid ht3
  have HB3 := Lib.hid hb3
  have HC3 := Lib.hid hC3
  have HG3 := Lib.hid hg3
  have HR3 := Lib.hid hR3
  have f0 := hR3.at.1
  have f38 := hR3.at.2.2.2.2.2.1
  rw [hp] at f38
  have HP0 := Lib.hid h0
  have HPP := Lib.hid hp
  have HPN := Lib.hid hpn
  have HOK := Lib.hid hok
  have HSIX : Hid ((v = 4 → r.2.six1 = false) ∧ (v = 6 → r.2.six1 = true)) := Lib.hid ⟨fun h => by
      have := HR4.out h
      rw [← this] at h0 ⊢
      exact (ip_six l).1 h0, fun h => by
      have := HR6.out (by omega)
      rw [← this] at h0 ⊢
      exact (ip_six l).2 h0⟩
  obtain ⟨pr, hpr⟩ : ∃ x, r.2.proto = x := ⟨_, rfl⟩
  rw [hpr] at f0
  have HPR := Lib.hid hpr
  obtain ⟨A6, hA6⟩ : ∃ A, (if c = p then (some ⟨b, off, none⟩ : Option Addr) else some ⟨b, off + p, none⟩) = A := ⟨_, rfl⟩
  have hpn' : (p : Int) ≤ (n : Int) := by have := HPN.out; have := HL.out; omega
  have hpc : (p : Int) ≤ (c : Int) := by omega
  obtain ⟨m, hm⟩ : ∃ m, n - p = m := ⟨_, rfl⟩
  have hmi : (n : Int) - (p : Int) = (m : Int) := by omega
  have HM := Lib.hid hm
  have hql : (l.drop p).length = n - p := by rw [List.length_drop, HL.out]
  have hC3' : Cells W3 (some ⟨b, off + p, none⟩) (l.drop p) := by have := HC3.out.part p (l.drop p).length; rwa [List.take_length] at this
  have HQL := Lib.hid hql
  have HC3q := Lib.hid hC3'
  obtain ⟨q, hq⟩ : ∃ q, l.drop p = q := ⟨_, rfl⟩
  rw [hq] at HQL HC3q
  have HQ := Lib.hid hq
  clear hql hC3' hq hb3 hC3 hg3 hR3 h0 hp hpn hok hpr ht2 hz2 hst2 ht1 hz1 hst1
  by_cases kp : pr ≠ 6 ∧ pr ≠ 17
  · have hr : Hid (parse l = (17, HV.zero)) := Lib.hid (by rw [HP.out]; unfold afterIp; rw [if_neg (by rw [HP0.out]; omega), HPR.out, if_pos kp])
    have e1 : (pr != 6) = true := by simpa using kp.1
    have e2 : (pr != 17) = true := by simpa using kp.2
    clear kp
    go_wp2_with fail
    exact bodyPost_ret (results_agg_tmp (p := 2) (u := 3) (ty := 53) rfl _ _ R HV.zero.cells _ rfl (range_stZ HV.zero ⟨rfl, rfl⟩ HT3.out) Tryd.underlying53 rfl (by kernel_rfl)) rfl ⟨setCells_below R (by omega) HV.zero.cells 0 _ HB3.out, by rw [hr.out]; rfl⟩
  have HPR2 : Hid (pr = 6 ∨ pr = 17) := Lib.hid (by omega)
  obtain ⟨L, hL⟩ : ∃ L : Int, (if pr = 6 then (20 : Int) else 8) = L := ⟨_, rfl⟩
  have HL6 : Hid (pr = 6 → L = 20) := Lib.hid fun h => by rw [← hL, if_pos h]
  have HL17 : Hid (¬ pr = 6 → L = 8) := Lib.hid fun h => by rw [← hL, if_neg h]
  have hL8 : 8 ≤ L := by by_cases h : pr = 6 <;> first | (rw [HL6.out h]; decide) | (rw [HL17.out h]; decide)
  have hL20 : L ≤ 20 := by by_cases h : pr = 6 <;> first | (rw [HL6.out h]; decide) | (rw [HL17.out h]; decide)
  have HLE := Lib.hid hL
  clear kp hL
  go_upto_region 26 with fail
  go_cut [8, 133] from 122 to 133 (fun u8 u wx => u8 = .slice A6 m (c - p) ∧ u = .bool false ∧ W3 = wx)
  case first =>
    rcases HPR2.out with hp | hp
    · have e1 : (pr != 6) = false := by rw [hp]; rfl
      clear hp
      go_wp2_with fail
      go_meet
      exact ⟨by first | rfl | (rw [← hm]; first | rfl | simp [hA6]), rfl, rfl⟩
    · have e1 : (pr != 6) = true := by rw [hp]; rfl
      have e2 : (pr != 17) = false := by rw [hp]; rfl
      clear hp
      go_wp2_with fail
      go_meet
      exact ⟨by first | rfl | (rw [← hm]; first | rfl | simp [hA6]), rfl, rfl⟩
  obtain ⟨rfl, rfl, rfl⟩ := hcut
  go_upto_region 28 with fail
  go_cut [147] from 135 to 147 (fun u wx => u = .bool (decide ((m : Int) < L)) ∧ W3 = wx)
  case first =>
    rcases HPR2.out with hp | hp
    · have e1 : (pr == 6) = true := by rw [hp]; rfl
      have HE := Lib.hid (HL6.out hp)
      clear hp
      by_cases km : (m : Int) < 20
      · go_wp2_with fail
        go_meet
        refine ⟨congrArg Value.bool ?_, rfl⟩
        rw [HE.out]; first | rfl | (simp; omega) | (simp only [Bool.eq_iff_iff, decide_eq_true_eq]; omega)
      · have km8 : ¬ (m : Int) < 8 := by omega
        go_wp2_with fail
        go_meet
        refine ⟨congrArg Value.bool ?_, rfl⟩
        rw [HE.out]; first | rfl | (simp; omega) | (simp only [Bool.eq_iff_iff, decide_eq_true_eq]; omega)
    · have e1 : (pr == 6) = false := by rw [hp]; rfl
      have HE := Lib.hid (HL17.out (by omega))
      clear hp
      go_wp2_with fail
      go_meet
      refine ⟨congrArg Value.bool ?_, rfl⟩
      rw [HE.out]; first | done | rfl | (simp; omega) | (simp only [Bool.eq_iff_iff, decide_eq_true_eq]; omega)
  obtain ⟨rfl, rfl⟩ := hcut
  have HA6 := Lib.hid hA6
  clear hA6 hm
  by_cases km : (m : Int) < L
  · have hr : Hid (parse l = (2, HV.zero)) := Lib.hid (by rw [HP.out]; unfold afterIp; rw [if_neg (by rw [HP0.out]; omega), if_neg (by rw [HPR.out]; have := HPR2.out; omega), if_pos (by rw [HPR.out, HPP.out, HL.out, HLE.out]; omega)])
    go_wp2_with fail
    exact bodyPost_ret (results_agg_tmp (p := 2) (u := 3) (ty := 53) rfl _ _ R HV.zero.cells _ rfl (range_stZ HV.zero ⟨rfl, rfl⟩ HT3.out) Tryd.underlying53 rfl (by kernel_rfl)) rfl ⟨setCells_below R (by omega) HV.zero.cells 0 _ HB3.out, by rw [hr.out]; rfl⟩
  have hm20 : L ≤ (m : Int) := by omega
  obtain rfl : A6 = some ⟨b, off + p, none⟩ := by rw [← HA6.out, if_neg (by omega)]
  have HHP : Hid (parse l = afterOwn (ownH { r.2 with p1 := two q 0, p2 := two q 2 } q) q) := Lib.hid (by
    rw [HP.out]; unfold afterIp
    rw [if_neg (by rw [HP0.out]; omega), if_neg (by rw [HPR.out]; have := HPR2.out; omega), if_neg (by rw [HPR.out, HPP.out, HL.out, HLE.out]; omega), HPP.out, Int.toNat_natCast, HQ.out])
  have HQM : Hid (q.length = m) := Lib.hid (by rw [HQL.out]; exact HM.out)
  have m8 : 8 ≤ m := by omega
  have m300 : m ≤ 300 := by omega
  have HT0 : Hid (Calls Tryd.prog 52 #[.slice (some ⟨b, off + p, none⟩) m (c - p), .int .i64 0] W3 fun e w'' => e = .returned (.int .i64 (two q 0)) ∧ ∃ d2, w'' = W3.drewN d2) := Lib.hid (pair28_at b (off + p) m (c - p) 0 q _ HQM.out (by omega) (by omega) HC3q.out)
  have HT2q : Hid (∀ d, Calls Tryd.prog 52 #[.slice (some ⟨b, off + p, none⟩) m (c - p), .int .i64 2] (W3.drewN d) fun e w'' => e = .returned (.int .i64 (two q 2)) ∧ ∃ d2, w'' = (W3.drewN d).drewN d2) := Lib.hid fun d => pair28_at b (off + p) m (c - p) 2 q _ HQM.out (by omega) (by omega) HC3q.out
  have hq18 : ∀ d, (W3.drewN d).there (R + 2) 18 1 := fun d => by have := there_part HR3.out.2.2 18 1 (by omega); rw [Nat.zero_add] at this; exact this
  have hq36 : ∀ d, (W3.drewN d).there (R + 2) 36 1 := fun d => by have := there_part HR3.out.2.2 36 1 (by omega); rw [Nat.zero_add] at this; exact this
  obtain ⟨v0, hv0⟩ : ∃ x, two q 0 = x := ⟨_, rfl⟩
  obtain ⟨v2, hv2⟩ : ∃ x, two q 2 = x := ⟨_, rfl⟩
  have b0 := two_bd q 0
  have b2 := two_bd q 2
  rw [hv0] at HT0 HHP b0
  rw [hv2] at HT2q HHP b2
  obtain ⟨b00, b01⟩ := b0
  obtain ⟨b20, b21⟩ := b2
  clear km hv0 hv2
  go_upto_region 31 with (go_at_call 52; (first | ((with_reducible refine HT0.out.mono ?_); rintro e w' ⟨rfl, d1, rfl⟩; try dsimp only) | ((with_reducible refine (HT2q.out _).mono ?_); rintro e w' ⟨rfl, d2, rfl⟩; try dsimp only) | fail))
  obtain ⟨W5, hW5⟩ : ∃ W, ((W3.drewN (d1 + d2)).setCell ⟨R + 2, 18, none⟩ (.int .i64 v0)).setCell ⟨R + 2, 36, none⟩ (.int .i64 v2) = W := ⟨_, rfl⟩
  have HR5 := Lib.hid (show HRec W5 (R + 2) { r.2 with p1 := v0, p2 := v2 } from by rw [← hW5]; exact ((show HRec (W3.drewN (d1 + d2)) (R + 2) r.2 from HR3.out).port1 v0).port2 v2)
  have HG35 := Lib.hid (show W3.grownBy W5 (some (R + 2)) from by rw [← hW5]; exact ((grown_drewN W3 (d1 + d2) _).trans (grown_setCells (R + 2) [.int .i64 v0] 18 _)).trans (grown_setCells (R + 2) [.int .i64 v2] 36 _))
  have HC5 := Lib.hid (HC3q.out.grown HG35.out HNE.out)
  have HG5 := Lib.hid (HG3.out.trans HG35.out)
  rw [hW5]
  clear hW5 hq18 hq36 f0 f38 ht3 hz3
  obtain ⟨ht5, hz5, hb5, _⟩ := HK.out W5 (HKG.out _ HG5.out)
  have HT5 := Lib.hid ht5
  have HB5 := Lib.hid hb5
  have f0 := HR5.out.at.1
  simp only at f0
  rw [HPR.out] at f0
  have HFM := Lib.hid (own_form { r.2 with p1 := v0, p2 := v2 } q)
  have HO6 : Hid (pr = 6 → ownH { r.2 with p1 := v0, p2 := v2 } q = tcpH { r.2 with p1 := v0, p2 := v2 } q) := Lib.hid fun h => by unfold ownH; rw [if_pos (by show r.2.proto = 6; rw [HPR.out]; exact h)]
  have HO17 : Hid (¬ pr = 6 → ownH { r.2 with p1 := v0, p2 := v2 } q = udpH { r.2 with p1 := v0, p2 := v2 } q) := Lib.hid fun h => by unfold ownH; rw [if_neg (by show ¬ r.2.proto = 6; rw [HPR.out]; exact h)]
  obtain ⟨ro, hro⟩ : ∃ x, ownH { r.2 with p1 := v0, p2 := v2 } q = x := ⟨_, rfl⟩
  rw [hro] at HHP HFM HO6 HO17
  clear hro hb5
  go_upto_if 159 with fail
  go_cut [9] from 159 to 185 (fun u wx => OwnCut (R + 2) W5 { r.2 with p1 := v0, p2 := v2 } ro u wx)
  case first =>
    rcases HPR2.out with hp | hp
    · as_aux_lemma =>
      -- TCP
      have e1 : (pr == 6) = true := by rw [hp]; rfl
      have HE := Lib.hid (HO6.out hp)
      have hl20 := HL6.out hp
      clear hp
      have c12 := byt_cell HQM.out HC5.out 12 (by omega)
      have c13 := byt_cell HQM.out HC5.out 13 (by omega)
      obtain ⟨y120, y121⟩ := byt_bd q 12
      obtain ⟨y130, y131⟩ := byt_bd q 13
      obtain ⟨x, hx⟩ : ∃ x, byt q 12 = x := ⟨_, rfl⟩
      obtain ⟨x13, hx13⟩ : ∃ x, byt q 13 = x := ⟨_, rfl⟩
      rw [hx] at c12 y120 y121
      rw [hx13] at c13 y130 y131
      have HX := Lib.hid hx
      have HX13 := Lib.hid hx13
      obtain ⟨o, ho⟩ : ∃ o, x / 16 * 4 = o := ⟨_, rfl⟩
      have o0 : 0 ≤ o := by omega
      have o1 : o ≤ 60 := by omega
      have HO : Hid (4 * (byt q 12 / 16) = o) := Lib.hid (by rw [hx]; omega)
      have t1 : (12 : Int) < (m : Int) := by omega
      have t2 : (13 : Int) < (m : Int) := by omega
      have w1 : IntKind.i64.wrap x = x := by rw [IntKind.wrap_i64]; omega
      have w2 : IntKind.i64.wrap x13 = x13 := by rw [IntKind.wrap_i64]; omega
      have q37 := there_part HR5.out.2.2 37 1 (by omega)
      rw [Nat.zero_add] at q37
      obtain ⟨W6, hW6⟩ : ∃ W, W5.setCell ⟨R + 2, 37, none⟩ (.int .i64 x13) = W := ⟨_, rfl⟩
      have HR6 := Lib.hid (show HRec W6 (R + 2) { r.2 with p1 := v0, p2 := v2, flags := x13 } from by rw [← hW6]; exact HR5.out.flags x13)
      have HG6 := Lib.hid (show W5.grownBy W6 (some (R + 2)) from by rw [← hW6]; exact grown_setCells (R + 2) [.int .i64 x13] 37 _)
      obtain ⟨ht6, hz6, hb6, _⟩ := HK.out W6 (HKG.out _ (HG5.out.trans HG6.out))
      have HT6 := Lib.hid ht6
      have HB6 := Lib.hid hb6
      clear hx hx13 hb6 hl20
      by_cases k1 : o < 20
      · have hr : Hid (parse l = (4, HV.zero)) := Lib.hid (by
          have e : tcpH { r.2 with p1 := v0, p2 := v2 } q = (4, { r.2 with p1 := v0, p2 := v2 }) := by unfold tcpH; rw [HO.out, if_pos (.inl k1)]
          rw [HHP.out, HE.out, e]; unfold afterOwn; rw [if_pos (by simp)])
        go_wp2_with fail
        exact bodyPost_ret (results_agg_tmp (p := 2) (u := 3) (ty := 53) rfl _ _ R HV.zero.cells _ rfl (range_stZ HV.zero ⟨rfl, rfl⟩ HT6.out) Tryd.underlying53 rfl (by kernel_rfl)) rfl ⟨setCells_below R (by omega) HV.zero.cells 0 _ HB6.out, by rw [hr.out]; rfl⟩
      by_cases k2 : (m : Int) < o
      · have hr : Hid (parse l = (4, HV.zero)) := Lib.hid (by
          have e : tcpH { r.2 with p1 := v0, p2 := v2 } q = (4, { r.2 with p1 := v0, p2 := v2 }) := by unfold tcpH; rw [HO.out, HQM.out, if_pos (.inr k2)]
          rw [HHP.out, HE.out, e]; unfold afterOwn; rw [if_pos (by simp)])
        go_wp2_with fail
        exact bodyPost_ret (results_agg_tmp (p := 2) (u := 3) (ty := 53) rfl _ _ R HV.zero.cells _ rfl (range_stZ HV.zero ⟨rfl, rfl⟩ HT6.out) Tryd.underlying53 rfl (by kernel_rfl)) rfl ⟨setCells_below R (by omega) HV.zero.cells 0 _ HB6.out, by rw [hr.out]; rfl⟩
      have hrr : Hid (ro = (0, { r.2 with p1 := v0, p2 := v2, flags := x13, body := r.2.part + o })) := Lib.hid (by rw [HE.out]; unfold tcpH; rw [HO.out, HQM.out, if_neg (by omega), HX13.out])
      go_wp2_with fail
      go_meet
      exact ⟨o, rfl, o0, by omega, by rw [hrr.out], by rw [hrr.out], HG6.out, by rw [hrr.out]; exact HR6.out⟩
    · as_aux_lemma =>
      -- UDP
      have e1 : (pr == 6) = false := by rw [hp]; rfl
      have HE := Lib.hid (HO17.out (by omega))
      clear hp
      have hz5d : ∀ d, ZR (W5.drewN d) (R + 1) := fun _ => hz5
      have ht5d : ∀ d, (W5.drewN d).there R 0 40 := fun _ => ht5
      have HT4p : Hid (Calls Tryd.prog 52 #[.slice (some ⟨b, off + p, none⟩) m (c - p), .int .i64 4] W5 fun e w'' => e = .returned (.int .i64 (two q 4)) ∧ ∃ d2, w'' = W5.drewN d2) := Lib.hid (pair28_at b (off + p) m (c - p) 4 q _ HQM.out (by omega) (by omega) HC5.out)
      obtain ⟨v4, hv4⟩ : ∃ x, two q 4 = x := ⟨_, rfl⟩
      rw [hv4] at HT4p
      have HV4 := Lib.hid hv4
      clear hv4
      by_cases k3' : v4 = (m : Int)
      case neg =>
        have hr : Hid (parse l = (4, HV.zero)) := Lib.hid (by
          have e : udpH { r.2 with p1 := v0, p2 := v2 } q = (4, { r.2 with p1 := v0, p2 := v2 }) := by unfold udpH; rw [HV4.out, HQM.out, if_pos k3']
          rw [HHP.out, HE.out, e]; unfold afterOwn; rw [if_pos (by simp)])
        have k5 : (v4 != (m : Int)) = true := by simpa using k3'
        clear k3'
        go_wp2_with (go_at_call 52; (with_reducible refine HT4p.out.mono ?_); rintro e w' ⟨rfl, d2, rfl⟩; try dsimp only)
        exact bodyPost_ret (results_agg_tmp (p := 2) (u := 3) (ty := 53) rfl _ _ R HV.zero.cells _ rfl (range_stZ HV.zero ⟨rfl, rfl⟩ HT5.out) Tryd.underlying53 rfl (by kernel_rfl)) rfl ⟨setCells_below R (by omega) HV.zero.cells 0 _ (HB5.out.trans (drewN_below _ _ _)), by rw [hr.out]; rfl⟩
      have k5 : (v4 != (m : Int)) = false := by simpa using k3'
      have hrr : Hid (ro = (0, { r.2 with p1 := v0, p2 := v2, body := r.2.part + 8 })) := Lib.hid (by rw [HE.out]; unfold udpH; rw [HV4.out, HQM.out, if_neg (by simpa using k3')])
      clear k3'
      go_wp2_with (go_at_call 52; (with_reducible refine HT4p.out.mono ?_); rintro e w' ⟨rfl, d2, rfl⟩; try dsimp only)
      go_meet
      exact ⟨8, rfl, by omega, by omega, by rw [hrr.out], by rw [hrr.out], grown_drewN _ _ _, by rw [hrr.out]; exact HR5.out⟩
  obtain ⟨W6, rfl⟩ : ∃ W, W = wc := ⟨_, rfl⟩
  obtain ⟨o, rfl, o0, o1, hro0, hbody, hg6, hr6⟩ := hcut
  have hbd : ro.2.body = (p : Int) + o := by rw [hbody]; show r.2.part + o = _; rw [HPP.out]
  have f38 := hr6.at.2.2.2.2.2.1
  have hpp : ({ { r.2 with p1 := v0, p2 := v2 } with flags := ro.2.flags } : HV).part = (p : Int) := HPP.out
  rw [hpp] at f38
  have q39 := there_part hr6.2.2 39 1 (by omega)
  rw [Nat.zero_add] at q39
  obtain ⟨W7, hW7⟩ : ∃ W, W6.setCell ⟨R + 2, 39, none⟩ (.int .i64 ((p : Int) + o)) = W := ⟨_, rfl⟩
  have HR7 := Lib.hid (show HRec W7 (R + 2) ro.2 from by rw [HFM.out, hbd, ← hW7]; exact hr6.body _)
  have HG7 := Lib.hid (show W2.grownBy W7 (some (R + 2)) from by rw [← hW7]; exact (HG5.out.trans hg6).trans (grown_setCells (R + 2) [.int .i64 ((p : Int) + o)] 39 _))
  have HC7 := Lib.hid (show Cells W7 (some ⟨b, off + p, none⟩) q from by rw [← hW7]; exact (HC5.out.grown hg6 HNE.out).grown (grown_setCells (R + 2) [.int .i64 ((p : Int) + o)] 39 _) HNE.out)
  obtain ⟨ht7, hz7, hb7, _⟩ := HK.out W7 (HKG.out _ HG7.out)
  have HT7 := Lib.hid ht7
  have HB7 := Lib.hid hb7
  have hwo : IntKind.i64.wrap ((p : Int) + o) = (p : Int) + o := by rw [IntKind.wrap_i64]; omega
  obtain ⟨ro1, h6⟩ := ro
  simp only at hro0 HFM HR7
  subst hro0
  have hf1 : h6.p1 = v0 := by rw [HFM.out]
  have hf2 : h6.p2 = v2 := by rw [HFM.out]
  have hf3 : h6.proto = pr := by rw [HFM.out]; exact HPR.out
  have hf4 : h6.six1 = r.2.six1 := by rw [HFM.out]
  have HP6 : Hid (parse l = if ¬ (1 ≤ v0 ∧ v0 ≤ 65535) ∨ ¬ (1 ≤ v2 ∧ v2 ≤ 65535) then (4, HV.zero) else if summedB h6 q = true then (0, h6) else (5, HV.zero)) := Lib.hid (by
    rw [HHP.out]; unfold afterOwn
    rw [if_neg (by simp)]
    simp only
    rw [hf1, hf2])
  have f0 := HR7.out.at.1
  have f18 := HR7.out.at.2.2.1
  have f36 := HR7.out.at.2.2.2.1
  rw [hf3] at f0
  rw [hf1] at f18
  rw [hf2] at f36
  have HF3 := Lib.hid hf3
  have HF4 := Lib.hid hf4
  clear hf1 hf2 hf3 hf4 hbody hbd hg6 hr6 hpp hb7 ht5 hz5
  by_cases k1 : v0 = 0
  · have hr : Hid (parse l = (4, HV.zero)) := Lib.hid (by rw [HP6.out, if_pos (by omega)])
    have e1 : (v0 == 0) = true := by rw [k1]; rfl
    clear k1
    go_wp2_with fail
    exact bodyPost_ret (results_agg_tmp (p := 2) (u := 3) (ty := 53) rfl _ _ R HV.zero.cells _ rfl (range_stZ HV.zero ⟨rfl, rfl⟩ HT7.out) Tryd.underlying53 rfl (by kernel_rfl)) rfl ⟨setCells_below R (by omega) HV.zero.cells 0 _ HB7.out, by rw [hr.out]; rfl⟩
  have e1 : (v0 == 0) = false := by simpa using k1
  by_cases k2 : v2 = 0
  · have hr : Hid (parse l = (4, HV.zero)) := Lib.hid (by rw [HP6.out, if_pos (by omega)])
    have e2 : (v2 == 0) = true := by rw [k2]; rfl
    clear k1 k2
    go_wp2_with fail
    exact bodyPost_ret (results_agg_tmp (p := 2) (u := 3) (ty := 53) rfl _ _ R HV.zero.cells _ rfl (range_stZ HV.zero ⟨rfl, rfl⟩ HT7.out) Tryd.underlying53 rfl (by kernel_rfl)) rfl ⟨setCells_below R (by omega) HV.zero.cells 0 _ HB7.out, by rw [hr.out]; rfl⟩
  have e2 : (v2 == 0) = false := by simpa using k2
  have HP8 : Hid (parse l = if summedB h6 q = true then (0, h6) else (5, HV.zero)) := Lib.hid (by rw [HP6.out, if_neg (by omega)])
  have HT6p : Hid (Calls Tryd.prog 52 #[.slice (some ⟨b, off + p, none⟩) m (c - p), .int .i64 6] W7 fun e w'' => e = .returned (.int .i64 (two q 6)) ∧ ∃ d2, w'' = W7.drewN d2) := Lib.hid (pair28_at b (off + p) m (c - p) 6 q _ HQM.out (by omega) (by omega) HC7.out)
  clear k1 k2
  have hz7d : ∀ d, ZR (W7.drewN d) (R + 1) := fun _ => hz7
  have ht7d : ∀ d, (W7.drewN d).there R 0 40 := fun _ => ht7
  by_cases ks : pr = 17 ∧ two q 6 = 0
  · have HSB : Hid (summedB h6 q = !h6.six1) := Lib.hid (by unfold summedB; rw [HF3.out, if_pos ks])
    obtain ⟨ks1, ks2⟩ := ks
    rw [ks2] at HT6p
    have e3 : (pr == 17) = true := by rw [ks1]; rfl
    clear ks1 ks2
    rcases HV46.out with k4 | k4
    · have hr : Hid (parse l = (0, h6)) := Lib.hid (by rw [HP8.out, HSB.out, HF4.out, HSIX.out.1 k4, if_pos (by rfl)])
      have e4 : (v == 6) = false := by rw [k4]; rfl
      clear k4
      go_upto_region 45 with (go_at_call 52; (with_reducible refine HT6p.out.mono ?_); rintro e w' ⟨rfl, d9, rfl⟩; try dsimp only)
      obtain ⟨W9, hW9⟩ : ∃ W, W7.drewN d9 = W := ⟨_, rfl⟩
      have HR9 := Lib.hid (show HRec W9 (R + 2) h6 from by rw [← hW9]; exact HR7.out)
      have HT9 := Lib.hid (show W9.there R 0 40 from by rw [← hW9]; exact HT7.out)
      have HB9 := Lib.hid (show Below w.heap.size w W9 from by rw [← hW9]; exact HB7.out.trans (drewN_below _ _ _))
      rw [hW9]
      clear hW9
      have hld := run_ldR HR9.out.2.1 (HV.cells_length HR9.out.1)
      have hst := run_stR (A := h6.cells.toArray) HT9.out (by simpa using HV.cells_length HR9.out.1) (HV.one _)
      have HRG := Lib.hid (range_stZ h6 HR9.out.1 HT9.out)
      have HB8 := Lib.hid (setCells_below R (by omega) h6.cells 0 W9 HB9.out)
      have HLN := Lib.hid (HV.cells_length HR9.out.1)
      simp only at hst
      obtain ⟨W8, hW8⟩ : ∃ W, W9.setCells R 0 h6.cells = W := ⟨_, rfl⟩
      rw [hW8] at hst HRG HB8
      clear hW8
      go_wp2_with fail
      exact bodyPost_ret (results_agg_tmp (p := 2) (u := 3) (ty := 53) rfl _ _ R h6.cells _ rfl HRG.out Tryd.underlying53 rfl (by rw [HLN.out]; kernel_rfl)) rfl ⟨HB8.out, by rw [hr.out]; rfl⟩
    · have hr : Hid (parse l = (5, HV.zero)) := Lib.hid (by rw [HP8.out, HSB.out, HF4.out, HSIX.out.2 k4, if_neg (by simp)])
      have e4 : (v == 6) = true := by rw [k4]; rfl
      clear k4
      go_wp2_with (go_at_call 52; (with_reducible refine HT6p.out.mono ?_); rintro e w' ⟨rfl, d9, rfl⟩; try dsimp only)
      exact bodyPost_ret (results_agg_tmp (p := 2) (u := 3) (ty := 53) rfl _ _ R HV.zero.cells _ rfl (range_stZ HV.zero ⟨rfl, rfl⟩ HT7.out) Tryd.underlying53 rfl (by kernel_rfl)) rfl ⟨setCells_below R (by omega) HV.zero.cells 0 _ (HB7.out.trans (drewN_below _ _ _)), by rw [hr.out]; rfl⟩
  have HSB : Hid (summedB h6 q = sumOk h6 q) := Lib.hid (by unfold summedB; rw [HF3.out, if_neg ks])
  have HKS := Lib.hid ks
  clear ks
  go_upto_region 42 with fail
  go_cut [209] from 202 to 209 (fun u wx => u = .bool false ∧ W7.grownBy wx (some (R + 2)) ∧ HRec wx (R + 2) h6)
  case first =>
    by_cases hp : pr = 17
    · have e3 : (pr == 17) = true := by rw [hp]; rfl
      have hne : two q 6 ≠ 0 := fun h => HKS.out ⟨hp, h⟩
      obtain ⟨v6, hv6⟩ : ∃ x, two q 6 = x := ⟨_, rfl⟩
      rw [hv6] at HT6p hne
      have e4 : (v6 == 0) = false := by simpa using hne
      clear hp hv6 hne
      go_wp2_with (go_at_call 52; (with_reducible refine HT6p.out.mono ?_); rintro e w' ⟨rfl, d9, rfl⟩; try dsimp only)
      go_meet
      exact ⟨rfl, grown_drewN _ _ _, HR7.out⟩
    · have e3 : (pr == 17) = false := by simpa using hp
      clear hp
      go_wp2_with fail
      go_meet
      exact ⟨rfl, World.grownBy.refl _ _, HR7.out⟩
  obtain ⟨W8, rfl⟩ : ∃ W, W = wc := ⟨_, rfl⟩
  obtain ⟨rfl, hg8, hr8⟩ := hcut
  have HR8 := Lib.hid hr8
  have HG8 := Lib.hid (HG7.out.trans hg8)
  have HC8 := Lib.hid (HC7.out.grown hg8 HNE.out)
  obtain ⟨ht8, hz8, hb8, _⟩ := HK.out W8 (HKG.out _ HG8.out)
  have HT8 := Lib.hid ht8
  have HZ8 := Lib.hid hz8
  have HB8' := Lib.hid hb8
  have HZL := Lib.hid (psd_length h6 hr8.1 (m : Int))
  obtain ⟨m2, hm2⟩ : ∃ k, asize h6.six1 + asize h6.six2 + tsize h6.six1 = k := ⟨_, rfl⟩
  have HM2 : Hid (m2 ≤ 40 ∧ m2 % 2 = 0) := Lib.hid (by rw [← hm2]; cases h6.six1 <;> cases h6.six2 <;> decide)
  obtain ⟨A1, hA1⟩ : ∃ A, adrC h6.six1 h6.l1 = A := ⟨_, rfl⟩
  obtain ⟨A2, hA2⟩ : ∃ A, adrC h6.six2 h6.l2 = A := ⟨_, rfl⟩
  have HI1 := Lib.hid (show IsAddr A1 h6.six1 h6.l1 from by rw [← hA1]; exact isAddr_adrC _ _ hr8.1.1)
  have HI2 := Lib.hid (show IsAddr A2 h6.six2 h6.l2 from by rw [← hA2]; exact isAddr_adrC _ _ hr8.1.2)
  have g1 := run_ldA hr8.range1 (adr_size _ _ hr8.1.1)
  have g2 := run_ldA hr8.range2 (adr_size _ _ hr8.1.2)
  rw [hA1] at g1
  rw [hA2] at g2
  have f0 := hr8.at.1
  rw [HF3.out] at f0
  have HPS : Hid (∀ w', Calls Tryd.prog 55 #[.agg A1.toArray, .agg A2.toArray, .int .i64 pr, .int .i64 (m : Int)] w' (OwnPost m2 (psd h6 (m : Int)) w')) := Lib.hid fun w' => by
    have := refpseudo_any A1 A2 h6.six1 h6.six2 h6.l1 h6.l2 pr (m : Int) w' HI1.out HI2.out
    rw [hm2] at this
    unfold psd
    rw [HF3.out]
    exact this
  rw [hm2] at HZL
  have HSO : Hid (sumOk h6 q = (fold (tot (psd h6 (m : Int) ++ q)) == 65535)) := Lib.hid (by
    unfold sumOk
    rw [HQM.out, tot_append q (m2 / 2) _ (by rw [HZL.out]; have := HM2.out; omega)])
  obtain ⟨ps, hps⟩ : ∃ x, psd h6 (m : Int) = x := ⟨_, rfl⟩
  rw [hps] at HPS HZL HSO
  obtain ⟨g, hg⟩ : ∃ g, (fold (tot (ps ++ q)) == 65535) = g := ⟨_, rfl⟩
  have HGG := Lib.hid hg
  rw [hg] at HSO
  clear hg hps hA1 hA2 hm2 hr8 hg8 hb8 ht8 hz8 f18 f36 hz7d ht7d hz7 ht7
  cases g
  · have hr : Hid (parse l = (5, HV.zero)) := Lib.hid (by rw [HP8.out, HSB.out, HSO.out, if_neg (by simp)])
    go_upto_region 46 with fail
    go_wp2_with (first | (go_at_call 55; (with_reducible refine (HPS.out _).mono ?_); rintro e Wa ⟨va, rfl, hba, hoa⟩; have HBa := Lib.hid hba; have HOa := Lib.hid hoa; clear hba hoa; try dsimp only) | (at_builtin; refine wpList_append_u8 rfl (.tmp 224) (.tmp 225) rfl W8.heap.size va m2 ps rfl HOa.out (some ⟨b, off + p, none⟩) m (c - p) q rfl HQM.out (fun h => by cases h) (HC8.out.below HBa.out rfl) (by have := HM2.out; omega) HBa.out.size ?_; intro vb Wb hob hgb; have HBb := Lib.hid (HBa.out.grown hgb HBa.out.size (fun k h => own_ge HOa.out k h)); obtain ⟨aob, cb, rfl, hcb, hlb, _, _, _⟩ := own_cells hob; have HCb := Lib.hid hcb; have HLb := Lib.hid hlb; clear hob hgb hcb hlb) | (go_at_call 53; (with_reducible refine (good_any _ _ _ (ps ++ q) _ HLb.out (by have := HM2.out; omega) HCb.out).mono ?_); rintro e w' ⟨rfl, rfl⟩; rw [HGG.out]; try dsimp only; have HT9 := Lib.hid (there_below HT8.out HBb.out (by have := HB8'.out.size; have := HR8.out.lt; omega)); have HR9 := Lib.hid (HR8.out.below HBb.out); have hz9 : ZR Wb (R + 1) := rangeAt_below HZ8.out HBb.out (by have := HR8.out.lt; omega); have ht9 := HT9.out; have HB9 := Lib.hid (HB8'.out.trans (HBb.out.mono HB8'.out.size))))
    exact bodyPost_ret (results_agg_tmp (p := 2) (u := 3) (ty := 53) rfl _ _ R HV.zero.cells _ rfl (range_stZ HV.zero ⟨rfl, rfl⟩ HT9.out) Tryd.underlying53 rfl (by kernel_rfl)) rfl ⟨setCells_below R (by omega) HV.zero.cells 0 _ HB9.out, by rw [hr.out]; rfl⟩
  · have hr : Hid (parse l = (0, h6)) := Lib.hid (by rw [HP8.out, HSB.out, HSO.out, if_pos rfl])
    go_upto_region 46 with fail
    go_upto_region 48 with (first | (go_at_call 55; (with_reducible refine (HPS.out _).mono ?_); rintro e Wa ⟨va, rfl, hba, hoa⟩; have HBa := Lib.hid hba; have HOa := Lib.hid hoa; clear hba hoa; try dsimp only) | (at_builtin; refine wpList_append_u8 rfl (.tmp 224) (.tmp 225) rfl W8.heap.size va m2 ps rfl HOa.out (some ⟨b, off + p, none⟩) m (c - p) q rfl HQM.out (fun h => by cases h) (HC8.out.below HBa.out rfl) (by have := HM2.out; omega) HBa.out.size ?_; intro vb Wb hob hgb; have HBb := Lib.hid (HBa.out.grown hgb HBa.out.size (fun k h => own_ge HOa.out k h)); obtain ⟨aob, cb, rfl, hcb, hlb, _, _, _⟩ := own_cells hob; have HCb := Lib.hid hcb; have HLb := Lib.hid hlb; clear hob hgb hcb hlb) | (go_at_call 53; (with_reducible refine (good_any _ _ _ (ps ++ q) _ HLb.out (by have := HM2.out; omega) HCb.out).mono ?_); rintro e w' ⟨rfl, rfl⟩; rw [HGG.out]; try dsimp only; have HT9 := Lib.hid (there_below HT8.out HBb.out (by have := HB8'.out.size; have := HR8.out.lt; omega)); have HR9 := Lib.hid (HR8.out.below HBb.out); have hz9 : ZR Wb (R + 1) := rangeAt_below HZ8.out HBb.out (by have := HR8.out.lt; omega); have ht9 := HT9.out; have HB9 := Lib.hid (HB8'.out.trans (HBb.out.mono HB8'.out.size))))
    have hld := run_ldR HR9.out.2.1 (HV.cells_length HR9.out.1)
    have hst := run_stR (A := h6.cells.toArray) HT9.out (by simpa using HV.cells_length HR9.out.1) (HV.one _)
    have HRG := Lib.hid (range_stZ h6 HR9.out.1 HT9.out)
    have HB8 := Lib.hid (setCells_below R (by omega) h6.cells 0 Wb HB9.out)
    have HLN := Lib.hid (HV.cells_length HR9.out.1)
    simp only at hst
    obtain ⟨W8, hW8⟩ : ∃ W, Wb.setCells R 0 h6.cells = W := ⟨_, rfl⟩
    rw [hW8] at hst HRG HB8
    clear hW8
    go_wp2_with fail
    exact bodyPost_ret (results_agg_tmp (p := 2) (u := 3) (ty := 53) rfl _ _ R h6.cells _ rfl HRG.out Tryd.underlying53 rfl (by rw [HLN.out]; kernel_rfl)) rfl ⟨HB8.out, by rw [hr.out]; rfl⟩
end Go.Proofs.YtilhioiocfllhaaDoor
