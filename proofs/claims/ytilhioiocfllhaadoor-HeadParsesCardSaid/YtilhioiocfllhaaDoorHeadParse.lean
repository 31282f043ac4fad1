/- head.Parse. -/
import Derived.Test.YtilhioiocfllhaaDoorHeadPlain
import Derived.ScopeJumps
import Derived.Deep.DeepCutAuto
namespace Go.Proofs.YtilhioiocfllhaaDoor.HeadMath
open Go SumsMath
def afterOwn (r : Nat × HV) (q : List UInt8) : Nat × HV :=
  if r.1 ≠ 0 then (r.1, HV.zero)
  else if ¬ (1 ≤ r.2.p1 ∧ r.2.p1 ≤ 65535) ∨ ¬ (1 ≤ r.2.p2 ∧ r.2.p2 ≤ 65535) then (4, HV.zero)
  else if summedB r.2 q = true then (0, r.2) else (5, HV.zero)
def afterIp (r : Nat × HV) (l : List UInt8) : Nat × HV :=
  if r.1 ≠ 0 then (r.1, HV.zero)
  else if r.2.proto ≠ 6 ∧ r.2.proto ≠ 17 then (17, HV.zero)
  else if (l.length : Int) - r.2.part < (if r.2.proto = 6 then 20 else 8) then (2, HV.zero)
  else afterOwn (ownH { r.2 with p1 := two (l.drop r.2.part.toNat) 0, p2 := two (l.drop r.2.part.toNat) 2 } (l.drop r.2.part.toNat)) (l.drop r.2.part.toNat)
def parse (l : List UInt8) : Nat × HV :=
  if l.length = 0 then (2, HV.zero)
  else if byt l 0 / 16 ≠ 4 ∧ byt l 0 / 16 ≠ 6 then (4, HV.zero)
  else if 300 < l.length then (3, HV.zero)
  else afterIp (if byt l 0 / 16 = 4 then ip4 HV.zero l else ip6 HV.zero l) l
end Go.Proofs.YtilhioiocfllhaaDoor.HeadMath
namespace Go.Proofs.YtilhioiocfllhaaDoor
open Go.RowKit HeadMath SumsMath
set_option linter.unusedVariables false
set_option maxRecDepth 100000

/-! ### Loads and stores of whole heads -/
def ldH (x : Value) : Sem Value := Instr.loadAt 50 x
theorem ldH_eq (x : Value) : Instr.loadAt 50 x = ldH x := rfl
def stH (x v : Value) : Sem Unit := Instr.storeAt 50 x v
theorem stH_eq (x v : Value) : Instr.storeAt 50 x v = stH x v := rfl
attribute [local go_sem ↓] ldH_eq stH_eq stI_eq
attribute [local go_sem] there_setCells_rw there_setCell_rw run_stI
theorem run_ldH {w : World} {b : Nat} {cs : List Value} (h : w.rangeAt b 0 cs) (hn : cs.length = 40) : Sem.run Tryd.prog (ldH (.pointer (some ⟨b, 0, none⟩))) w = .ok (.agg cs.toArray) w :=
  run_loadAt_mid w b 0 _ cs _ h Tryd.underlying50 rfl (by rw [hn]; kernel_rfl)
theorem run_stH {w : World} {b : Nat} {A : Array Value} (ht : w.there b 0 40) (hn : A.size = 40) (h1 : A.all (·.oneCell') = true) : Sem.run Tryd.prog (stH (.pointer (some ⟨b, 0, none⟩)) (.agg A)) w = .ok () (w.setCells b 0 A.toList) :=
  run_storeAt_mid w b 0 _ A (by rw [hn]; exact ht) (by rw [hn]; kernel_rfl) h1
theorem HV.one (h : HV) : h.cells.toArray.all (·.oneCell') = true := all_oneCell_toArray (fun v hv => by
  simp only [HV.cells, adrC, List.mem_cons, List.mem_append, List.not_mem_nil, or_false] at hv
  rcases hv with rfl | (rfl | hv) | rfl | (rfl | hv) | rfl | rfl | rfl | rfl
  any_goals rfl
  · exact u8v_oneCell _ v hv
  · exact u8v_oneCell _ v hv)
theorem own_proto (h : HV) (q : List UInt8) : (ownH h q).2.proto = h.proto := by
  unfold ownH tcpH udpH
  split <;> split <;> rfl
theorem own_ports (h : HV) (q : List UInt8) : (ownH h q).2.p1 = h.p1 ∧ (ownH h q).2.p2 = h.p2 := by
  unfold ownH tcpH udpH
  split <;> split <;> exact ⟨rfl, rfl⟩
def ParsePost (ad : Nat → Addr) (w : World) (r : Nat × HV) (e : Ending) (w' : World) : Prop :=
  Below w.heap.size w w' ∧ ((r.1 = 0 ∧ e = .returned (.tuple #[.agg r.2.cells.toArray, .nilIface])) ∨ ∃ k, r.1 = k + 1 ∧ e = .returned (.tuple #[.agg HV.zero.cells.toArray, errV ad k]))

theorem wp_scope_fwd {P : Program} {a : Act} {w : World} {Q : Exit → Act → World → Prop} {c rest : Code} (l : Nat) (J : Act → World → Prop) (hf : findLabel c l = some (Code.skip.seq rest))
    (tail : ∀ a w, J a w → rest.wp P (Exit.noGoto Q) a w) (first : c.wp P (Exit.jump l J Q) a w) : (Code.scope c).wp P Q a w :=
  wp_scope_jumps l J (fun _ _ => 0) hf first fun a w h => wp_seq (wp_skip (Code.wp_mono (fun e a' w' h => by
    cases e <;> first | exact h | exact h.elim) (tail a w h)))
/-- What holds at the label. -/
def JP (ad : Nat → Addr) (w0 : World) (R : Nat) (r : Nat × HV) (a : Act) (w : World) : Prop :=
  ∃ (j : Nat) (u0 u1 u3 u4 u6 u7 u8 u9 u10 u11 u12 u13 u14 u15 u16 u17 u18 u19 u20 u21 u22 u23 u24 u25 u26 u27 u28 u29 u30 u31 u32 u33 u34 u35 u36 u37 u38 u39 u40 u41 u42 u43 u44 u45 u46 u47 u48 u49 u50 u51 u52 u53 u54 u55 u56 u57 u58 u59 u60 u61 u62 u63 u64 u65 u66 u67 u68 u69 u70 u71 u72 u73 u74 u75 u76 u77 u78 u79 u80 u81 u82 : Value), a = { tmps := #[u0, u1, .pointer (some ⟨R, 0, none⟩), u3, u4, errV ad j, u6, u7, u8, u9, u10, u11, u12, u13, u14, u15, u16, u17, u18, u19, u20, u21, u22, u23, u24, u25, u26, u27, u28, u29, u30, u31, u32, u33, u34, u35, u36, u37, u38, u39, u40, u41, u42, u43, u44, u45, u46, u47, u48, u49, u50, u51, u52, u53, u54, u55, u56, u57, u58, u59, u60, u61, u62, u63, u64, u65, u66, u67, u68, u69, u70, u71, u72, u73, u74, u75, u76, u77, u78, u79, u80, u81, u82], defers := [] } ∧ w.there R 0 40 ∧ Below w0.heap.size w0 w ∧ r.1 = j + 1
def Z40 : Array Value := #[.int .i64 0, .bool false, .int .u8 0, .int .u8 0, .int .u8 0, .int .u8 0, .int .u8 0, .int .u8 0, .int .u8 0, .int .u8 0, .int .u8 0, .int .u8 0, .int .u8 0, .int .u8 0, .int .u8 0, .int .u8 0, .int .u8 0, .int .u8 0, .int .i64 0, .bool false, .int .u8 0, .int .u8 0, .int .u8 0, .int .u8 0, .int .u8 0, .int .u8 0, .int .u8 0, .int .u8 0, .int .u8 0, .int .u8 0, .int .u8 0, .int .u8 0, .int .u8 0, .int .u8 0, .int .u8 0, .int .u8 0, .int .i64 0, .int .i64 0, .int .i64 0, .int .i64 0]
theorem z40_cells : HV.zero.cells.toArray = Z40 := rfl
theorem run_stZ {w : World} {b : Nat} (ht : w.there b 0 40) : Sem.run Tryd.prog (stH (.pointer (some ⟨b, 0, none⟩)) (.agg #[.int .i64 0, .bool false, .int .u8 0, .int .u8 0, .int .u8 0, .int .u8 0, .int .u8 0, .int .u8 0, .int .u8 0, .int .u8 0, .int .u8 0, .int .u8 0, .int .u8 0, .int .u8 0, .int .u8 0, .int .u8 0, .int .u8 0, .int .u8 0, .int .i64 0, .bool false, .int .u8 0, .int .u8 0, .int .u8 0, .int .u8 0, .int .u8 0, .int .u8 0, .int .u8 0, .int .u8 0, .int .u8 0, .int .u8 0, .int .u8 0, .int .u8 0, .int .u8 0, .int .u8 0, .int .u8 0, .int .u8 0, .int .i64 0, .int .i64 0, .int .i64 0, .int .i64 0])) w = .ok () (w.setCells b 0 HV.zero.cells) :=
  run_stH (A := HV.zero.cells.toArray) ht rfl (HV.one _)
theorem range_stZ {w : World} {b : Nat} (h : HV) (ho : h.ok) (ht : w.there b 0 40) : (w.setCells b 0 h.cells).rangeAt b 0 h.cells := World.rangeAt_setCells_same _ _ _ _ (by rw [HV.cells_length ho]; exact ht)

set_option maxHeartbeats 4000000 in
theorem parse_any (ao : Option Addr) (n c : Nat) (l : List UInt8) (ad : Nat → Addr) (w : World) (hl : l.length = n) (hnc : n ≤ c) (hcm : c ≤ 9223372036854775807) (S : Sents w ad) (hC : Cells w ao l) :
    Calls Tryd.prog 26 #[.slice ao n c] w (ParsePost ad w (parse l)) := by
  obtain ⟨R, hR⟩ : ∃ R, w.heap.size = R := ⟨_, rfl⟩
  obtain ⟨W1, hW1⟩ : ∃ W, w.alloc (.cells #[.int .i64 0, .bool false, .int .u8 0, .int .u8 0, .int .u8 0, .int .u8 0, .int .u8 0, .int .u8 0, .int .u8 0, .int .u8 0, .int .u8 0, .int .u8 0, .int .u8 0, .int .u8 0, .int .u8 0, .int .u8 0, .int .u8 0, .int .u8 0, .int .i64 0, .bool false, .int .u8 0, .int .u8 0, .int .u8 0, .int .u8 0, .int .u8 0, .int .u8 0, .int .u8 0, .int .u8 0, .int .u8 0, .int .u8 0, .int .u8 0, .int .u8 0, .int .u8 0, .int .u8 0, .int .u8 0, .int .u8 0, .int .i64 0, .int .i64 0, .int .i64 0, .int .i64 0] 50) = W := ⟨_, rfl⟩
  have hs1 : W1.heap.size = R + 1 := by rw [← hW1, ← hR]; simp
  go_enter Tryd.func26, Tryd.ntmps26
  go_wp2_with fail
  refine wp_scope_fwd 0 (JP ad w R (parse l)) rfl ?_ ?_
  · rintro a' w' ⟨j, u0, u1, u3, u4, u6, u7, u8, u9, u10, u11, u12, u13, u14, u15, u16, u17, u18, u19, u20, u21, u22, u23, u24, u25, u26, u27, u28, u29, u30, u31, u32, u33, u34, u35, u36, u37, u38, u39, u40, u41, u42, u43, u44, u45, u46, u47, u48, u49, u50, u51, u52, u53, u54, u55, u56, u57, u58, u59, u60, u61, u62, u63, u64, u65, u66, u67, u68, u69, u70, u71, u72, u73, u74, u75, u76, u77, u78, u79, u80, u81, u82, rfl, ht, hb, hr⟩
    have hst := run_stZ ht
    have HRG := Lib.hid (range_stZ HV.zero ⟨rfl, rfl⟩ ht)
    have HB2 := Lib.hid (setCells_below R (by omega) HV.zero.cells 0 w' hb)
    have HJ := Lib.hid hr
    obtain ⟨W2, hW2⟩ : ∃ W, w'.setCells R 0 HV.zero.cells = W := ⟨_, rfl⟩
    rw [hW2] at hst HRG HB2
    clear hW2 hb hr ht
    go_wp2_with fail
    exact bodyPost_ret (results_agg_tmp (p := 2) (u := 3) (ty := 50) rfl _ _ R HV.zero.cells _ rfl HRG.out Tryd.underlying50 rfl (by kernel_rfl)) rfl ⟨HB2.out, .inr ⟨j, HJ.out, rfl⟩⟩
  have HK : Hid (∀ W, Below (R + 1) W1 W → W.there R 0 40 ∧ Below w.heap.size w W ∧ Sents W ad ∧ Cells W ao l) := Lib.hid fun W hb => by
    have hw : Below w.heap.size w W1 := by rw [← hW1]; exact (Below.refl _ _).alloc (Nat.le_refl _) _
    have hb2 : Below w.heap.size w W := hw.trans (hb.mono (by omega))
    exact ⟨there_below (by rw [← hW1, ← hR]; exact there_new w _ _ 40 rfl) hb (by omega), hb2, S.below hb2, hC.below hb2 rfl⟩
  obtain ⟨W2, hW2⟩ : ∃ W, W1.alloc (.cells #[.int .i64 0, .bool false, .int .u8 0, .int .u8 0, .int .u8 0, .int .u8 0, .int .u8 0, .int .u8 0, .int .u8 0, .int .u8 0, .int .u8 0, .int .u8 0, .int .u8 0, .int .u8 0, .int .u8 0, .int .u8 0, .int .u8 0, .int .u8 0, .int .i64 0, .bool false, .int .u8 0, .int .u8 0, .int .u8 0, .int .u8 0, .int .u8 0, .int .u8 0, .int .u8 0, .int .u8 0, .int .u8 0, .int .u8 0, .int .u8 0, .int .u8 0, .int .u8 0, .int .u8 0, .int .u8 0, .int .u8 0, .int .i64 0, .int .i64 0, .int .i64 0, .int .i64 0] 50) = W := ⟨_, rfl⟩
  have HH2 := Lib.hid (show HRec W2 (R + 1) HV.zero from by rw [← hW2, ← hs1]; exact ⟨⟨rfl, rfl⟩, range_new W1 _ _, there_new W1 _ _ 40 rfl⟩)
  have HB2 := Lib.hid (show Below (R + 1) W1 W2 from by rw [← hW2]; exact (Below.refl _ _).alloc (by omega) _)
  have HKG : Hid (∀ W, W2.grownBy W (some (R + 1)) → Below (R + 1) W1 W) := Lib.hid fun W hg => HB2.out.grown hg (by have := HB2.out.size; omega) (fun g e => by cases e; omega)
  obtain ⟨ht2, hb2, S2, hC2⟩ := HK.out W2 HB2.out
  have g1 := S2.cell 1 _ rfl
  have g2 := S2.cell 2 _ rfl
  have g3 := S2.cell 3 _ rfl
  have HT2 := Lib.hid ht2
  have HBW := Lib.hid hb2
  have HC2 := Lib.hid hC2
  have HL := Lib.hid hl
  have HLO : Hid (∀ b off, ao = some ⟨b, off, none⟩ → l ≠ [] → b < R) := Lib.hid fun b off e hne => by
    subst e
    have := hC.at 0 (List.length_pos_iff.2 hne)
    rw [← hR]; exact World.block_lt_of_cell? w _ this
  have HSS : Hid (∀ W, W2.grownBy W (some (R + 1)) → Sents W ad) := Lib.hid fun W hg => (HK.out _ (HKG.out _ hg)).2.2.1
  clear ht2 hb2 S2 hC2 S hC hl hW1
  by_cases k0 : n = 0
  · subst k0
    have hr : Hid ((parse l).1 = 2) := Lib.hid (by unfold parse; rw [if_pos HL.out])
    go_wp2_with fail
    refine wp_goto ?_
    exact ⟨rfl, 1, _, _, _, _, _, _, _, _, _, _, _, _, _, _, _, _, _, _, _, _, _, _, _, _, _, _, _, _, _, _, _, _, _, _, _, _, _, _, _, _, _, _, _, _, _, _, _, _, _, _, _, _, _, _, _, _, _, _, _, _, _, _, _, _, _, _, _, _, _, _, _, _, _, _, _, _, _, _, _, _, _, rfl, HT2.out, HBW.out, hr.out⟩
  have n0 : ¬ (n : Int) = 0 := by omega
  have n1 : (0 : Int) < (n : Int) := by omega
  obtain ⟨b, off, rfl, _⟩ : ∃ b off, ao = some ⟨b, off, none⟩ ∧ True := by
    rcases HC2.out with h | ⟨b, off, e, _⟩
    · have := HL.out; rw [h] at this; simp at this; omega
    · exact ⟨b, off, e, trivial⟩
  have c0 := byt_cell HL.out HC2.out 0 (by omega)
  rw [Nat.add_zero] at c0
  obtain ⟨y0, y1⟩ := byt_bd l 0
  obtain ⟨x0, hx0⟩ : ∃ x, byt l 0 = x := ⟨_, rfl⟩
  rw [hx0] at c0 y0 y1
  have HX0 := Lib.hid hx0
  clear hx0
  by_cases kv : x0 / 16 ≠ 4 ∧ x0 / 16 ≠ 6
  · have hr : Hid ((parse l).1 = 4) := Lib.hid (by unfold parse; rw [if_neg (by rw [HL.out]; exact k0), if_pos (by rw [HX0.out]; exact kv)])
    have e4 : (x0 / 16 == 4) = false := by simpa using kv.1
    have e6 : (x0 / 16 == 6) = false := by simpa using kv.2
    clear kv
    go_wp2_with fail
    refine wp_goto ?_
    exact ⟨rfl, 3, _, _, _, _, _, _, _, _, _, _, _, _, _, _, _, _, _, _, _, _, _, _, _, _, _, _, _, _, _, _, _, _, _, _, _, _, _, _, _, _, _, _, _, _, _, _, _, _, _, _, _, _, _, _, _, _, _, _, _, _, _, _, _, _, _, _, _, _, _, _, _, _, _, _, _, _, _, _, _, _, _, rfl, HT2.out, HBW.out, hr.out⟩
  by_cases k3 : 300 < n
  · have hr : Hid ((parse l).1 = 3) := Lib.hid (by unfold parse; rw [if_neg (by rw [HL.out]; exact k0), if_neg (by rw [HX0.out]; exact kv), if_pos (by rw [HL.out]; exact k3)])
    have k3' : (300 : Int) < (n : Int) := by omega
    by_cases k4 : x0 / 16 = 4
    · clear kv
      go_wp2_with fail
      refine wp_goto ?_
      exact ⟨rfl, 2, _, _, _, _, _, _, _, _, _, _, _, _, _, _, _, _, _, _, _, _, _, _, _, _, _, _, _, _, _, _, _, _, _, _, _, _, _, _, _, _, _, _, _, _, _, _, _, _, _, _, _, _, _, _, _, _, _, _, _, _, _, _, _, _, _, _, _, _, _, _, _, _, _, _, _, _, _, _, _, _, _, rfl, HT2.out, HBW.out, hr.out⟩
    · have k6 : x0 / 16 = 6 := by omega
      clear kv k4
      go_wp2_with fail
      refine wp_goto ?_
      exact ⟨rfl, 2, _, _, _, _, _, _, _, _, _, _, _, _, _, _, _, _, _, _, _, _, _, _, _, _, _, _, _, _, _, _, _, _, _, _, _, _, _, _, _, _, _, _, _, _, _, _, _, _, _, _, _, _, _, _, _, _, _, _, _, _, _, _, _, _, _, _, _, _, _, _, _, _, _, _, _, _, _, _, _, _, _, rfl, HT2.out, HBW.out, hr.out⟩
  have k3' : (n : Int) ≤ 300 := by omega
  have HNE : Hid (b ≠ R + 1) := Lib.hid (by
    have := HLO.out b off rfl (by intro e; have := HL.out; rw [e] at this; simp at this; omega)
    omega)
  -- CUT
  obtain ⟨r, hre⟩ : ∃ r, (if x0 / 16 = 4 then ip4 HV.zero l else ip6 HV.zero l) = r := ⟨_, rfl⟩
  have HP : Hid (parse l = afterIp r l) := Lib.hid (by unfold parse; rw [if_neg (by rw [HL.out]; exact k0), if_neg (by rw [HX0.out]; exact kv), if_neg (by rw [HL.out]; exact k3), HX0.out, hre])
  have HR4 : Hid (x0 / 16 = 4 → r = ip4 HV.zero l) := Lib.hid fun k => by rw [← hre, if_pos k]
  have HR6 : Hid (¬ x0 / 16 = 4 → r = ip6 HV.zero l) := Lib.hid fun k => by rw [← hre, if_neg k]
  have HPT : Hid (r.1 = 0 → ∃ p : Nat, r.2.part = (p : Int) ∧ p ≤ l.length ∧ 20 ≤ p ∧ p ≤ 60 ∧ r.2.ok) := Lib.hid (by
    by_cases k4 : x0 / 16 = 4
    · rw [HR4.out k4]; exact ip4_part l
    · rw [HR6.out k4]; exact ip6_part l)
  have HF4 := Lib.hid (fourth_any (R + 1) b off n c ad HV.zero l W2 HL.out (by omega) hnc hcm HSS.out HH2.out HC2.out HNE.out)
  have HF6 := Lib.hid (sixth_any (R + 1) b off n c ad HV.zero l W2 HL.out (by omega) hnc hcm HSS.out HH2.out HC2.out HNE.out)
  have HV4 : Hid (x0 / 16 = 4 ∨ x0 / 16 = 6) := Lib.hid (by omega)
  clear hre
  go_upto_if 17 with fail
  go_cut [17] (fun v wx => v = .bool true ∧ W2 = wx)
  case first =>
    rcases HV4.out with k4 | k4
    · have e4 : (x0 / 16 == 4) = true := by rw [k4]; rfl
      clear kv k4
      go_wp2_with fail
      go_meet
      exact ⟨rfl, rfl⟩
    · have e4 : (x0 / 16 == 4) = false := by rw [k4]; rfl
      have e6 : (x0 / 16 == 6) = true := by rw [k4]; rfl
      clear kv k4
      go_wp2_with fail
      go_meet
      exact ⟨rfl, rfl⟩
  case rest =>
    obtain ⟨rfl, rfl⟩ := hcut
    clear kv
    go_upto_if 28 with fail
    go_cut [5] (fun v wx => IpPost (R + 1) ad W2 r (.returned v) wx)
    case first =>
      rcases HV4.out with k4 | k4
      · have e4 : (x0 / 16 == 4) = true := by rw [k4]; rfl
        have HE := Lib.hid (HR4.out k4)
        clear k4
        go_wp2_with (go_at_call 45; (with_reducible refine HF4.out.mono ?_); rintro e W3 ⟨hg3, (⟨h0, rfl, hR3⟩ | ⟨k, h0, rfl⟩)⟩)
        · go_meet
          exact ⟨hg3, .inl ⟨by rw [HE.out]; exact h0, rfl, by rw [HE.out]; exact hR3⟩⟩
        · go_meet
          exact ⟨hg3, .inr ⟨k, by rw [HE.out]; exact h0, rfl⟩⟩
      · have e4 : (x0 / 16 == 4) = false := by rw [k4]; rfl
        have HE := Lib.hid (HR6.out (by omega))
        clear k4
        go_wp2_with (go_at_call 46; (with_reducible refine HF6.out.mono ?_); rintro e W3 ⟨hg3, (⟨h0, rfl, hR3⟩ | ⟨k, h0, rfl⟩)⟩)
        · go_meet
          exact ⟨hg3, .inl ⟨by rw [HE.out]; exact h0, rfl, by rw [HE.out]; exact hR3⟩⟩
        · go_meet
          exact ⟨hg3, .inr ⟨k, by rw [HE.out]; exact h0, rfl⟩⟩
    case rest =>
      obtain ⟨W3, rfl⟩ : ∃ W, W = wc := ⟨_, rfl⟩
      obtain ⟨hg3, hcut⟩ := hcut
      obtain ⟨ht3, hb3, S3, hC3⟩ := HK.out _ (HKG.out _ hg3)
      have HT3 := Lib.hid ht3
      have HB3 := Lib.hid hb3
      have HS3 := Lib.hid S3
      have HC3 := Lib.hid hC3
      have HG3 := Lib.hid hg3
      clear ht3 hb3 S3 hC3 hg3
      rcases hcut with ⟨h0, he, hR3⟩ | ⟨k, h0, he⟩
      case inr =>
        have hr : Hid ((parse l).1 = k + 1) := Lib.hid (by rw [HP.out]; unfold afterIp; rw [if_pos (by omega)]; exact h0)
        cases he
        clear h0
        unfold errV
        go_wp2_with fail
        refine wp_goto ?_
        exact ⟨rfl, k, _, _, _, _, _, _, _, _, _, _, _, _, _, _, _, _, _, _, _, _, _, _, _, _, _, _, _, _, _, _, _, _, _, _, _, _, _, _, _, _, _, _, _, _, _, _, _, _, _, _, _, _, _, _, _, _, _, _, _, _, _, _, _, _, _, _, _, _, _, _, _, _, _, _, _, _, _, _, _, _, _, rfl, HT3.out, HB3.out, hr.out⟩
      cases he
      obtain ⟨p, hp, hpn, hp20, hp60, hok⟩ := HPT.out h0
      have HR3 := Lib.hid hR3
      have f0 := hR3.at.1
      have f38 := hR3.at.2.2.2.2.2.1
      rw [hp] at f38
      have HP0 := Lib.hid h0
      have HPP := Lib.hid hp
      have HPN := Lib.hid hpn
      have HOK := Lib.hid hok
      obtain ⟨pr, hpr⟩ : ∃ x, r.2.proto = x := ⟨_, rfl⟩
      rw [hpr] at f0
      have HPR := Lib.hid hpr
      clear hR3 h0 hp hpn hok hpr
      by_cases kp : pr ≠ 6 ∧ pr ≠ 17
      · have hr : Hid ((parse l).1 = 17) := Lib.hid (by rw [HP.out]; unfold afterIp; rw [if_neg (by rw [HP0.out]; omega), HPR.out, if_pos kp])
        have ep : (pr == 6 || pr == 17) = false := by simpa using kp
        have g16 := HS3.out.cell 16 _ rfl
        clear kp
        go_wp2_with (go_at_call 47; (with_reducible refine (proto_any _ _).mono ?_); rintro e w' ⟨rfl, rfl⟩; rw [ep])
        refine wp_goto ?_
        exact ⟨rfl, 16, _, _, _, _, _, _, _, _, _, _, _, _, _, _, _, _, _, _, _, _, _, _, _, _, _, _, _, _, _, _, _, _, _, _, _, _, _, _, _, _, _, _, _, _, _, _, _, _, _, _, _, _, _, _, _, _, _, _, _, _, _, _, _, _, _, _, _, _, _, _, _, _, _, _, _, _, _, _, _, _, _, rfl, HT3.out, HB3.out, hr.out⟩
      have hpn' : (p : Int) ≤ (n : Int) := by have := HPN.out; have := HL.out; omega
      have hpc : (p : Int) ≤ (c : Int) := by omega
      obtain ⟨m, hm⟩ : ∃ m, n - p = m := ⟨_, rfl⟩
      have hmi : (n : Int) - (p : Int) = (m : Int) := by omega
      have HM := Lib.hid hm
      have hql : (l.drop p).length = n - p := by rw [List.length_drop, HL.out]
      have hC3' : Cells W3 (some ⟨b, off + p, none⟩) (l.drop p) := by have := HC3.out.part p (l.drop p).length; rwa [List.take_length] at this
      have HQL := Lib.hid hql
      have HC3q := Lib.hid hC3'
      obtain ⟨q, hq⟩ : ∃ q, l.drop p = q := ⟨_, rfl⟩
      rw [hq] at HQL HC3q
      have HQ := Lib.hid hq
      clear hql hC3' hq
      have ep : (pr == 6 || pr == 17) = true := by
        rcases (show pr = 6 ∨ pr = 17 by omega) with h | h <;> rw [h] <;> rfl
      have HPR2 : Hid (pr = 6 ∨ pr = 17) := Lib.hid (by omega)
      obtain ⟨L, hL⟩ : ∃ L : Int, (if pr = 6 then (20 : Int) else 8) = L := ⟨_, rfl⟩
      have HL6 : Hid (pr = 6 → L = 20) := Lib.hid fun h => by rw [← hL, if_pos h]
      have HL17 : Hid (¬ pr = 6 → L = 8) := Lib.hid fun h => by rw [← hL, if_neg h]
      have hL8 : 8 ≤ L := by by_cases h : pr = 6 <;> first | (rw [HL6.out h]; decide) | (rw [HL17.out h]; decide)
      have hL20 : L ≤ 20 := by by_cases h : pr = 6 <;> first | (rw [HL6.out h]; decide) | (rw [HL17.out h]; decide)
      have HLE := Lib.hid hL
      clear kp hL
      obtain ⟨A6, hA6⟩ : ∃ A, (if c = p then (some ⟨b, off, none⟩ : Option Addr) else some ⟨b, off + p, none⟩) = A := ⟨_, rfl⟩
      go_upto_if 46 with (first | (go_at_call 47; (with_reducible refine (proto_any _ _).mono ?_); rintro e w' ⟨rfl, rfl⟩; rw [ep]))
      go_cut [7] (fun v wx => v = .int .i64 L ∧ W3 = wx)
      case first =>
        rcases HPR2.out with hp | hp
        · have e6 : (pr == 6) = true := by rw [hp]; rfl
          have HE := Lib.hid (HL6.out hp)
          clear hp
          go_wp2_with fail
          go_meet
          exact ⟨by rw [HE.out], rfl⟩
        · have e6 : (pr == 6) = false := by rw [hp]; rfl
          have HE := Lib.hid (HL17.out (by omega))
          clear hp
          go_wp2_with fail
          go_meet
          exact ⟨by rw [HE.out], rfl⟩
      case rest =>
        obtain ⟨rfl, rfl⟩ := hcut
        have HA6 := Lib.hid hA6
        clear hA6
        by_cases km : (m : Int) < L
        · have hr : Hid ((parse l).1 = 2) := Lib.hid (by rw [HP.out]; unfold afterIp; rw [if_neg (by rw [HP0.out]; omega), if_neg (by rw [HPR.out]; have := HPR2.out; omega), if_pos (by rw [HPR.out, HPP.out, HL.out, HLE.out]; omega)])
          have g1 := HS3.out.cell 1 _ rfl
          clear hm
          go_wp2_with fail
          refine wp_goto ?_
          exact ⟨rfl, 1, _, _, _, _, _, _, _, _, _, _, _, _, _, _, _, _, _, _, _, _, _, _, _, _, _, _, _, _, _, _, _, _, _, _, _, _, _, _, _, _, _, _, _, _, _, _, _, _, _, _, _, _, _, _, _, _, _, _, _, _, _, _, _, _, _, _, _, _, _, _, _, _, _, _, _, _, _, _, _, _, _, rfl, HT3.out, HB3.out, hr.out⟩
        have hm20 : L ≤ (m : Int) := by omega
        obtain rfl : A6 = some ⟨b, off + p, none⟩ := by rw [← HA6.out, if_neg (by omega)]
        have HHP : Hid (parse l = afterOwn (ownH { r.2 with p1 := two q 0, p2 := two q 2 } q) q) := Lib.hid (by
          rw [HP.out]; unfold afterIp
          rw [if_neg (by rw [HP0.out]; omega), if_neg (by rw [HPR.out]; have := HPR2.out; omega), if_neg (by rw [HPR.out, HPP.out, HL.out, HLE.out]; omega), HPP.out, Int.toNat_natCast, HQ.out])
        have HQM : Hid (q.length = m) := Lib.hid (by rw [HQL.out]; exact hm)
        have m8 : 8 ≤ m := by omega
        have m300 : m ≤ 300 := by omega
        have HT0 : Hid (Calls Tryd.prog 48 #[.slice (some ⟨b, off + p, none⟩) m (c - p), .int .i64 0] W3 fun e w'' => e = .returned (.int .i64 (two q 0)) ∧ ∃ d2, w'' = W3.drewN d2) := Lib.hid (two_at b (off + p) m (c - p) 0 q _ HQM.out (by omega) (by omega) HC3q.out)
        have HT2q : Hid (∀ d, Calls Tryd.prog 48 #[.slice (some ⟨b, off + p, none⟩) m (c - p), .int .i64 2] (W3.drewN d) fun e w'' => e = .returned (.int .i64 (two q 2)) ∧ ∃ d2, w'' = (W3.drewN d).drewN d2) := Lib.hid fun d => two_at b (off + p) m (c - p) 2 q _ HQM.out (by omega) (by omega) HC3q.out
        have hq18 : ∀ d, (W3.drewN d).there (R + 1) 18 1 := fun d => by have := there_part HR3.out.2.2 18 1 (by omega); rw [Nat.zero_add] at this; exact this
        have hq36 : ∀ d, (W3.drewN d).there (R + 1) 36 1 := fun d => by have := there_part HR3.out.2.2 36 1 (by omega); rw [Nat.zero_add] at this; exact this
        obtain ⟨v0, hv0⟩ : ∃ x, two q 0 = x := ⟨_, rfl⟩
        obtain ⟨v2, hv2⟩ : ∃ x, two q 2 = x := ⟨_, rfl⟩
        have b0 := two_bd q 0
        have b2 := two_bd q 2
        rw [hv0] at HT0 HHP b0
        rw [hv2] at HT2q HHP b2
        obtain ⟨b00, b01⟩ := b0
        obtain ⟨b20, b21⟩ := b2
        clear km hm hv0 hv2
        go_upto_region 25 with (go_at_call 48; (first | ((with_reducible refine HT0.out.mono ?_); rintro e w' ⟨rfl, d1, rfl⟩) | ((with_reducible refine (HT2q.out _).mono ?_); rintro e w' ⟨rfl, d2, rfl⟩) | fail))
        obtain ⟨W5, hW5⟩ : ∃ W, ((W3.drewN (d1 + d2)).setCell ⟨R + 1, 18, none⟩ (.int .i64 v0)).setCell ⟨R + 1, 36, none⟩ (.int .i64 v2) = W := ⟨_, rfl⟩
        have HR5 := Lib.hid (show HRec W5 (R + 1) { r.2 with p1 := v0, p2 := v2 } from by rw [← hW5]; exact ((show HRec (W3.drewN (d1 + d2)) (R + 1) r.2 from HR3.out).port1 v0).port2 v2)
        have HG35 := Lib.hid (show W3.grownBy W5 (some (R + 1)) from by rw [← hW5]; exact ((grown_drewN W3 (d1 + d2) _).trans (grown_setCells (R + 1) [.int .i64 v0] 18 _)).trans (grown_setCells (R + 1) [.int .i64 v2] 36 _))
        have HC5 := Lib.hid (HC3q.out.grown HG35.out HNE.out)
        have HG5 := Lib.hid (HG3.out.trans HG35.out)
        rw [hW5]
        clear hW5
        have HPT0 : Hid (0 ≤ r.2.part ∧ r.2.part ≤ 300) := Lib.hid (by rw [HPP.out]; omega)
        have HOWN := Lib.hid (own_any (R + 1) b (off + p) m (c - p) ad { r.2 with p1 := v0, p2 := v2 } q W5 HQM.out m8 (fun h => by have := HL6.out (by rw [← HPR.out]; exact h); omega) m300 HPT0.out.1 HPT0.out.2 (fun w' hg => HSS.out _ (HG5.out.trans hg)) HR5.out HC5.out HNE.out)
        have HOP := Lib.hid (own_proto { r.2 with p1 := v0, p2 := v2 } q)
        have HOQ := Lib.hid (own_ports { r.2 with p1 := v0, p2 := v2 } q)
        obtain ⟨ro, hro⟩ : ∃ x, ownH { r.2 with p1 := v0, p2 := v2 } q = x := ⟨_, rfl⟩
        rw [hro] at HOWN HHP HOP HOQ
        clear hro
        go_wp2_with fail
        go_at_call 49
        refine HOWN.out.mono ?_
        rintro e W6 ⟨hg6, hc6⟩
        have HG6 := Lib.hid (HG5.out.trans hg6)
        have HC6 := Lib.hid (HC5.out.grown hg6 HNE.out)
        clear hg6
        obtain ⟨ht6, hb6, S6, _⟩ := HK.out _ (HKG.out _ HG6.out)
        have HT6 := Lib.hid ht6
        have HB6 := Lib.hid hb6
        have HS6 := Lib.hid S6
        clear ht6 hb6 S6
        rcases hc6 with ⟨h0, rfl, hR6⟩ | ⟨k, h0, rfl⟩
        case inr =>
          have hr : Hid ((parse l).1 = k + 1) := Lib.hid (by rw [HHP.out]; unfold afterOwn; rw [if_pos (by omega)]; exact h0)
          clear h0
          unfold errV
          go_wp2_with fail
          refine wp_goto ?_
          exact ⟨rfl, k, _, _, _, _, _, _, _, _, _, _, _, _, _, _, _, _, _, _, _, _, _, _, _, _, _, _, _, _, _, _, _, _, _, _, _, _, _, _, _, _, _, _, _, _, _, _, _, _, _, _, _, _, _, _, _, _, _, _, _, _, _, _, _, _, _, _, _, _, _, _, _, _, _, _, _, _, _, _, _, _, _, rfl, HT6.out, HB6.out, hr.out⟩
        obtain ⟨ro1, h6⟩ := ro
        simp only at h0 HOP HOQ hR6
        subst h0
        have HR6 := Lib.hid hR6
        have f18 := hR6.at.2.2.1
        have f36 := hR6.at.2.2.2.1
        rw [HOQ.out.1] at f18
        rw [HOQ.out.2] at f36
        try simp only at f18 f36
        clear hR6
        have HP6 : Hid (parse l = if ¬ (1 ≤ v0 ∧ v0 ≤ 65535) ∨ ¬ (1 ≤ v2 ∧ v2 ≤ 65535) then (4, HV.zero) else if summedB h6 q = true then (0, h6) else (5, HV.zero)) := Lib.hid (by
          rw [HHP.out]; unfold afterOwn
          rw [if_neg (by simp)]
          simp only
          rw [HOQ.out.1, HOQ.out.2])
        have g3 := HS6.out.cell 3 _ rfl
        by_cases k1 : 1 ≤ v0
        case neg =>
          have hr : Hid ((parse l).1 = 4) := Lib.hid (by rw [HP6.out, if_pos (by omega)])
          have HPA : Hid (∀ w, Calls Tryd.prog 50 #[.int .i64 v0] w fun e w' => e = .returned (.bool false) ∧ w = w') := Lib.hid fun w => by
            have := portRight_any v0 w
            rwa [show (decide (1 ≤ v0) && decide (v0 ≤ 65535)) = false by simp; omega] at this
          clear k1
          go_wp2_with (go_at_call 50; (with_reducible refine (HPA.out _).mono ?_); rintro e w' ⟨rfl, rfl⟩)
          refine wp_goto ?_
          exact ⟨rfl, 3, _, _, _, _, _, _, _, _, _, _, _, _, _, _, _, _, _, _, _, _, _, _, _, _, _, _, _, _, _, _, _, _, _, _, _, _, _, _, _, _, _, _, _, _, _, _, _, _, _, _, _, _, _, _, _, _, _, _, _, _, _, _, _, _, _, _, _, _, _, _, _, _, _, _, _, _, _, _, _, _, _, rfl, HT6.out, HB6.out, hr.out⟩
        have HPA : Hid (∀ w, Calls Tryd.prog 50 #[.int .i64 v0] w fun e w' => e = .returned (.bool true) ∧ w = w') := Lib.hid fun w => by
          have := portRight_any v0 w
          rwa [show (decide (1 ≤ v0) && decide (v0 ≤ 65535)) = true by simp; omega] at this
        by_cases k2 : 1 ≤ v2
        case neg =>
          have hr : Hid ((parse l).1 = 4) := Lib.hid (by rw [HP6.out, if_pos (by omega)])
          have HPB : Hid (∀ w, Calls Tryd.prog 50 #[.int .i64 v2] w fun e w' => e = .returned (.bool false) ∧ w = w') := Lib.hid fun w => by
            have := portRight_any v2 w
            rwa [show (decide (1 ≤ v2) && decide (v2 ≤ 65535)) = false by simp; omega] at this
          clear k1 k2
          go_wp2_with (go_at_call 50; (first | ((with_reducible refine (HPA.out _).mono ?_); rintro e w' ⟨rfl, rfl⟩) | ((with_reducible refine (HPB.out _).mono ?_); rintro e w' ⟨rfl, rfl⟩) | fail))
          refine wp_goto ?_
          exact ⟨rfl, 3, _, _, _, _, _, _, _, _, _, _, _, _, _, _, _, _, _, _, _, _, _, _, _, _, _, _, _, _, _, _, _, _, _, _, _, _, _, _, _, _, _, _, _, _, _, _, _, _, _, _, _, _, _, _, _, _, _, _, _, _, _, _, _, _, _, _, _, _, _, _, _, _, _, _, _, _, _, _, _, _, _, rfl, HT6.out, HB6.out, hr.out⟩
        have HPB : Hid (∀ w, Calls Tryd.prog 50 #[.int .i64 v2] w fun e w' => e = .returned (.bool true) ∧ w = w') := Lib.hid fun w => by
          have := portRight_any v2 w
          rwa [show (decide (1 ≤ v2) && decide (v2 ≤ 65535)) = true by simp; omega] at this
        have HP7 : Hid (parse l = if summedB h6 q = true then (0, h6) else (5, HV.zero)) := Lib.hid (by rw [HP6.out, if_neg (by omega)])
        have HSUM := Lib.hid (summed_any (R + 1) b (off + p) m (c - p) h6 q W6 HQM.out m8 m300 (by omega) (by omega) (by rw [HOP.out]; show r.2.proto = 6 ∨ r.2.proto = 17; rw [HPR.out]; exact HPR2.out) HR6.out HC6.out)
        clear k1 k2 f18 f36 g3
        have f18 := HR6.out.at.2.2.1
        have f36 := HR6.out.at.2.2.2.1
        rw [HOQ.out.1] at f18
        rw [HOQ.out.2] at f36
        try simp only at f18 f36
        go_upto_region 29 with (go_at_call 50; (first | ((with_reducible refine (HPA.out _).mono ?_); rintro e w' ⟨rfl, rfl⟩) | ((with_reducible refine (HPB.out _).mono ?_); rintro e w' ⟨rfl, rfl⟩) | fail))
        go_wp2_with fail
        go_at_call 51
        refine HSUM.out.mono ?_
        rintro e W7 ⟨rfl, hb7⟩
        clear f18 f36
        obtain ⟨g, hg⟩ : ∃ g, summedB h6 q = g := ⟨_, rfl⟩
        rw [hg] at HP7 ⊢
        clear hg
        have HB7 := Lib.hid (HB6.out.trans (hb7.mono HB6.out.size))
        have HT7 := Lib.hid (there_below HT6.out hb7 (by have := HB6.out.size; have := HR6.out.lt; omega))
        have HR7 := Lib.hid (HR6.out.below hb7)
        have HS7 := Lib.hid (HS6.out.below hb7)
        clear hb7
        cases g
        · have HJ : Hid ((parse l).1 = 4 + 1) := Lib.hid (by rw [HP7.out, if_neg (by simp)])
          have g4 := HS7.out.cell 4 _ rfl
          have hst := run_stZ HT7.out
          have HRG := Lib.hid (range_stZ HV.zero ⟨rfl, rfl⟩ HT7.out)
          have HB8 := Lib.hid (setCells_below R (by omega) HV.zero.cells 0 W7 HB7.out)
          obtain ⟨W8, hW8⟩ : ∃ W, W7.setCells R 0 HV.zero.cells = W := ⟨_, rfl⟩
          rw [hW8] at hst HRG HB8
          clear hW8
          go_wp2_with fail
          go_step3
          go_wp2_with fail
          simp only [Exit.jump]
          exact bodyPost_ret (results_agg_tmp (p := 2) (u := 3) (ty := 50) rfl _ _ R HV.zero.cells _ rfl HRG.out Tryd.underlying50 rfl (by kernel_rfl)) rfl ⟨HB8.out, .inr ⟨4, HJ.out, rfl⟩⟩
        · have HJ : Hid (parse l = (0, h6)) := Lib.hid (by rw [HP7.out, if_pos rfl])
          have hld := run_ldH HR7.out.2.1 (HV.cells_length HR7.out.1)
          have hst := run_stH (A := h6.cells.toArray) HT7.out (by simpa using HV.cells_length HR7.out.1) (HV.one _)
          have HRG := Lib.hid (range_stZ h6 HR7.out.1 HT7.out)
          have HB8 := Lib.hid (setCells_below R (by omega) h6.cells 0 W7 HB7.out)
          simp only at hst
          obtain ⟨W8, hW8⟩ : ∃ W, W7.setCells R 0 h6.cells = W := ⟨_, rfl⟩
          rw [hW8] at hst HRG HB8
          clear hW8
          go_wp2_with fail
          simp only [Exit.jump]
          exact bodyPost_ret (results_agg_tmp (p := 2) (u := 3) (ty := 50) rfl _ _ R h6.cells _ rfl HRG.out Tryd.underlying50 rfl (by rw [HV.cells_length HR7.out.1]; kernel_rfl)) rfl ⟨HB8.out, .inl (by rw [HJ.out]; exact ⟨rfl, rfl⟩)⟩
end Go.Proofs.YtilhioiocfllhaaDoor
