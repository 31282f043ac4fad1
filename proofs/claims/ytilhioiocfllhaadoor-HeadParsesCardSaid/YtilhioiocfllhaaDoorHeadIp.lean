/- The walks of (*Head).fourth and (*Head).sixth. -/
import Derived.Test.YtilhioiocfllhaaDoorHeadRec
namespace Go.Proofs.YtilhioiocfllhaaDoor.HeadMath
open Go SumsMath
/-- How long the head with addresses of four bytes is. -/
def pn (l : List UInt8) : Nat := 4 * ((l.getD 0 0).toNat % 16)
theorem pn_byt (l : List UInt8) : 4 * (byt l 0 % 16) = (pn l : Int) := by unfold pn byt; omega
def ip4 (h : HV) (l : List UInt8) : Nat × HV :=
  if l.length < 20 then (2, h)
  else if pn l < 20 ∨ l.length < pn l ∨ two l 2 ≠ (l.length : Int) ∨ (two l 6 ≠ 0 ∧ two l 6 ≠ 16384) then (4, h)
  else if (fold (tot (l.take (pn l))) == 65535) = false then (5, h)
  else (0, { h with part := pn l, proto := byt l 9, six1 := false, l1 := adr ((l.drop 12).take 4), six2 := false, l2 := adr ((l.drop 16).take 4) })
def ip6 (h : HV) (l : List UInt8) : Nat × HV :=
  if l.length < 40 then (2, h)
  else if two l 4 ≠ (l.length : Int) - 40 then (4, h)
  else (0, { h with part := 40, proto := byt l 6, six1 := true, l1 := adr ((l.drop 8).take 16), six2 := true, l2 := adr ((l.drop 24).take 16) })
end Go.Proofs.YtilhioiocfllhaaDoor.HeadMath
namespace Go.Proofs.YtilhioiocfllhaaDoor
open Go.RowKit HeadMath SumsMath
set_option linter.unusedVariables false
set_option maxRecDepth 100000
attribute [local go_sem ↓] ldA_eq stA_eq

theorem and15 (x : Int) (h0 : 0 ≤ x) (h1 : x ≤ 255) : bits .and .u8 x 15 = x % 16 :=
  bits_mask .u8 8 (by decide) (fun n h0 h1 => by simp [IntKind.wrap, IntKind.bits, IntKind.signed]; omega) 4 (by decide) x h0 (by omega)
theorem frag_ok (x : Int) (h : x = 0 ∨ x = 16384) : bits .andNot .i64 x 16384 = 0 := by
  rcases h with rfl | rfl <;> decide
theorem frag_no (x : Int) (h0 : 0 ≤ x) (h1 : x ≤ 65535) (h2 : x ≠ 0) (h3 : x ≠ 16384) : bits .andNot .i64 x 16384 ≠ 0 := by
  obtain ⟨a, rfl⟩ := Int.eq_ofNat_of_zero_le h0
  intro h
  have e : bits .andNot .i64 (a : Int) 16384 = IntKind.i64.wrap (((BitVec.ofNat 64 a &&& ~~~ 16384#64).toNat : Nat) : Int) := by
    simp only [bits, BitVec.ofInt_natCast]; rfl
  rw [e] at h
  have hle : (BitVec.ofNat 64 a &&& ~~~ 16384#64).toNat ≤ a := by
    rw [BitVec.toNat_and, BitVec.toNat_ofNat]
    exact Nat.le_trans Nat.and_le_left (Nat.mod_le _ _)
  have hz : (BitVec.ofNat 64 a &&& ~~~ 16384#64).toNat = 0 := by
    generalize (BitVec.ofNat 64 a &&& ~~~ 16384#64).toNat = V at h hle
    rw [IntKind.wrap_i64] at h
    omega
  have hv : BitVec.ofNat 64 a &&& ~~~ 16384#64 = 0#64 := BitVec.eq_of_toNat_eq (by rw [hz]; rfl)
  have hb : ∀ i, i < 64 → i ≠ 14 → a.testBit i = false := fun i hi hne => by
    have h1 : (BitVec.ofNat 64 a &&& ~~~ 16384#64).getLsbD i = false := by rw [hv]; simp
    rw [BitVec.getLsbD_and, BitVec.getLsbD_not, BitVec.getLsbD_ofNat] at h1
    have h2 : (16384#64).getLsbD i = false := by
      rw [show (16384#64) = BitVec.twoPow 64 14 from by decide, BitVec.getLsbD_twoPow]
      simp; omega
    rw [h2] at h1
    simpa [hi] using h1
  have h16 : a < 2 ^ 16 := by omega
  have hb2 : ∀ i, i ≠ 14 → a.testBit i = false := fun i hne => by
    by_cases hi : i < 64
    · exact hb i hi hne
    · exact Nat.testBit_lt_two_pow (Nat.lt_of_lt_of_le h16 (Nat.pow_le_pow_right (by decide) (by omega)))
  by_cases h14 : a.testBit 14 = true
  · have : a = 2 ^ 14 := Nat.eq_of_testBit_eq fun i => by
      rw [Nat.testBit_two_pow]
      by_cases hi : i = 14
      · subst hi; simp [h14]
      · rw [hb2 i hi]; simp; omega
    omega
  · have : a = 0 := Nat.eq_of_testBit_eq fun i => by
      rw [Nat.zero_testBit]
      by_cases hi : i = 14
      · subst hi; simpa using h14
      · exact hb2 i hi
    omega
theorem there_setCells_rw {w : World} {b' o' n : Nat} (h : w.there b' o' n) (b o : Nat) (vs : List Value) : (w.setCells b o vs).there b' o' n = True := eq_true (World.there_setCells h b o vs)
theorem there_setCell_rw {w : World} {b' o' n : Nat} (h : w.there b' o' n) (b o : Nat) (v : Value) : (w.setCell ⟨b, o, none⟩ v).there b' o' n = True := eq_true (World.there_setCells h b o [v])
theorem run_stA_adr (w : World) (b o : Nat) (six : Bool) (l : List UInt8) (hl : l.length = 16) (ht : w.there b o 17) : Sem.run Tryd.prog (stA (.pointer (some ⟨b, o, none⟩)) (.agg (adrC six l).toArray)) w = .ok () (w.setCells b o (adrC six l)) :=
  run_stA ht (by simpa using adr_size six l hl) (adr_one six l)
def stI (x v : Value) : Sem Unit := Instr.storeAt 3 x v
theorem stI_eq (x v : Value) : Instr.storeAt 3 x v = stI x v := rfl
theorem run_stI (w : World) (b o : Nat) (x : Int) (ht : w.there b o 1) : Sem.run Tryd.prog (stI (.pointer (some ⟨b, o, none⟩)) (.int .i64 x)) w = .ok () (w.setCell ⟨b, o, none⟩ (.int .i64 x)) := by
  have h := ht 0 (by omega)
  rw [Nat.add_zero] at h
  obtain ⟨h1, h2⟩ := h
  obtain ⟨u, hu⟩ := Option.isSome_iff_exists.1 h1
  rw [← stI_eq]
  simp [go_sem, hu, h2]
/-- What a region that stores into a head keeps. -/
def QB (W2 : World) (B : Nat) (W : World) : Prop := W2.grownBy W (some B) ∧ W.there B 0 40
theorem QB.of {W2 W : World} {B : Nat} {h : HV} (H : HRec W2 B h) (hb : Below W2.heap.size W2 W) : QB W2 B W := ⟨grown_below hb _, (H.below hb).2.2⟩
theorem QB.set {W2 W : World} {B : Nat} (H : QB W2 B W) (o : Nat) (v : Value) : QB W2 B (W.setCell ⟨B, o, none⟩ v) := ⟨H.1.trans (grown_setCells B [v] o W), World.there_setCells H.2 B o [v]⟩
theorem QB.sets {W2 W : World} {B : Nat} (H : QB W2 B W) (o : Nat) (vs : List Value) : QB W2 B (W.setCells B o vs) := ⟨H.1.trans (grown_setCells B vs o W), World.there_setCells H.2 B o vs⟩
theorem QB.there {W2 W : World} {B : Nat} (H : QB W2 B W) (k m : Nat) (hk : k + m ≤ 40) : W.there B k m := by
  have := there_part H.2 k m hk
  rwa [Nat.zero_add] at this
theorem QB.cells {W2 W : World} {B b off : Nat} {l : List UInt8} (H : QB W2 B W) (h : Cells W2 (some ⟨b, off, none⟩) l) (hne : b ≠ B) : Cells W (some ⟨b, off, none⟩) l := h.grown H.1 hne
attribute [local go_sem ↓] stI_eq
attribute [local go_sem] run_stI
attribute [local go_sem] there_setCells_rw there_setCell_rw run_stA_adr
def IpPost (B : Nat) (adr : Nat → Addr) (w : World) (r : Nat × HV) (e : Ending) (w' : World) : Prop :=
  w.grownBy w' (some B) ∧ ((r.1 = 0 ∧ e = .returned .nilIface ∧ HRec w' B r.2) ∨ ∃ k, r.1 = k + 1 ∧ e = .returned (errV adr k))

set_option maxHeartbeats 4000000 in
theorem fourth_any (B b off n c : Nat) (ad : Nat → Addr) (h : HV) (l : List UInt8) (w : World) (hl : l.length = n) (hn : n ≤ 300) (hnc : n ≤ c) (hcm : c ≤ 9223372036854775807)
    (HSS : ∀ w', w.grownBy w' (some B) → Sents w' ad) (H : HRec w B h) (hC : Cells w (some ⟨b, off, none⟩) l) (hbB : b ≠ B) :
    Calls Tryd.prog 45 #[.pointer (some ⟨B, 0, none⟩), .slice (some ⟨b, off, none⟩) n c] w (IpPost B ad w (ip4 h l)) := by
  have HS0 := Lib.hid (HSS w (World.grownBy.refl _ _))
  by_cases h20 : n < 20
  · have hr : Hid (ip4 h l = (2, h)) := Lib.hid (by unfold ip4; rw [if_pos (by omega)])
    have g1 := HS0.out.cell 1 _ rfl
    have t1 : (n : Int) < 20 := by omega
    clear HSS H hC
    go_enter Tryd.func45, Tryd.ntmps45
    go_wp2_with fail
    go_ret
    exact ⟨World.grownBy.refl _ _, .inr ⟨1, by rw [hr.out], rfl⟩⟩
  have t1 : ¬ (n : Int) < 20 := by omega
  have t2 : (n : Int) ≤ 300 := by omega
  have b0 := byt_bd l 0
  obtain ⟨b00, b01⟩ := b0
  have hp := pn_byt l
  have ha := and15 _ b00 b01
  have c0 := byt_cell hl hC 0 (by omega)
  rw [Nat.add_zero] at c0
  obtain ⟨f0, _, _, _, _, f38, _⟩ := H.at
  have z38 := H.fr 38 (by omega)
  have q38 := there_part H.2.2 38 1 (by omega)
  rw [Nat.zero_add] at q38
  obtain ⟨W1, hW1⟩ : ∃ W, w.setCell ⟨B, 38, none⟩ (.int .i64 (pn l : Int)) = W := ⟨_, rfl⟩
  have HG1 := Lib.hid (show w.grownBy W1 (some B) from by rw [← hW1]; exact grown_setCells B [.int .i64 (pn l : Int)] 38 w)
  have HR1 := Lib.hid (show HRec W1 B { h with part := pn l } from by rw [← hW1]; exact H.part _)
  have HS1 := Lib.hid (HSS W1 HG1.out)
  have HC1 := Lib.hid (hC.grown HG1.out hbB)
  obtain ⟨_, _, _, _, _, f38', _⟩ := HR1.out.at
  have hpb : pn l ≤ 60 := by unfold pn; omega
  obtain ⟨p, hpe⟩ : ∃ p, pn l = p := ⟨_, rfl⟩
  have HPE := Lib.hid hpe
  rw [hpe] at hp hW1 HR1 f38' hpb
  have p60 : (p : Int) ≤ 60 := by omega
  have p0 : (0 : Int) ≤ (p : Int) := by omega
  have g3 := HS1.out.cell 3 _ rfl
  clear hpe H hC
  obtain ⟨x0, hx0⟩ : ∃ x, byt l 0 = x := ⟨_, rfl⟩
  rw [hx0] at b00 b01 hp ha c0
  have HX0 := Lib.hid hx0
  clear hx0
  by_cases k1 : p < 20
  · have hr : Hid (ip4 h l = (4, h)) := Lib.hid (by unfold ip4; rw [if_neg (by omega), if_pos (.inl (by rw [HPE.out]; exact k1))])
    have t3 : (p : Int) < 20 := by omega
    go_enter Tryd.func45, Tryd.ntmps45
    go_wp2_with fail
    go_ret
    exact ⟨HG1.out, .inr ⟨3, by rw [hr.out], rfl⟩⟩
  have t3 : ¬ (p : Int) < 20 := by omega
  by_cases k2 : n < p
  · have hr : Hid (ip4 h l = (4, h)) := Lib.hid (by unfold ip4; rw [if_neg (by omega), if_pos (.inr (.inl (by rw [HPE.out, hl]; exact k2)))])
    have t4 : (n : Int) < (p : Int) := by omega
    go_enter Tryd.func45, Tryd.ntmps45
    go_wp2_with fail
    go_ret
    exact ⟨HG1.out, .inr ⟨3, by rw [hr.out], rfl⟩⟩
  have t4 : ¬ (n : Int) < (p : Int) := by omega
  have HT2 : Hid (∀ w', Cells w' (some ⟨b, off, none⟩) l → Calls Tryd.prog 48 #[.slice (some ⟨b, off, none⟩) n c, .int .i64 2] w' fun e w'' => e = .returned (.int .i64 (two l 2)) ∧ ∃ d, w'' = w'.drewN d) := Lib.hid fun w' h => two_at b off n c 2 l w' hl (by omega) (by omega) h
  have HT6 : Hid (∀ w', Cells w' (some ⟨b, off, none⟩) l → Calls Tryd.prog 48 #[.slice (some ⟨b, off, none⟩) n c, .int .i64 6] w' fun e w'' => e = .returned (.int .i64 (two l 6)) ∧ ∃ d, w'' = w'.drewN d) := Lib.hid fun w' h => two_at b off n c 6 l w' hl (by omega) (by omega) h
  have HCd : Hid (∀ d, Cells (W1.drewN d) (some ⟨b, off, none⟩) l) := Lib.hid fun d => HC1.out
  have HCdd : Hid (∀ d e, Cells ((W1.drewN d).drewN e) (some ⟨b, off, none⟩) l) := Lib.hid fun d e => HC1.out
  obtain ⟨v60, v61⟩ := two_bd l 6
  obtain ⟨v2, hv2⟩ : ∃ x, two l 2 = x := ⟨_, rfl⟩
  obtain ⟨v6, hv6⟩ : ∃ x, two l 6 = x := ⟨_, rfl⟩
  rw [hv2] at HT2
  rw [hv6] at HT6 v60 v61
  have HV2 := Lib.hid hv2
  have HV6 := Lib.hid hv6
  clear hv2 hv6
  by_cases k3 : v2 = (n : Int)
  case neg =>
    have hr : Hid (ip4 h l = (4, h)) := Lib.hid (by unfold ip4; rw [if_neg (by omega), if_pos (.inr (.inr (.inl (by rw [HV2.out, hl]; exact k3))))])
    go_enter Tryd.func45, Tryd.ntmps45
    go_wp2_with (go_at_call 48; first | ((with_reducible refine (HT2.out _ (by first | exact HC1.out | exact HCd.out _)).mono ?_); rintro e w' ⟨rfl, d2, rfl⟩) | ((with_reducible refine (HT6.out _ (by first | exact HC1.out | exact HCd.out _ | exact HCdd.out _ _)).mono ?_); rintro e w' ⟨rfl, d6, rfl⟩))
    go_ret
    exact ⟨HG1.out.trans (grown_drewN _ _ _), .inr ⟨3, by rw [hr.out], rfl⟩⟩
  subst k3
  by_cases k4 : v6 = 0 ∨ v6 = 16384
  case neg =>
    have hr : Hid (ip4 h l = (4, h)) := Lib.hid (by unfold ip4; rw [if_neg (by omega), if_pos (.inr (.inr (.inr (by rw [HV6.out]; omega))))])
    have hfr : (bits .andNot .i64 v6 16384 != 0) = true := by have := frag_no v6 v60 v61 (by omega) (by omega); simpa using this
    clear k4
    go_enter Tryd.func45, Tryd.ntmps45
    go_wp2_with (go_at_call 48; first | ((with_reducible refine (HT2.out _ (by first | exact HC1.out | exact HCd.out _)).mono ?_); rintro e w' ⟨rfl, d2, rfl⟩) | ((with_reducible refine (HT6.out _ (by first | exact HC1.out | exact HCd.out _ | exact HCdd.out _ _)).mono ?_); rintro e w' ⟨rfl, d6, rfl⟩))
    go_ret
    exact ⟨HG1.out.trans (grown_drewN _ _ _), .inr ⟨3, by rw [hr.out], rfl⟩⟩
  have hfr := frag_ok v6 k4
  have HADD : Hid (∀ w', Cells w' (some ⟨b, off, none⟩) l → Calls Tryd.prog 73 #[.int .i64 0, .slice (some ⟨b, off, none⟩) p c] w' fun e w'' => e = .returned (.int .i64 (tot (l.take p))) ∧ Below w'.heap.size w' w'') := Lib.hid fun w' h => by
    have := add_cells 0 (some ⟨b, off, none⟩) p c (l.take p) w' (by rw [List.length_take]; omega) (by omega) (by omega) hcm (h.left' p)
    rwa [show cl 0 + tot (l.take p) = tot (l.take p) by simp [cl]] at this
  have HRT := Lib.hid fun w' => right_any (tot (l.take p)) (Lib.hid (tot_lt _ (by rw [List.length_take]; omega))) w'
  have hgd : Hid ((fold (tot (l.take (pn l))) == 65535) = (fold (tot (l.take p)) == 65535)) := Lib.hid (by rw [HPE.out])
  obtain ⟨s, hs⟩ : ∃ s, tot (l.take p) = s := ⟨_, rfl⟩
  rw [hs] at HADD HRT hgd
  obtain ⟨g, hg⟩ : ∃ g, (fold s == 65535) = g := ⟨_, rfl⟩
  rw [hg] at HRT hgd
  clear hs hg
  have HSd : Hid (∀ d W2, Below (W1.drewN d).heap.size (W1.drewN d) W2 → Sents W2 ad) := Lib.hid fun d W2 hb => (HSS _ (HG1.out.trans (grown_drewN _ _ _))).below hb
  have t5 : (p : Int) ≤ (c : Int) := by omega
  cases g
  · have hr : Hid (ip4 h l = (5, h)) := Lib.hid (by unfold ip4; rw [if_neg (by omega), if_neg (by rw [HPE.out, HV2.out, HV6.out]; omega), if_pos hgd.out])
    go_enter Tryd.func45, Tryd.ntmps45
    go_wp2_with (first | (go_at_call 48; first | ((with_reducible refine (HT2.out _ (by first | exact HC1.out | exact HCd.out _)).mono ?_); rintro e w' ⟨rfl, d2, rfl⟩) | ((with_reducible refine (HT6.out _ (by first | exact HC1.out | exact HCd.out _ | exact HCdd.out _ _)).mono ?_); rintro e w' ⟨rfl, d6, rfl⟩)) | (go_at_call 73; (with_reducible refine (HADD.out _ (by first | exact HC1.out | exact HCd.out _)).mono ?_); rintro e W2 ⟨rfl, hb2⟩; have HB2 := Lib.hid hb2; have g4 := (HSd.out _ _ hb2).cell 4 _ rfl; clear hb2) | (go_at_call 72; (with_reducible refine (HRT.out _).mono ?_); rintro e w' ⟨rfl, rfl⟩))
    go_ret
    exact ⟨(HG1.out.trans (grown_drewN _ _ _)).trans (grown_below HB2.out _), .inr ⟨4, by rw [hr.out], rfl⟩⟩
  · go_enter Tryd.func45, Tryd.ntmps45
    go_wp2_with (first | (go_at_call 48; first | ((with_reducible refine (HT2.out _ (by first | exact HC1.out | exact HCd.out _)).mono ?_); rintro e w' ⟨rfl, d2, rfl⟩) | ((with_reducible refine (HT6.out _ (by first | exact HC1.out | exact HCd.out _ | exact HCdd.out _ _)).mono ?_); rintro e w' ⟨rfl, d6, rfl⟩)) | (go_at_call 73; (with_reducible refine (HADD.out _ (by first | exact HC1.out | exact HCd.out _)).mono ?_); rintro e W2 ⟨rfl, hb2⟩; have HB2 := Lib.hid hb2; have g4 := (HSd.out _ _ hb2).cell 4 _ rfl; clear hb2) | (go_at_call 72; (with_reducible refine (HRT.out _).mono ?_); rintro e w' ⟨rfl, rfl⟩))
    have HR2 := Lib.hid ((show HRec (W1.drewN (d2 + d6)) B { h with part := p } from HR1.out).below HB2.out)
    have HG2 := Lib.hid ((HG1.out.trans (grown_drewN W1 (d2 + d6) _)).trans (grown_below HB2.out _))
    have HC2 := Lib.hid ((show Cells (W1.drewN (d2 + d6)) (some ⟨b, off, none⟩) l from HC1.out).below HB2.out rfl)
    have h9 : Hid (byt l 9 = byt l 9) := Lib.hid rfl
    obtain ⟨y0, y1⟩ := byt_bd l 9
    obtain ⟨x9, hx9⟩ : ∃ x, byt l 9 = x := ⟨_, rfl⟩
    have HSW : Hid (∀ W, QB W2 B W → W.cell? ⟨b, off + 9, none⟩ = some (.int .u8 x9) ∧ W.there B 0 1 ∧ W.there B 1 17 ∧ W.there B 19 17) := Lib.hid fun W hq =>
      ⟨by rw [byt_cell hl (hq.cells HC2.out hbB) 9 (by omega), hx9], hq.there 0 1 (by omega), hq.there 1 17 (by omega), hq.there 19 17 (by omega)⟩
    rw [hx9] at y0 y1
    have HX9 := Lib.hid hx9
    clear hx9 h9
    have HA1 := Lib.hid fun W (hb : Below W2.heap.size W2 W) => address_4 b (off + 12) (c - 12) ((l.drop 12).take 4) W (by rw [List.length_take, List.length_drop]; omega) ((HC2.out.below hb rfl).part 12 4)
    have HA2 := Lib.hid fun W (hb : Below W2.heap.size W2 W) => address_4 b (off + 16) (c - 16) ((l.drop 16).take 4) W (by rw [List.length_take, List.length_drop]; omega) ((HC2.out.below hb rfl).part 16 4)
    have hL1 := adr_length ((l.drop 12).take 4) (by rw [List.length_take]; omega)
    have hL2 := adr_length ((l.drop 16).take 4) (by rw [List.length_take]; omega)
    obtain ⟨L1, hL1e⟩ : ∃ L, HeadMath.adr ((l.drop 12).take 4) = L := ⟨_, rfl⟩
    obtain ⟨L2, hL2e⟩ : ∃ L, HeadMath.adr ((l.drop 16).take 4) = L := ⟨_, rfl⟩
    rw [hL1e] at HA1 hL1
    rw [hL2e] at HA2 hL2
    have HE1 := Lib.hid hL1e
    have HE2 := Lib.hid hL2e
    clear hL1e hL2e
    have t6 : (16 : Int) ≤ (c : Int) := by omega
    have t8 : (9 : Int) < (n : Int) := by omega
    have t9 : ¬ c = 12 := by omega
    have t10 : ¬ c = 16 := by omega
    have t7 : (20 : Int) ≤ (c : Int) := by omega
    have HB0 := Lib.hid (Below.refl W2.heap.size W2)
    go_region_held3 (fun W => W.cell? ⟨b, off + 9, none⟩ = some (.int .u8 x9) ∧ W.there B 0 1 ∧ W.there B 1 17 ∧ W.there B 19 17) (first | exact HSW.out _ (QB.of HR2.out HBb.out) | exact HSW.out _ (QB.of HR2.out HBa.out) | exact HSW.out _ (QB.of HR2.out HB0.out) | exact HSW.out _ (QB.of HR2.out HB0.out.drew) | exact HSW.out _ ((QB.of HR2.out HBb.out).set _ _) | exact HSW.out _ (((QB.of HR2.out HBb.out).set _ _).sets _ _) | exact HSW.out _ ((((QB.of HR2.out HBb.out).set _ _).sets _ _).sets _ _) | fail) ((go_at_call 74; (first | ((with_reducible refine (HA1.out _ HB0.out.drew).mono ?_); rintro e Wa ⟨rfl, hba⟩; have HBa := Lib.hid (HB0.out.drew.trans (hba.mono HB0.out.drew.size)); clear hba) | ((with_reducible refine (HA2.out _ HBa.out).mono ?_); rintro e Wb ⟨rfl, hbb⟩; have HBb := Lib.hid (HBa.out.trans (hbb.mono HBa.out.size)); clear hbb) | fail)))
    have hw9 : IntKind.i64.wrap x9 = x9 := by rw [IntKind.wrap_i64]; omega
    rw [hw9]
    have HQ := Lib.hid ((((QB.of HR2.out HBb.out).set 0 (.int .i64 x9)).sets 1 (adrC false L1)).sets 19 (adrC false L2)).1
    have HRR := Lib.hid ((((HR2.out.below HBb.out).proto x9).addr1 false L1 hL1).addr2 false L2 hL2)
    have hr : Hid (ip4 h l = (0, { h with part := p, proto := x9, six1 := false, l1 := L1, six2 := false, l2 := L2 })) := Lib.hid (by unfold ip4; rw [if_neg (by omega), if_neg (by rw [HPE.out, HV2.out, HV6.out]; omega), if_neg (by rw [hgd.out]; simp), HPE.out, HX9.out, HE1.out, HE2.out])
    go_wp2_with fail
    go_ret
    exact ⟨HG2.out.trans HQ.out, .inl (by rw [hr.out]; exact ⟨rfl, rfl, HRR.out⟩)⟩

set_option maxHeartbeats 4000000 in
theorem sixth_any (B b off n c : Nat) (ad : Nat → Addr) (h : HV) (l : List UInt8) (w : World) (hl : l.length = n) (hn : n ≤ 300) (hnc : n ≤ c) (hcm : c ≤ 9223372036854775807)
    (HSS : ∀ w', w.grownBy w' (some B) → Sents w' ad) (H : HRec w B h) (hC : Cells w (some ⟨b, off, none⟩) l) (hbB : b ≠ B) :
    Calls Tryd.prog 46 #[.pointer (some ⟨B, 0, none⟩), .slice (some ⟨b, off, none⟩) n c] w (IpPost B ad w (ip6 h l)) := by
  have HS0 := Lib.hid (HSS w (World.grownBy.refl _ _))
  by_cases h20 : n < 40
  · have hr : Hid (ip6 h l = (2, h)) := Lib.hid (by unfold ip6; rw [if_pos (by omega)])
    have g1 := HS0.out.cell 1 _ rfl
    have t1 : (n : Int) < 40 := by omega
    clear HSS H hC
    go_enter Tryd.func46, Tryd.ntmps46
    go_wp2_with fail
    go_ret
    exact ⟨World.grownBy.refl _ _, .inr ⟨1, by rw [hr.out], rfl⟩⟩
  have t1 : ¬ (n : Int) < 40 := by omega
  have t2 : (n : Int) ≤ 300 := by omega
  have t0 : (40 : Int) ≤ (n : Int) := by omega
  have HT2 : Hid (∀ w', Cells w' (some ⟨b, off, none⟩) l → Calls Tryd.prog 48 #[.slice (some ⟨b, off, none⟩) n c, .int .i64 4] w' fun e w'' => e = .returned (.int .i64 (two l 4)) ∧ ∃ d, w'' = w'.drewN d) := Lib.hid fun w' h => two_at b off n c 4 l w' hl (by omega) (by omega) h
  have HC0 := Lib.hid hC
  have HSd : Hid (∀ d, Sents (w.drewN d) ad) := Lib.hid fun d => HSS _ (grown_drewN _ _ _)
  obtain ⟨v2, hv2⟩ : ∃ x, two l 4 = x := ⟨_, rfl⟩
  rw [hv2] at HT2
  have HV2 := Lib.hid hv2
  clear hv2
  by_cases k3 : v2 = (n : Int) - 40
  case neg =>
    have hr : Hid (ip6 h l = (4, h)) := Lib.hid (by unfold ip6; rw [if_neg (by omega), if_pos (by rw [HV2.out, hl]; exact k3)])
    have k3' : (v2 == (n : Int) - 40) = false := by simpa using k3
    have k3'' : (v2 != (n : Int) - 40) = true := by simpa using k3
    clear HSS H hC
    go_enter Tryd.func46, Tryd.ntmps46
    go_wp2_with (go_at_call 48; (with_reducible refine (HT2.out _ HC0.out).mono ?_); rintro e w' ⟨rfl, d2, rfl⟩; have g3 := (HSd.out d2).cell 3 _ rfl)
    go_ret
    exact ⟨grown_drewN _ _ _, .inr ⟨3, by rw [hr.out], rfl⟩⟩
  have HK3 := Lib.hid k3
  obtain ⟨f0, _, _, _, _, f38, _⟩ := H.at
  have q38 := there_part H.2.2 38 1 (by omega)
  rw [Nat.zero_add] at q38
  have k3' : (v2 != (n : Int) - 40) = false := by simpa using k3
  clear k3
  have HH := Lib.hid H
  clear HSS H hC
  go_enter Tryd.func46, Tryd.ntmps46
  go_wp2_with (go_at_call 48; (with_reducible refine (HT2.out _ HC0.out).mono ?_); rintro e w' ⟨rfl, d2, rfl⟩)
  obtain ⟨W2, hW2⟩ : ∃ W, w.drewN d2 = W := ⟨_, rfl⟩
  have HR2 := Lib.hid (show HRec W2 B h from by rw [← hW2]; exact HH.out)
  have HG2 := Lib.hid (show w.grownBy W2 (some B) from by rw [← hW2]; exact grown_drewN _ _ _)
  have HC2 := Lib.hid (show Cells W2 (some ⟨b, off, none⟩) l from by rw [← hW2]; exact HC0.out)
  rw [hW2]
  clear hW2
  obtain ⟨y0, y1⟩ := byt_bd l 6
  obtain ⟨x9, hx9⟩ : ∃ x, byt l 6 = x := ⟨_, rfl⟩
  have HSW : Hid (∀ W, QB W2 B W → W.cell? ⟨b, off + 6, none⟩ = some (.int .u8 x9) ∧ W.there B 38 1 ∧ W.there B 0 1 ∧ W.there B 1 17 ∧ W.there B 19 17) := Lib.hid fun W hq =>
    ⟨by rw [byt_cell hl (hq.cells HC2.out hbB) 6 (by omega), hx9], hq.there 38 1 (by omega), hq.there 0 1 (by omega), hq.there 1 17 (by omega), hq.there 19 17 (by omega)⟩
  rw [hx9] at y0 y1
  have HX9 := Lib.hid hx9
  clear hx9
  have HA1 := Lib.hid fun W (hb : Below W2.heap.size W2 W) => address_16 b (off + 8) (c - 8) ((l.drop 8).take 16) W (by rw [List.length_take, List.length_drop]; omega) ((HC2.out.below hb rfl).part 8 16)
  have HA2 := Lib.hid fun W (hb : Below W2.heap.size W2 W) => address_16 b (off + 24) (c - 24) ((l.drop 24).take 16) W (by rw [List.length_take, List.length_drop]; omega) ((HC2.out.below hb rfl).part 24 16)
  have hL1 := adr_length ((l.drop 8).take 16) (by rw [List.length_take]; omega)
  have hL2 := adr_length ((l.drop 24).take 16) (by rw [List.length_take]; omega)
  obtain ⟨L1, hL1e⟩ : ∃ L, HeadMath.adr ((l.drop 8).take 16) = L := ⟨_, rfl⟩
  obtain ⟨L2, hL2e⟩ : ∃ L, HeadMath.adr ((l.drop 24).take 16) = L := ⟨_, rfl⟩
  rw [hL1e] at HA1 hL1
  rw [hL2e] at HA2 hL2
  have HE1 := Lib.hid hL1e
  have HE2 := Lib.hid hL2e
  clear hL1e hL2e
  have t6 : (24 : Int) ≤ (c : Int) := by omega
  have t8 : (6 : Int) < (n : Int) := by omega
  have t9 : ¬ c = 8 := by omega
  have t10 : ¬ c = 24 := by omega
  have t7 : (40 : Int) ≤ (c : Int) := by omega
  have HB0 := Lib.hid (Below.refl W2.heap.size W2)
  go_region_held3 (fun W => W.cell? ⟨b, off + 6, none⟩ = some (.int .u8 x9) ∧ W.there B 38 1 ∧ W.there B 0 1 ∧ W.there B 1 17 ∧ W.there B 19 17) (first | exact HSW.out _ (QB.of HR2.out HBb.out) | exact HSW.out _ (QB.of HR2.out HBa.out) | exact HSW.out _ (QB.of HR2.out HB0.out) | exact HSW.out _ (QB.of HR2.out HB0.out.drew) | exact HSW.out _ ((QB.of HR2.out HBb.out).set _ _) | exact HSW.out _ (((QB.of HR2.out HBb.out).set _ _).set _ _) | exact HSW.out _ ((((QB.of HR2.out HBb.out).set _ _).set _ _).sets _ _) | exact HSW.out _ (((((QB.of HR2.out HBb.out).set _ _).set _ _).sets _ _).sets _ _) | fail) ((go_at_call 74; (first | ((with_reducible refine (HA1.out _ HB0.out.drew).mono ?_); rintro e Wa ⟨rfl, hba⟩; have HBa := Lib.hid (HB0.out.drew.trans (hba.mono HB0.out.drew.size)); clear hba) | ((with_reducible refine (HA2.out _ HBa.out).mono ?_); rintro e Wb ⟨rfl, hbb⟩; have HBb := Lib.hid (HBa.out.trans (hbb.mono HBa.out.size)); clear hbb) | fail)))
  have hw9 : IntKind.i64.wrap x9 = x9 := by rw [IntKind.wrap_i64]; omega
  rw [hw9]
  have HQ := Lib.hid (((((QB.of HR2.out HBb.out).set 38 (.int .i64 40)).set 0 (.int .i64 x9)).sets 1 (adrC true L1)).sets 19 (adrC true L2)).1
  have HRR := Lib.hid (((((HR2.out.below HBb.out).part 40).proto x9).addr1 true L1 hL1).addr2 true L2 hL2)
  have hr : Hid (ip6 h l = (0, { h with part := 40, proto := x9, six1 := true, l1 := L1, six2 := true, l2 := L2 })) := Lib.hid (by unfold ip6; rw [if_neg (by omega), if_neg (by rw [HV2.out, hl, HK3.out]; omega), HX9.out, HE1.out, HE2.out])
  go_wp2_with fail
  go_ret
  exact ⟨HG2.out.trans HQ.out, .inl (by rw [hr.out]; exact ⟨rfl, rfl, HRR.out⟩)⟩
end Go.Proofs.YtilhioiocfllhaaDoor
