/- The walks of (*Head).tcp, udp, own, summed. -/
import Derived.Test.YtilhioiocfllhaaDoorHeadIp
import Derived.Test.YtilhioiocfllhaaDoorSumsPseudo
namespace Go.Proofs.YtilhioiocfllhaaDoor.HeadMath
open Go SumsMath
def tcpH (h : HV) (q : List UInt8) : Nat × HV :=
  if 4 * (byt q 12 / 16) < 20 ∨ (q.length : Int) < 4 * (byt q 12 / 16) then (4, h) else (0, { h with flags := byt q 13, body := h.part + 4 * (byt q 12 / 16) })
def udpH (h : HV) (q : List UInt8) : Nat × HV :=
  if two q 4 ≠ (q.length : Int) then (4, h) else (0, { h with body := h.part + 8 })
def ownH (h : HV) (q : List UInt8) : Nat × HV := if h.proto = 6 then tcpH h q else udpH h q
end Go.Proofs.YtilhioiocfllhaaDoor.HeadMath
namespace Go.Proofs.YtilhioiocfllhaaDoor
open Go.RowKit HeadMath SumsMath
set_option linter.unusedVariables false
set_option maxRecDepth 100000
attribute [local go_sem ↓] ldA_eq stA_eq stI_eq
attribute [local go_sem] there_setCells_rw there_setCell_rw run_stA_adr run_stI

theorem QB.part {W2 W : World} {B : Nat} {x : Value} (H : QB W2 B W) (hx : W.cell? ⟨B, 38, none⟩ = some x) (k : Nat) (hk : k ≠ 38) (v : Value) : (W.setCell ⟨B, k, none⟩ v).cell? ⟨B, 38, none⟩ = some x := by
  rw [World.cell?_setCell_other _ _ _ _ (fun e => hk (by cases e; rfl))]; exact hx

set_option maxHeartbeats 4000000 in
theorem tcp_any (B b off n c : Nat) (ad : Nat → Addr) (h : HV) (l : List UInt8) (w : World) (hl : l.length = n) (h20 : 20 ≤ n) (hn : n ≤ 300) (hp0 : 0 ≤ h.part) (hp1 : h.part ≤ 300)
    (HSS : ∀ w', w.grownBy w' (some B) → Sents w' ad) (H : HRec w B h) (hC : Cells w (some ⟨b, off, none⟩) l) (hbB : b ≠ B) :
    Calls Tryd.prog 75 #[.pointer (some ⟨B, 0, none⟩), .slice (some ⟨b, off, none⟩) n c] w (IpPost B ad w (tcpH h l)) := by
  have g3 := (HSS w (World.grownBy.refl _ _)).cell 3 _ rfl
  have c12 := byt_cell hl hC 12 (by omega)
  obtain ⟨y0, y1⟩ := byt_bd l 12
  have t0 : (20 : Int) ≤ (n : Int) := by omega
  have t1 : (12 : Int) < (n : Int) := by omega
  have t2 : (13 : Int) < (n : Int) := by omega
  have t3 : (n : Int) ≤ 300 := by omega
  obtain ⟨x, hx⟩ : ∃ x, byt l 12 = x := ⟨_, rfl⟩
  rw [hx] at y0 y1 c12
  have HX := Lib.hid hx
  have HN := Lib.hid hl
  obtain ⟨o, ho⟩ : ∃ o, 4 * (x / 16) = o := ⟨_, rfl⟩
  have o0 : 0 ≤ o := by omega
  have o1 : o ≤ 60 := by omega
  have hbi : x / 16 ≤ 15 := by omega
  have hbi0 : 0 ≤ x / 16 := by omega
  have HO : Hid (4 * (byt l 12 / 16) = o) := Lib.hid (by rw [hx]; exact ho)
  clear hx
  by_cases k : o < 20 ∨ (n : Int) < o
  · have hr : Hid (tcpH h l = (4, h)) := Lib.hid (by unfold tcpH; rw [HO.out, hl, if_pos k])
    clear HSS H hC hl
    by_cases k1 : o < 20
    · clear k
      go_enter Tryd.func75, Tryd.ntmps75
      go_wp2_with fail
      go_ret
      exact ⟨World.grownBy.refl _ _, .inr ⟨3, by rw [hr.out], rfl⟩⟩
    · have k2 : (n : Int) < o := by omega
      clear k
      go_enter Tryd.func75, Tryd.ntmps75
      go_wp2_with fail
      go_ret
      exact ⟨World.grownBy.refl _ _, .inr ⟨3, by rw [hr.out], rfl⟩⟩
  · have k1 : ¬ o < 20 := by omega
    have k2 : ¬ (n : Int) < o := by omega
    clear k
    obtain ⟨z0, z1⟩ := byt_bd l 13
    obtain ⟨x9, hx9⟩ : ∃ x, byt l 13 = x := ⟨_, rfl⟩
    rw [hx9] at z0 z1
    have HX9 := Lib.hid hx9
    obtain ⟨pt, hpt⟩ : ∃ x, h.part = x := ⟨_, rfl⟩
    rw [hpt] at hp0 hp1
    have HPT := Lib.hid hpt
    have HSW : Hid (∀ W, QB w B W → W.cell? ⟨B, 38, none⟩ = some (.int .i64 pt) → W.cell? ⟨b, off + 13, none⟩ = some (.int .u8 x9) ∧ W.cell? ⟨B, 38, none⟩ = some (.int .i64 pt) ∧ W.there B 37 1 ∧ W.there B 39 1) := Lib.hid fun W hq h38 =>
      ⟨by rw [byt_cell hl (hq.cells hC hbB) 13 (by omega), hx9], h38, hq.there 37 1 (by omega), hq.there 39 1 (by omega)⟩
    have HH := Lib.hid H
    have HB0 := Lib.hid (QB.of H (Below.refl w.heap.size w))
    have HB1 := Lib.hid (QB.of H (Below.refl w.heap.size w).drew)
    have h38 : w.cell? ⟨B, 38, none⟩ = some (.int .i64 pt) := by rw [← hpt]; exact H.at.2.2.2.2.2.1
    have H38 := Lib.hid h38
    have H38' : Hid (w.drew.cell? ⟨B, 38, none⟩ = some (.int .i64 pt)) := Lib.hid h38
    clear HSS H hC hl hx9 hpt
    go_enter Tryd.func75, Tryd.ntmps75
    go_wp2_with fail
    go_region_held3 (fun W => W.cell? ⟨b, off + 13, none⟩ = some (.int .u8 x9) ∧ W.cell? ⟨B, 38, none⟩ = some (.int .i64 pt) ∧ W.there B 37 1 ∧ W.there B 39 1) (first | exact HSW.out _ HB0.out H38.out | exact HSW.out _ HB1.out H38'.out | exact HSW.out _ (HB1.out.set _ _) (HB1.out.part H38'.out _ (by decide) _) | exact HSW.out _ ((HB1.out.set _ _).set _ _) ((HB1.out.set _ _).part (HB1.out.part H38'.out _ (by decide) _) _ (by decide) _) | fail) (fail)
    have hw9 : IntKind.i64.wrap x9 = x9 := by rw [IntKind.wrap_i64]; omega
    have hw8 : IntKind.i64.wrap (pt + o) = pt + o := by rw [IntKind.wrap_i64]; omega
    rw [hw9, hw8]
    have HRR : Hid (HRec ((w.setCell ⟨B, 37, none⟩ (.int .i64 x9)).setCell ⟨B, 39, none⟩ (.int .i64 (pt + o))).drew B { h with flags := x9, body := pt + o }) := Lib.hid ((HH.out.flags x9).body (pt + o))
    have HQ : Hid (w.grownBy ((w.setCell ⟨B, 37, none⟩ (.int .i64 x9)).setCell ⟨B, 39, none⟩ (.int .i64 (pt + o))).drew (some B)) := Lib.hid (((HB0.out.set 37 (.int .i64 x9)).set 39 (.int .i64 (pt + o))).1.trans (grown_drewN _ 1 _))
    have hr : Hid (tcpH h l = (0, { h with flags := x9, body := pt + o })) := Lib.hid (by unfold tcpH; rw [HO.out, HN.out, if_neg (by omega), HX9.out, HPT.out])
    go_wp2_with fail
    go_ret
    exact ⟨HQ.out, .inl (by rw [hr.out]; exact ⟨rfl, rfl, HRR.out⟩)⟩

set_option maxHeartbeats 4000000 in
theorem udp_any (B b off n c : Nat) (ad : Nat → Addr) (h : HV) (l : List UInt8) (w : World) (hl : l.length = n) (h20 : 8 ≤ n) (hn : n ≤ 300) (hp0 : 0 ≤ h.part) (hp1 : h.part ≤ 300)
    (HSS : ∀ w', w.grownBy w' (some B) → Sents w' ad) (H : HRec w B h) (hC : Cells w (some ⟨b, off, none⟩) l) (hbB : b ≠ B) :
    Calls Tryd.prog 76 #[.pointer (some ⟨B, 0, none⟩), .slice (some ⟨b, off, none⟩) n c] w (IpPost B ad w (udpH h l)) := by
  have HSd : Hid (∀ d, Sents (w.drewN d) ad) := Lib.hid fun d => HSS _ (grown_drewN _ _ _)
  have HT2 : Hid (∀ w', Cells w' (some ⟨b, off, none⟩) l → Calls Tryd.prog 48 #[.slice (some ⟨b, off, none⟩) n c, .int .i64 4] w' fun e w'' => e = .returned (.int .i64 (two l 4)) ∧ ∃ d, w'' = w'.drewN d) := Lib.hid fun w' h => two_at b off n c 4 l w' hl (by omega) (by omega) h
  have HC0 := Lib.hid hC
  obtain ⟨v2, hv2⟩ : ∃ x, two l 4 = x := ⟨_, rfl⟩
  rw [hv2] at HT2
  have HV2 := Lib.hid hv2
  clear hv2
  by_cases k3 : v2 = (n : Int)
  case neg =>
    have hr : Hid (udpH h l = (4, h)) := Lib.hid (by unfold udpH; rw [if_pos (by rw [HV2.out, hl]; exact k3)])
    have k3'' : (v2 != (n : Int)) = true := by simpa using k3
    clear HSS H hC
    go_enter Tryd.func76, Tryd.ntmps76
    go_wp2_with (go_at_call 48; (with_reducible refine (HT2.out _ HC0.out).mono ?_); rintro e w' ⟨rfl, d2, rfl⟩; have g3 := (HSd.out d2).cell 3 _ rfl)
    go_ret
    exact ⟨grown_drewN _ _ _, .inr ⟨3, by rw [hr.out], rfl⟩⟩
  subst k3
  obtain ⟨pt, hpt⟩ : ∃ x, h.part = x := ⟨_, rfl⟩
  rw [hpt] at hp0 hp1
  have HPT := Lib.hid hpt
  have HH := Lib.hid H
  have HQd : Hid (∀ d, (w.drewN d).cell? ⟨B, 38, none⟩ = some (.int .i64 pt) ∧ (w.drewN d).there B 39 1) := Lib.hid fun d =>
    ⟨by rw [← hpt]; exact H.at.2.2.2.2.2.1, by have := there_part H.2.2 39 1 (by omega); rw [Nat.zero_add] at this; exact this⟩
  have hr : Hid (udpH h l = (0, { h with body := pt + 8 })) := Lib.hid (by unfold udpH; rw [HV2.out, hl, if_neg (by simp), hpt])
  have hw8 : IntKind.i64.wrap (pt + 8) = pt + 8 := by rw [IntKind.wrap_i64]; omega
  clear HSS H hC hpt hl
  go_enter Tryd.func76, Tryd.ntmps76
  go_wp2_with (go_at_call 48; (with_reducible refine (HT2.out _ HC0.out).mono ?_); rintro e w' ⟨rfl, d2, rfl⟩; obtain ⟨hq1, hq2⟩ := HQd.out d2)
  go_ret
  exact ⟨(grown_drewN w d2 _).trans (grown_setCells B [.int .i64 (pt + 8)] 39 _), .inl (by rw [hr.out]; exact ⟨rfl, rfl, (show HRec (w.drewN d2) B h from HH.out).body _⟩)⟩

set_option maxHeartbeats 4000000 in
theorem own_any (B b off n c : Nat) (ad : Nat → Addr) (h : HV) (l : List UInt8) (w : World) (hl : l.length = n) (h8 : 8 ≤ n) (h20 : h.proto = 6 → 20 ≤ n) (hn : n ≤ 300) (hp0 : 0 ≤ h.part) (hp1 : h.part ≤ 300)
    (HSS : ∀ w', w.grownBy w' (some B) → Sents w' ad) (H : HRec w B h) (hC : Cells w (some ⟨b, off, none⟩) l) (hbB : b ≠ B) :
    Calls Tryd.prog 49 #[.pointer (some ⟨B, 0, none⟩), .slice (some ⟨b, off, none⟩) n c] w (IpPost B ad w (ownH h l)) := by
  have f0 := H.at.1
  by_cases k : h.proto = 6
  · have HT := Lib.hid (tcp_any B b off n c ad h l w hl (h20 k) hn hp0 hp1 HSS H hC hbB)
    have e : ownH h l = tcpH h l := by unfold ownH; rw [if_pos k]
    rw [e]
    rw [k] at f0
    clear HSS H hC hl e k
    go_enter Tryd.func49, Tryd.ntmps49
    go_wp2_with (go_at_call 75; (with_reducible refine HT.out.mono ?_); rintro e w' ⟨hg, (⟨h0, rfl, hR⟩ | ⟨k, h0, rfl⟩)⟩)
    · go_ret
      exact ⟨hg, .inl ⟨h0, rfl, hR⟩⟩
    · go_ret
      exact ⟨hg, .inr ⟨k, h0, rfl⟩⟩
  · have HT := Lib.hid (udp_any B b off n c ad h l w hl h8 hn hp0 hp1 HSS H hC hbB)
    have e : ownH h l = udpH h l := by unfold ownH; rw [if_neg k]
    rw [e]
    have k' : (h.proto == 6) = false := by simpa using k
    clear HSS H hC hl e k
    go_enter Tryd.func49, Tryd.ntmps49
    go_wp2_with (go_at_call 76; (with_reducible refine HT.out.mono ?_); rintro e w' ⟨hg, (⟨h0, rfl, hR⟩ | ⟨k, h0, rfl⟩)⟩)
    · go_ret
      exact ⟨hg, .inl ⟨h0, rfl, hR⟩⟩
    · go_ret
      exact ⟨hg, .inr ⟨k, h0, rfl⟩⟩
end Go.Proofs.YtilhioiocfllhaaDoor
