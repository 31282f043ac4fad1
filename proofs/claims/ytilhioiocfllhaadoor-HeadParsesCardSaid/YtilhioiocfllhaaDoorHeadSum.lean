/- The walk of (*Head).summed. -/
import Derived.Test.YtilhioiocfllhaaDoorHeadOwn
namespace Go.Proofs.YtilhioiocfllhaaDoor.HeadMath
open Go SumsMath
/-- The pseudo bytes of a part. -/
def psd (h : HV) (n : Int) : List UInt8 := pseudo h.six1 (h.l1.take (asize h.six1)) (h.l2.take (asize h.six2)) h.proto n
def sumOk (h : HV) (q : List UInt8) : Bool := fold (tot (psd h (q.length : Int)) + tot q) == 65535
def summedB (h : HV) (q : List UInt8) : Bool := if h.proto = 17 ∧ two q 6 = 0 then !h.six1 else sumOk h q
end Go.Proofs.YtilhioiocfllhaaDoor.HeadMath
namespace Go.Proofs.YtilhioiocfllhaaDoor
open Go.RowKit HeadMath SumsMath
set_option linter.unusedVariables false
set_option maxRecDepth 100000
attribute [local go_sem ↓] loadAddr_eq
attribute [local go_sem] run_loadAddr

theorem psd_length (h : HV) (ho : h.ok) (n : Int) : (psd h n).length = asize h.six1 + asize h.six2 + tsize h.six1 := by
  unfold psd pseudo
  have h1 := ho.1
  have h2 := ho.2
  cases h.six1 <;> cases h.six2 <;> simp [asize, tsize, h1, h2]
set_option maxHeartbeats 4000000 in
theorem summed_any (B b off n c : Nat) (h : HV) (l : List UInt8) (w : World) (hl : l.length = n) (h8 : 8 ≤ n) (hn : n ≤ 300) (hnc : n ≤ c) (hcm : c ≤ 9223372036854775807) (hp : h.proto = 6 ∨ h.proto = 17)
    (H : HRec w B h) (hC : Cells w (some ⟨b, off, none⟩) l) :
    Calls Tryd.prog 51 #[.pointer (some ⟨B, 0, none⟩), .slice (some ⟨b, off, none⟩) n c] w fun e w' => e = .returned (.bool (summedB h l)) ∧ Below w.heap.size w w' := by
  have HC0 := Lib.hid hC
  have HH := Lib.hid H
  have HL := Lib.hid hl
  have f0 := H.at.1
  have f1 := H.at.2.1
  have HT6 : Hid (∀ w', Cells w' (some ⟨b, off, none⟩) l → Calls Tryd.prog 48 #[.slice (some ⟨b, off, none⟩) n c, .int .i64 6] w' fun e w'' => e = .returned (.int .i64 (two l 6)) ∧ ∃ d, w'' = w'.drewN d) := Lib.hid fun w' h => two_at b off n c 6 l w' hl (by omega) (by omega) h
  have HD : Hid (∀ d, Below w.heap.size w (w.drewN d)) := Lib.hid fun d => ⟨rfl, rfl, rfl, Nat.le_refl _, fun _ _ => rfl⟩
  by_cases k : h.proto = 17 ∧ two l 6 = 0
  · have hr : Hid (summedB h l = !h.six1) := Lib.hid (by unfold summedB; rw [if_pos k])
    obtain ⟨k1, k2⟩ := k
    rw [k1] at f0
    rw [k2] at HT6
    clear H hC hl hp k1 k2
    go_enter Tryd.func51, Tryd.ntmps51
    go_wp2_with (go_at_call 48; (with_reducible refine (HT6.out _ HC0.out).mono ?_); rintro e w' ⟨rfl, d2, rfl⟩)
    go_ret
    exact ⟨ret_bool hr.out.symm, HD.out _⟩
  have hr : Hid (summedB h l = sumOk h l) := Lib.hid (by unfold summedB; rw [if_neg k])
  -- the sum
  have HZ := Lib.hid (psd_length h H.1 (n : Int))
  have hbig : asize h.six1 + asize h.six2 + tsize h.six1 ≤ 40 := by cases h.six1 <;> cases h.six2 <;> decide
  have HBG := Lib.hid hbig
  clear hbig
  obtain ⟨A1, hA1⟩ : ∃ A, adrC h.six1 h.l1 = A := ⟨_, rfl⟩
  obtain ⟨A2, hA2⟩ : ∃ A, adrC h.six2 h.l2 = A := ⟨_, rfl⟩
  have HI1 := Lib.hid (show IsAddr A1 h.six1 h.l1 from by rw [← hA1]; exact isAddr_adrC _ _ H.1.1)
  have HI2 := Lib.hid (show IsAddr A2 h.six2 h.l2 from by rw [← hA2]; exact isAddr_adrC _ _ H.1.2)
  have g1 : gat 17 w B 1 = some A1 := by rw [← hA1]; exact gat_of_range H.range1 (adr_size _ _ H.1.1)
  have g2 : gat 17 w B 19 = some A2 := by rw [← hA2]; exact gat_of_range H.range2 (adr_size _ _ H.1.2)
  obtain ⟨pr, hpr⟩ : ∃ p, h.proto = p := ⟨_, rfl⟩
  have HP : Hid (∀ w', Calls Tryd.prog 77 #[.agg A1.toArray, .agg A2.toArray, .int .i64 pr, .int .i64 (n : Int)] w' fun e w'' => ∃ ao cp, e = .returned (.slice ao (asize h.six1 + asize h.six2 + tsize h.six1) cp) ∧ Below w'.heap.size w' w'' ∧ Cells w'' ao (psd h (n : Int)) ∧ asize h.six1 + asize h.six2 + tsize h.six1 ≤ cp ∧ cp ≤ maxLen) := Lib.hid fun w' => by
    refine (pseudo_any A1 A2 h.six1 h.six2 h.l1 h.l2 pr (n : Int) w' HI1.out HI2.out (by rw [← hpr]; rcases hp with e | e <;> rw [e] <;> decide) (by simp [Lit.wf, IntKind.min, IntKind.max, IntKind.signed, IntKind.bits]; omega)).mono ?_
    rintro e w'' ⟨v, rfl, hb, hO⟩
    obtain ⟨ao, cp, rfl, hc, _, _, h5, h6⟩ := own_cells hO
    exact ⟨ao, cp, rfl, hb, by unfold psd; rw [hpr]; exact hc, h5, h6⟩
  obtain ⟨m, hm⟩ : ∃ m, asize h.six1 + asize h.six2 + tsize h.six1 = m := ⟨_, rfl⟩
  rw [hm] at HZ HBG HP
  have hT0 : 0 ≤ tot (psd h (n : Int)) ∧ tot (psd h (n : Int)) ≤ 65535 * 40 := by have := tot_bd (psd h (n : Int)); rw [HZ.out] at this; have := HBG.out; omega
  have HADD : Hid (∀ ao cp w', Cells w' ao (psd h (n : Int)) → m ≤ cp → cp ≤ maxLen → Calls Tryd.prog 73 #[.int .i64 0, .slice ao m cp] w' fun e w'' => e = .returned (.int .i64 (tot (psd h (n : Int)))) ∧ Below w'.heap.size w' w'') := Lib.hid fun ao cp w' hc h1 h2 => by
    have := add_cells 0 ao m cp (psd h (n : Int)) w' HZ.out (by have := HBG.out; omega) h1 (by unfold maxLen at h2; omega) hc
    rwa [show cl 0 + tot (psd h (n : Int)) = tot (psd h (n : Int)) by simp [cl]] at this
  have HADD2 : Hid (∀ w', Cells w' (some ⟨b, off, none⟩) l → Calls Tryd.prog 73 #[.int .i64 (tot (psd h (n : Int))), .slice (some ⟨b, off, none⟩) n c] w' fun e w'' => e = .returned (.int .i64 (tot (psd h (n : Int)) + tot l)) ∧ Below w'.heap.size w' w'') := Lib.hid fun w' hc => by
    have := add_cells (tot (psd h (n : Int))) (some ⟨b, off, none⟩) n c l w' hl (by omega) hnc hcm hc
    rwa [show cl (tot (psd h (n : Int))) = tot (psd h (n : Int)) by unfold cl; rw [if_neg (by omega), if_neg (by omega)]] at this
  have HRT := Lib.hid fun w' => right_any (tot (psd h (n : Int)) + tot l) (Lib.hid (by have := tot_bd l; omega)) w'
  have HS : Hid (sumOk h l = (fold (tot (psd h (n : Int)) + tot l) == 65535)) := Lib.hid (by unfold sumOk; rw [hl])
  obtain ⟨s1, hs1⟩ : ∃ s, tot (psd h (n : Int)) = s := ⟨_, rfl⟩
  rw [hs1] at HADD HADD2 HRT HS
  obtain ⟨s2, hs2⟩ : ∃ s, s1 + tot l = s := ⟨_, rfl⟩
  rw [hs2] at HADD2 HRT HS
  obtain ⟨g, hg⟩ : ∃ g, (fold s2 == 65535) = g := ⟨_, rfl⟩
  rw [hg] at HRT HS
  rw [hpr] at f0 hp
  have HSW : Hid (∀ W, Below w.heap.size w W → W.cell? ⟨B, 0, none⟩ = some (.int .i64 pr) ∧ gat 17 W B 1 = some A1 ∧ gat 17 W B 19 = some A2) := Lib.hid fun W hb =>
    ⟨by rw [hb.cell (p := ⟨B, 0, none⟩) H.lt]; exact f0, gat_below g1 hb H.lt, gat_below g2 hb H.lt⟩
  have HPR : Hid (pr = 17 → two l 6 ≠ 0) := Lib.hid fun e => by rw [hpr] at k; exact fun h0 => k ⟨e, h0⟩
  have HB0 : Hid (Below w.heap.size w w) := Lib.hid (Below.refl _ _)
  clear hs1 hs2 hg hm hA1 hA2 hpr k H hC hl hT0 g1 g2
  rcases hp with rfl | rfl
  · go_enter Tryd.func51, Tryd.ntmps51
    go_wp2_with fail
    go_region_held3 (fun W => W.cell? ⟨B, 0, none⟩ = some (.int .i64 6) ∧ gat 17 W B 1 = some A1 ∧ gat 17 W B 19 = some A2) (first | exact HSW.out _ HBa.out | exact HSW.out _ HB0.out | exact HSW.out _ HB0.out.drew | fail) ((go_at_call 77; (with_reducible refine (HP.out _).mono ?_); rintro e Wa ⟨ao, cp, rfl, hba, hca, hcp1, hcp2⟩; have HBa := Lib.hid (HB0.out.drew.trans hba); have HCa := Lib.hid hca; clear hba hca))
    go_wp2_with (first | (go_at_call 73; (first | ((with_reducible refine (HADD.out _ _ _ HCa.out hcp1 hcp2).mono ?_); rintro e Wb ⟨rfl, hbb⟩; have HBb := Lib.hid (HBa.out.trans (hbb.mono HBa.out.size)); have HCb := Lib.hid (HC0.out.below HBb.out rfl); clear hbb) | ((with_reducible refine (HADD2.out _ HCb.out).mono ?_); rintro e Wc ⟨rfl, hbc⟩; have HBc := Lib.hid (HBb.out.trans (hbc.mono HBb.out.size)); clear hbc) | fail)) | (go_at_call 72; (with_reducible refine (HRT.out _).mono ?_); rintro e w' ⟨rfl, rfl⟩))
    go_ret
    exact ⟨ret_bool (by rw [hr.out, HS.out]), HBc.out⟩
  · obtain ⟨v6, hv6⟩ : ∃ x, two l 6 = x := ⟨_, rfl⟩
    rw [hv6] at HT6
    have k6 : (v6 == 0) = false := by have := HPR.out rfl; rw [hv6] at this; simpa using this
    clear hv6
    go_enter Tryd.func51, Tryd.ntmps51
    go_wp2_with (go_at_call 48; (with_reducible refine (HT6.out _ HC0.out).mono ?_); rintro e w' ⟨rfl, d2, rfl⟩)
    have HB0 := Lib.hid (HD.out d2)
    go_region_held3 (fun W => W.cell? ⟨B, 0, none⟩ = some (.int .i64 17) ∧ gat 17 W B 1 = some A1 ∧ gat 17 W B 19 = some A2) (first | exact HSW.out _ HBa.out | exact HSW.out _ HB0.out | exact HSW.out _ HB0.out.drew | fail) ((go_at_call 77; (with_reducible refine (HP.out _).mono ?_); rintro e Wa ⟨ao, cp, rfl, hba, hca, hcp1, hcp2⟩; have HBa := Lib.hid (HB0.out.drew.trans hba); have HCa := Lib.hid hca; clear hba hca))
    go_wp2_with (first | (go_at_call 73; (first | ((with_reducible refine (HADD.out _ _ _ HCa.out hcp1 hcp2).mono ?_); rintro e Wb ⟨rfl, hbb⟩; have HBb := Lib.hid (HBa.out.trans (hbb.mono HBa.out.size)); have HCb := Lib.hid (HC0.out.below HBb.out rfl); clear hbb) | ((with_reducible refine (HADD2.out _ HCb.out).mono ?_); rintro e Wc ⟨rfl, hbc⟩; have HBc := Lib.hid (HBb.out.trans (hbc.mono HBb.out.size)); clear hbc) | fail)) | (go_at_call 72; (with_reducible refine (HRT.out _).mono ?_); rintro e w' ⟨rfl, rfl⟩))
    go_ret
    exact ⟨ret_bool (by rw [hr.out, HS.out]), HBc.out⟩
end Go.Proofs.YtilhioiocfllhaaDoor
