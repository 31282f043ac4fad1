/- The walk of the law OctetsBack. -/
import Derived.Test.YtilhioiocfllhaaDoorOctCur
import Derived.Test.YtilhioiocfllhaaDoorOctEnc
import Derived.Test.YtilhioiocfllhaaDoorLaid
import Derived.OpenShut
import Derived.SliceStrings
namespace Go.Proofs.YtilhioiocfllhaaDoor.octetsBack
open Go.RowKit OctMath
set_option linter.unusedVariables false

set_option maxRecDepth 100000 in
/-- Where an error lies, out of what is listed. -/
theorem laid_cell {W : World} {laid : List (String × DataW Unit)} (h : laidMetH Tryd.prog laid W) (hf : laid.filter (fun x => x.2.handleName?.isSome) = []) (i g : Nat)
    (hi : ∃ n text, laid[i]? = some (n, sentD text) ∧ Tryd.prog.globalNamed n = some g ∧ (Tryd.prog.globals[g]?).map (·.type) = some 25) : ∃ a, W.cell? ⟨g, 0, none⟩ = some (.iface 149 (.pointer (some a))) := by
  unfold laidMetH at h
  rw [hf] at h
  obtain ⟨ps, hv, hnd, hrows⟩ := h
  obtain ⟨parts, rfl, hp⟩ := parts_of_vars laid ps hv hrows
  obtain ⟨n, text, hi, hg, ht⟩ := hi
  obtain ⟨a, part, h1, _⟩ := hp i n text g hi hg ht
  exact ⟨a, h1⟩
set_option maxRecDepth 100000 in
theorem err0 {w : World} (hL : laidMetH Tryd.prog Rows.octetsBackRow.laid w) : ∃ a, w.cell? ⟨0, 0, none⟩ = some (.iface 149 (.pointer (some a))) := by
  refine laid_cell hL (by kernel_rfl) 0 0 ?_
  exact ⟨_, _, rfl, by kernel_rfl, by kernel_rfl⟩
set_option maxRecDepth 100000 in
theorem err2 {w : World} (hL : laidMetH Tryd.prog Rows.octetsBackRow.laid w) : ∃ a, w.cell? ⟨2, 0, none⟩ = some (.iface 149 (.pointer (some a))) := by
  refine laid_cell hL (by kernel_rfl) 2 2 ?_
  exact ⟨_, _, rfl, by kernel_rfl, by kernel_rfl⟩
/-- A slice of texts, as a value. -/
def IsTexts (w : World) (v : Value) : Prop := ∃ (ao : Option Addr) (n c : Nat) (t : Nat → ByteArray), v = .slice ao n c ∧ n ≤ c ∧ c ≤ maxLen ∧ (∀ i, i < n → (t i).size ≤ maxLen) ∧ ∀ i, i < n → ∃ b off, ao = some ⟨b, off, none⟩ ∧ w.cell? ⟨b, off + i, none⟩ = some (.string (t i))
set_option maxRecDepth 100000 in
theorem open1 {H : Type} {enc : TypeId × Value → H} {w : World} {base : Nat} {spare : Nat → Bool} {held : Bool} {r : Reach} {b0 : Nat} {v : Value} {d : DataW H} {ps : List MemPlace} {w0 : World} (hval : Value.okWide Tryd.prog w0 r b0 35 v) (h : DataW.Trod enc Tryd.prog w base spare held 35 v d ps) : IsTexts w v := by
  obtain ⟨a0, len0, cap0, rfl⟩ := WideShapes.okWide_slice Tryd.underlying35 hval
  obtain ⟨fuel, hf⟩ := h
  rcases ChangeShapes.open_strings Tryd.underlying35 Tryd.underlying9 (by kernel_rfl) hf with ⟨hcs, _⟩ | ⟨a, len, cap, ss, hcs, _, hl, hm, hz, _, hcell, hw⟩
  · simp [Value.cells] at hcs
    obtain ⟨rfl, rfl, rfl⟩ := hcs
    exact ⟨none, 0, 0, fun _ => ByteArray.empty, rfl, Nat.le_refl _, Nat.zero_le _, fun i h => absurd h (by omega), fun i h => absurd h (by omega)⟩
  · simp [Value.cells] at hcs
    obtain ⟨rfl, rfl, rfl⟩ := hcs
    have hz' : len0 ≤ ss.length := by split at hz <;> omega
    refine ⟨_, _, _, fun i => ss.getD i ByteArray.empty, rfl, hl, hm, fun i hi => ?_, fun i hi => ?_⟩
    · have : ss.getD i ByteArray.empty ∈ ss := by
        rw [List.getD, List.getElem?_eq_getElem (show i < ss.length by omega)]; exact List.getElem_mem _
      exact hw _ this
    · obtain ⟨b, off, spot⟩ := a
      have hspot : spot = none := by simpa [Addr.add] using World.cell?_spot (hcell 0 (by omega))
      subst hspot
      have h0 := hcell i (by omega)
      rw [Addr.add_lit] at h0
      exact ⟨b, off, rfl, h0⟩
/-- A slice of numbers, cell by cell. -/
theorem ints_of_row {w : World} {a : Option Addr} {len cap : Nat} {zs : List Int} (h : IsRow .i64 w a len cap zs) : len ≤ cap ∧ cap ≤ maxLen ∧ ∀ i, i < len → ∃ b off, a = some ⟨b, off, none⟩ ∧ w.cell? ⟨b, off + i, none⟩ = some (.int .i64 (zs.getD i 0)) ∧ (Lit.int .i64 (zs.getD i 0)).wf = true := by
  rcases h with ⟨rfl, rfl, rfl, rfl⟩ | ⟨x, rfl, hl, hm, hz, hcell, hwz⟩
  · exact ⟨Nat.le_refl _, Nat.zero_le _, fun i h => absurd h (by omega)⟩
  · refine ⟨hl, hm, fun i hi => ?_⟩
    obtain ⟨b, off, spot⟩ := x
    have hspot : spot = none := by simpa [Addr.add] using World.cell?_spot (hcell 0 (by omega))
    subst hspot
    have h0 := hcell i (by omega)
    rw [Addr.add_lit] at h0
    refine ⟨b, off, rfl, h0, ?_⟩
    have : zs.getD i 0 ∈ zs := by
      rw [List.getD, List.getElem?_eq_getElem (show i < zs.length by omega)]; exact List.getElem_mem _
    exact hwz _ this
/-- Does it fit? -/
def Fits (z : Int) (m : Nat) : Prop := 0 ≤ z ∧ z ≤ 4611686018427387904 ∧ z.toNat < 256 ^ m
theorem fits_or (z : Int) (m : Nat) (h1 : 1 ≤ m) (h8 : m ≤ 8) : Fits z m ∨ NumBad z (m : Int) := by
  by_cases a : z < 0
  · exact .inr (.inr (.inr (.inl a)))
  by_cases b : 4611686018427387904 < z
  · exact .inr (.inr (.inr (.inr (.inl b))))
  by_cases c : z.toNat < 256 ^ m
  · exact .inl ⟨by omega, by omega, c⟩
  · refine .inr (.inr (.inr (.inr (.inr ⟨z.toNat, m, by omega, rfl, ?_, by omega⟩))))
    apply Nat.lt_of_not_le
    intro h
    obtain rfl : m = 8 := by omega
    have : z.toNat < 256 ^ 8 := by
      have : (256 : Nat) ^ 8 = 18446744073709551616 := by decide
      omega
    exact c this

set_option maxRecDepth 100000 in
set_option maxHeartbeats 8000000 in
theorem walk (a1 : Option Addr) (n1 c1 : Nat) (zs : List Int) (v2 : Value) (is : Bool) (w : World) (h1 : IsRow .i64 w a1 n1 c1 zs) (h2 : IsTexts w v2) (hL : laidMetH Tryd.prog Rows.octetsBackRow.laid w) :
    Calls Tryd.prog 4 #[.slice a1 n1 c1, v2, .bool is] w fun e w' => e = .returned (.bool true) ∧ Below w.heap.size w w' := by
  obtain ⟨ea, hE1⟩ := err0 hL
  obtain ⟨eb, hE2⟩ := err2 hL
  obtain ⟨hc1, ht1, hz⟩ := ints_of_row h1
  obtain ⟨a2, n2, c2, t, rfl, hc2, ht2, hts, htc⟩ := h2
  have HE1 := Lib.hid hE1
  have HE2 := Lib.hid hE2
  have HZ := Lib.hid hz
  have HTS := Lib.hid hts
  have HTC := Lib.hid htc
  unfold maxLen at ht1 ht2
  clear hL h1 hE1 hE2 hz hts htc
  by_cases hb1 : 20 < n1
  · have hb1' : (20 : Int) < (n1 : Int) := by omega
    go_enter Tryd.func4, Tryd.ntmps4
    go_wp2_with (go_at_call 11; refine (alive01_any _).mono ?_; rintro e w' ⟨rfl, hb⟩)
    go_ret
    exact ⟨rfl, hb⟩
  have d1 : decide ((20 : Int) < (n1 : Int)) = false := by simp; omega
  by_cases hb2 : 20 < n2
  · have hb2' : decide ((20 : Int) < (n2 : Int)) = true := by simp; omega
    clear hb1
    go_enter Tryd.func4, Tryd.ntmps4
    go_wp2_with (go_at_call 11; refine (alive01_any _).mono ?_; rintro e w' ⟨rfl, hb⟩)
    go_ret
    exact ⟨rfl, hb⟩
  have d2 : decide ((20 : Int) < (n2 : Int)) = false := by simp; omega
  have N1 : Hid (n1 ≤ 20) := Lib.hid (by omega)
  have N2 : Hid (n2 ≤ 20) := Lib.hid (by omega)
  have HC1 := Lib.hid hc1
  have HC2 := Lib.hid hc2
  have k1 : (n1 : Int) ≤ 20 := by omega
  have k2 : (n2 : Int) ≤ 20 := by omega
  obtain ⟨az, haz⟩ : ∃ az : Nat → Nat, az = fun i => (zs.getD i 0).toNat := ⟨_, rfl⟩
  have HAZ := Lib.hid haz
  obtain ⟨tt, htt⟩ : ∃ tt : Nat → List UInt8, tt = fun i => tx (t i) := ⟨_, rfl⟩
  have HTT := Lib.hid htt
  clear hb1 hb2 hc1 hc2 ht1 ht2 haz htt
  go_enter Tryd.func4, Tryd.ntmps4
  go_wp2_with (first | (go_at_call 11; refine (alive01_any _).mono ?_; rintro e w1 ⟨rfl, hb⟩; have HB1 := Lib.hid hb; clear hb) | (go_at_call 16; refine (flag_any is _).mono ?_; rintro e w2 ⟨rfl, hw2⟩; have HO2 : Hid (w2.ownsRow w.heap.size 5 1 (.slice (some ⟨w1.heap.size, 0, none⟩) 1 1) ([bit is] ++ encN az 0).length (([bit is] ++ encN az 0).map u8v) ∧ Below w.heap.size w w2) := Lib.hid (by rw [hw2]; exact ⟨World.ownsRow_lit w1 #[u8v (bit is)] 1 HB1.out.size (by unfold maxLen; omega) rfl, HB1.out.alloc HB1.out.size _⟩); clear hw2))
  clear d1 d2
  go_loopw [7, 35] (fun v i wr => ∃ k : Nat, k ≤ n1 ∧ i = .int .i64 (k : Int) ∧ wr.ownsRow w.heap.size 5 1 v ([bit is] ++ encN az k).length (([bit is] ++ encN az k).map u8v) ∧ Below w.heap.size w wr ∧ ∀ j, j < k → Fits (zs.getD j 0) (1 + j % 8)) (fun _ i _ => n1 - (intOf i).toNat)
  case atStart => exact ⟨0, Nat.zero_le _, rfl, HO2.out.1, HO2.out.2, fun j h => absurd h (by omega)⟩
  case round =>
    obtain ⟨k, hk, rfl, hown, hB, hfit⟩ := hrel
    have HO := Lib.hid hown
    have HB := Lib.hid hB
    have HFIT := Lib.hid hfit
    clear hown hB hfit
    by_cases hlt : k < n1
    · obtain ⟨bz, oz, rfl, cz, wz⟩ := HZ.out k hlt
      have cz' := (HB.out.cell (p := ⟨bz, oz + k, none⟩) (World.block_lt_of_cell? w _ cz)).trans cz
      have hlt' : (k : Int) < (n1 : Int) := by omega
      obtain ⟨m, hm⟩ : ∃ m, 1 + k % 8 = m := ⟨_, rfl⟩
      have hm1 : 1 ≤ m := by omega
      have hm8 : m ≤ 8 := by omega
      have HM := Lib.hid hm
      have em : (1 : Int) + (k : Int) % 8 = (m : Int) := by omega
      have hfo := fits_or (zs.getD k 0) m hm1 hm8
      have HLT := Lib.hid hlt
      have HAK : Hid (az k = (zs.getD k 0).toNat) := Lib.hid (by rw [HAZ.out])
      obtain ⟨z, ez⟩ : ∃ z, zs.getD k 0 = z := ⟨_, rfl⟩
      have HEZ := Lib.hid ez
      rw [ez] at cz' hfo HAK
      clear cz wz hm ez hlt
      rcases hfo with hf | hbad
      · obtain ⟨A, rfl⟩ := Int.eq_ofNat_of_zero_le hf.1
        have HF := Lib.hid hf
        have hAn : Hid (A ≤ 4611686018427387904) := Lib.hid (by have := hf.2.1; omega)
        have hAf : Hid (m < 8 → A < 256 ^ m) := Lib.hid (fun _ => by have := hf.2.2; simpa using this)
        clear hf
        go_wp2_with (first | (go_at_call 12; refine (num_ok A m _ hm1 hm8 hAn hAf).mono ?_; rintro e w3 ⟨v3, rfl, hown3, hb3⟩; obtain ⟨ao3, c3, rfl, hc3, hl3, hno3, _, _⟩ := own_cells hown3; have HC3 := Lib.hid hc3; have HL3 := Lib.hid hl3; have HNO3 := Lib.hid hno3; have HO3 := Lib.hid (own_below HO.out hb3 HB.out.size); have HB3 := Lib.hid (HB.out.trans (hb3.mono HB.out.size)); clear hown3 hb3 hc3 hl3 hno3) | (at_builtin; refine wpList_append_u8 rfl (.tmp 53) (.tmp 54) rfl w.heap.size u7 _ _ (by rfl) HO3.out ao3 m c3 (be A m) (by rfl) HL3.out HNO3.out HC3.out (by have := encN_le az k; have := HLT.out; have := N1.out; simp; omega) HB3.out.size ?_; intro v4 w4 hown4 hg4; have HO4 := Lib.hid hown4; have HB4 := Lib.hid (HB3.out.grown hg4 HB3.out.size (fun k h => own_ge HO3.out k h)); clear hown4 hg4))
        have e1 : [bit is] ++ encN az (k + 1) = ([bit is] ++ encN az k) ++ be A m := by
          have h3 := HAK.out
          simp only [encN]
          rw [HM.out, show az k = A by rw [h3]; simp, List.append_assoc]
        have h4 := HO4.out
        rw [show (([bit is] ++ encN az k).length + m) = ([bit is] ++ encN az (k + 1)).length by rw [e1]; simp [be_length]; omega, ← e1] at h4
        refine ⟨⟨k + 1, by have := HLT.out; omega, by go_num, h4, HB4.out, fun j hj => ?_⟩, by have := HLT.out; simp [intOf]; omega⟩
        by_cases h : j = k
        · subst h; rw [HEZ.out, HM.out]; exact HF.out
        · exact HFIT.out j (by omega)
      · have HBAD := Lib.hid hbad
        clear hbad
        go_wp2_with (go_at_call 12; refine (num_bad_c _ z _ _ ((HB.out.cell (p := ⟨0, 0, none⟩) (World.block_lt_of_cell? w _ HE1.out)).trans HE1.out) HBAD.out).mono ?_; rintro e w3 ⟨rfl, k3, rfl⟩)
        go_ret
        exact ⟨rfl, HB.out.trans (drewN_below _ _ _)⟩
    · obtain rfl : k = n1 := by omega
      clear hlt hk
      have HZF := HFIT
      go_wp2_with fail
      go_loopw [7, 59] (fun v i wr => ∃ j : Nat, j ≤ n2 ∧ i = .int .i64 (j : Int) ∧ wr.ownsRow w.heap.size 5 1 v ([bit is] ++ encN az k ++ encT tt j).length (([bit is] ++ encN az k ++ encT tt j).map u8v) ∧ Below w.heap.size w wr ∧ ∀ i, i < j → (t i).size ≤ 255) (fun _ i _ => n2 - (intOf i).toNat)
      case atStart => exact ⟨0, Nat.zero_le _, rfl, by simp only [encT, List.append_nil]; exact HO.out, HB.out, fun j h => absurd h (by omega)⟩
      case round =>
        obtain ⟨j, hj, rfl, hown, hB, hfit⟩ := hrel
        have HO := Lib.hid hown
        have HB := Lib.hid hB
        have HFT := Lib.hid hfit
        clear hown hB hfit
        by_cases hlt : j < n2
        · obtain ⟨bt, ot, rfl, ct⟩ := HTC.out j hlt
          have ct' := (HB.out.cell (p := ⟨bt, ot + j, none⟩) (World.block_lt_of_cell? w _ ct)).trans ct
          have hlt' : (j : Int) < (n2 : Int) := by omega
          have HLT := Lib.hid hlt
          have hsz := HTS.out j hlt
          have HTJ : Hid (tt j = tx (t j)) := Lib.hid (by rw [HTT.out])
          obtain ⟨s, es⟩ : ∃ s, t j = s := ⟨_, rfl⟩
          have HES := Lib.hid es
          rw [es] at ct' hsz HTJ
          unfold maxLen at hsz
          clear ct es hlt
          by_cases h3 : 300 < s.size
          · have h3' : (300 : Int) < (s.size : Int) := by omega
            clear h3
            go_wp2_with fail
            go_ret
            exact ⟨rfl, HB.out⟩
          have h3' : (s.size : Int) ≤ 300 := by omega
          have H300 : Hid (s.size ≤ 300) := Lib.hid (by omega)
          clear h3 hsz
          by_cases h4 : 255 < s.size
          · have H4 := Lib.hid h4
            clear h4
            go_wp2_with (go_at_call 15; refine (text_long_c _ s _ ((HB.out.cell (p := ⟨2, 0, none⟩) (World.block_lt_of_cell? w _ HE2.out)).trans HE2.out) H4.out (by have := H300.out; omega)).mono ?_; rintro e w3 ⟨rfl, k3, rfl⟩)
            go_ret
            exact ⟨rfl, HB.out.trans (drewN_below _ _ _)⟩
          · have H4 : Hid (s.size ≤ 255) := Lib.hid (by omega)
            clear h4
            go_wp2_with (first | (go_at_call 15; refine (text_ok s _ H4.out).mono ?_; rintro e w3 ⟨g3, c3, rfl, hc3, hb3, hcp3, htp3⟩; have HC3 := Lib.hid hc3; have HO3 := Lib.hid (own_below HO.out hb3 HB.out.size); have HB3 := Lib.hid (HB.out.trans (hb3.mono HB.out.size)); clear hb3 hc3) | (at_builtin; refine wpList_append_u8 rfl (.tmp 76) (.tmp 77) rfl w.heap.size u7 _ _ (by rfl) HO3.out (some ⟨g3, 0, none⟩) (1 + s.size) c3 (tx s) (by rfl) (tx_length s) (fun h => by cases h) HC3.out (by have := encN_le az k; have := encT_le tt j (fun i hi => by rw [HTT.out]; simp only []; rw [tx_length]; have := HFT.out i hi; omega); have := HLT.out; have := N1.out; have := N2.out; have := H4.out; simp; omega) HB3.out.size ?_; intro v4 w4 hown4 hg4; have HO4 := Lib.hid hown4; have HB4 := Lib.hid (HB3.out.grown hg4 HB3.out.size (fun k h => own_ge HO3.out k h)); clear hown4 hg4))
            have e1 : [bit is] ++ encN az k ++ encT tt (j + 1) = ([bit is] ++ encN az k ++ encT tt j) ++ tx s := by
              simp only [encT]
              rw [HTJ.out, List.append_assoc]
              simp only [List.append_assoc]
            have h4 := HO4.out
            rw [show (([bit is] ++ encN az k ++ encT tt j).length + (1 + s.size)) = ([bit is] ++ encN az k ++ encT tt (j + 1)).length by rw [e1, List.length_append (bs := tx s), tx_length], ← e1] at h4
            refine ⟨⟨j + 1, by have := HLT.out; omega, by go_num, h4, HB4.out, fun i hi => ?_⟩, by have := HLT.out; simp [intOf]; omega⟩
            by_cases h : i = j
            · subst h; rw [HES.out]; exact H4.out
            · exact HFT.out i (by omega)
        · obtain rfl : j = n2 := by omega
          clear hlt hj
          obtain ⟨E, hE⟩ : ∃ E, [bit is] ++ encN az k ++ encT tt j = E := ⟨_, rfl⟩
          have HE := Lib.hid hE
          have hO := HO.out
          rw [hE] at hO
          obtain ⟨ao, ce, hv, hce, hle, hno, hcp, htp⟩ := own_cells hO
          obtain ⟨M, hM⟩ : ∃ M, E.length = M := ⟨_, rfl⟩
          have HM := Lib.hid hM
          have hM1 : 1 ≤ M := by rw [← hM, ← hE]; simp
          have hMb : M ≤ 6000 := by
            have := encN_le az k
            have := encT_le tt j (fun i hi => by rw [HTT.out]; simp only []; rw [tx_length]; have := HFT.out i hi; omega)
            have := N1.out; have := N2.out
            rw [← hM, ← hE]; simp; omega
          obtain ⟨bE, oE, rfl⟩ : ∃ b o, ao = some ⟨b, o, none⟩ := by
            rcases hce with h | ⟨b, o, e, _⟩
            · rw [h] at hM; simp at hM; omega
            · exact ⟨b, o, e⟩
          subst hv
          rw [hM]
          have HCE := Lib.hid hce
          have H1M := Lib.hid hM1
          have HMB := Lib.hid hMb
          clear hE hO hce hle hno hcp htp hM hM1 hMb
          go_wp2_with fail
          refine (at_any bE oE M ce E _ HM.out H1M.out (by have := HMB.out; omega) HCE.out).mono ?_
          rintro e w5 ⟨Bc, b, c, rfl, hcur, hb5, hBc, _⟩
          have HCU := Lib.hid hcur
          have HB5 := Lib.hid (HB.out.trans (hb5.mono HB.out.size))
          have HBC : Hid (w.heap.size ≤ Bc) := Lib.hid (Nat.le_trans HB.out.size hBc)
          clear hcur hb5 hBc
          go_wp2_with (go_at_call 18; refine (cflag_any HCU.out is (by have := H1M.out; omega) (by rw [← HE.out]; rfl)).mono ?_; rintro e w6 ⟨rfl, hcu6, hg6⟩; have HCU6 := Lib.hid hcu6; have HB6 := Lib.hid (HB5.out.grown hg6 HB5.out.size (fun r h => by cases h; exact HBC.out)); clear hcu6 hg6)
          go_loopw [92] (fun i wr2 => ∃ q : Nat, q ≤ k ∧ i = .int .i64 (q : Int) ∧ Cur Bc b 0 M c E (1 + (encN az q).length) wr2 ∧ Below w.heap.size w wr2) (fun i _ => k - (intOf i).toNat)
          case atStart => exact ⟨0, Nat.zero_le _, rfl, HCU6.out, HB6.out⟩
          case round =>
            obtain ⟨q, hq, rfl, hcu, hB2⟩ := hrel
            have HCQ := Lib.hid hcu
            have HB2 := Lib.hid hB2
            clear hcu hB2
            by_cases hlt : q < k
            · obtain ⟨bz, oz, rfl, cz, wz⟩ := HZ.out q hlt
              have cz' := (HB2.out.cell (p := ⟨bz, oz + q, none⟩) (World.block_lt_of_cell? w _ cz)).trans cz
              have hlt' : (q : Int) < (k : Int) := by omega
              obtain ⟨m, hm⟩ : ∃ m, 1 + q % 8 = m := ⟨_, rfl⟩
              have hm1 : 1 ≤ m := by omega
              have hm8 : m ≤ 8 := by omega
              have HMQ := Lib.hid hm
              have em : (1 : Int) + (q : Int) % 8 = (m : Int) := by omega
              have hf := HZF.out q hlt
              have HLT := Lib.hid hlt
              have HAK : Hid (az q = (zs.getD q 0).toNat) := Lib.hid (by rw [HAZ.out])
              obtain ⟨z, ez⟩ : ∃ z, zs.getD q 0 = z := ⟨_, rfl⟩
              rw [ez] at cz' hf HAK
              rw [hm] at hf
              obtain ⟨A, rfl⟩ := Int.eq_ofNat_of_zero_le hf.1
              have hAn : Hid (A ≤ 4611686018427387904) := Lib.hid (by have := hf.2.1; omega)
              have hAf : Hid (A < 256 ^ m) := Lib.hid (by have := hf.2.2; simpa using this)
              have HPART : Hid ((E.drop (1 + (encN az q).length)).take m = be A m ∧ 1 + (encN az q).length + m ≤ E.length) := Lib.hid (by
                obtain ⟨r, hr⟩ := encN_split az q k hlt
                have h3 := HAK.out
                simp only [Int.toNat_natCast] at h3
                rw [hm, h3] at hr
                refine OctMath.part (pre := [bit is] ++ encN az q) (r := r ++ encT tt j) ?_ (by simp; omega) (be_length _ _)
                rw [← HE.out, hr]
                simp only [List.append_assoc])
              clear cz wz hm ez hlt hf
              go_wp2_with (go_at_call 19; refine (cnum_any HCQ.out A m hm1 hm8 (by have := HPART.out.2; rw [HM.out] at this; exact this) HPART.out.1 hAn hAf).mono ?_; rintro e w7 ⟨rfl, hcu7, hg7⟩; have HCU7 := Lib.hid hcu7; have HB7 := Lib.hid (HB2.out.grown hg7 HB2.out.size (fun r h => by cases h; exact HBC.out)); clear hcu7 hg7)
              have h7 := HCU7.out
              have e7 : 1 + (encN az q).length + m = 1 + (encN az (q + 1)).length := by
                simp only [encN, List.length_append, be_length]
                rw [HMQ.out]; omega
              rw [e7] at h7
              exact ⟨⟨q + 1, by have := HLT.out; omega, by go_num, h7, HB7.out⟩, by have := HLT.out; simp [intOf]; omega⟩
            · obtain rfl : q = k := by omega
              clear hlt hq
              go_wp2_with fail
              go_loopw [107] (fun i wr2 => ∃ p : Nat, p ≤ j ∧ i = .int .i64 (p : Int) ∧ Cur Bc b 0 M c E (1 + (encN az q).length + (encT tt p).length) wr2 ∧ Below w.heap.size w wr2) (fun i _ => j - (intOf i).toNat)
              case atStart => exact ⟨0, Nat.zero_le _, rfl, HCQ.out, HB2.out⟩
              case round =>
                obtain ⟨p, hp, rfl, hcu, hB2⟩ := hrel
                have HCP := Lib.hid hcu
                have HB3 := Lib.hid hB2
                clear hcu hB2
                by_cases hlt : p < j
                · obtain ⟨bt, ot, rfl, ct⟩ := HTC.out p hlt
                  have ct' := (HB3.out.cell (p := ⟨bt, ot + p, none⟩) (World.block_lt_of_cell? w _ ct)).trans ct
                  have hlt' : (p : Int) < (j : Int) := by omega
                  have HLT := Lib.hid hlt
                  have HTJ : Hid (tt p = tx (t p)) := Lib.hid (by rw [HTT.out])
                  have hft := HFT.out p hlt
                  obtain ⟨s, es⟩ : ∃ s, t p = s := ⟨_, rfl⟩
                  rw [es] at ct' HTJ hft
                  have HS := Lib.hid hft
                  have HPART : Hid ((E.drop (1 + (encN az q).length + (encT tt p).length)).take (1 + s.size) = tx s ∧ 1 + (encN az q).length + (encT tt p).length + (1 + s.size) ≤ E.length) := Lib.hid (by
                    obtain ⟨r, hr⟩ := encT_split tt p j hlt
                    rw [HTJ.out] at hr
                    refine OctMath.part (pre := [bit is] ++ encN az q ++ encT tt p) (r := r) ?_ (by simp; omega) (tx_length s)
                    rw [← HE.out, hr]
                    simp only [List.append_assoc])
                  clear ct es hlt hft
                  go_wp2_with (go_at_call 20; refine (ctext_any HCP.out s HS.out (by have := HPART.out.2; rw [HM.out] at this; exact this) HPART.out.1).mono ?_; rintro e w7 ⟨rfl, hcu7, hg7⟩; have HCU7 := Lib.hid hcu7; have HB7 := Lib.hid (HB3.out.grown hg7 HB3.out.size (fun r h => by cases h; exact HBC.out)); clear hcu7 hg7)
                  have h7 := HCU7.out
                  have e7 : 1 + (encN az q).length + (encT tt p).length + (1 + s.size) = 1 + (encN az q).length + (encT tt (p + 1)).length := by
                    simp only [encT, List.length_append]
                    rw [HTJ.out, tx_length]; omega
                  rw [e7] at h7
                  exact ⟨⟨p + 1, by have := HLT.out; omega, by go_num, h7, HB7.out⟩, by have := HLT.out; simp [intOf]; omega⟩
                · obtain rfl : p = j := by omega
                  clear hlt hp
                  have eM : 1 + (encN az q).length + (encT tt p).length = M := by rw [← HM.out, ← HE.out]; simp; omega
                  rw [eM] at HCP
                  have e0 : (M : Int) - (M : Int) = 0 := by omega
                  clear eM
                  go_wp2_with (first | (go_at_call 21; refine (end_any HCP.out).mono ?_; rintro e w8 ⟨rfl, k8, rfl⟩) | (go_at_call 22; refine (left_any (HCP.out.drewN k8)).mono ?_; rintro e w9 ⟨rfl, k9, rfl⟩) | (go_at_call 23; refine (place_any (HCP.out.drewN (k8 + k9))).mono ?_; rintro e w10 ⟨rfl, rfl⟩))
                  go_ret
                  exact ⟨rfl, HB3.out.trans (drewN_below _ _ (k8 + k9))⟩
end Go.Proofs.YtilhioiocfllhaaDoor.octetsBack
