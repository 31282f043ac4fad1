/- The walks of the reference's All and of the chapter's example. -/
import Derived.Test.YtifdbjombgcfcaaDoorStCursor
namespace Go.Proofs.YtifdbjombgcfcaaDoor
open Go.RowKit StMath PrimeMath
set_option linter.unusedVariables false

set_option maxRecDepth 100000 in
set_option maxHeartbeats 4000000 in
theorem refall_any (n o k : Nat) (h1 : n ≤ 251) (ho : o < n) (hk : k < n) (w : World) :
    Calls Tryd.prog 31 #[.int .i64 (n : Int), .int .i64 (o : Int), .int .i64 (k : Int)] w (AllP n o k w) := by
  have HN : Hid (n ≤ 251 ∧ o < n ∧ k < n) := Lib.hid ⟨h1, ho, hk⟩
  have b1 : (n : Int) ≤ 251 := by omega
  have b2 : (k : Int) < (n : Int) := by omega
  have HF := Lib.hid (ints_fresh w.heap.size w (Nat.le_refl _))
  have HB := Lib.hid ((Below.refl _ w).alloc (Nat.le_refl _) (.cells #[] 3))
  clear h1 ho hk
  go_enter Tryd.func31, Tryd.ntmps31
  go_wp2_with fail
  go_loopw [7, 8] (fun v i wr => ∃ j : Nat, j ≤ n ∧ i = .int .i64 ((pos n o k j : Nat) : Int) ∧ wr.ownsRow w.heap.size 3 1 v j ((ps n o k j).map iv) ∧ Below w.heap.size w wr) (fun v _ _ => match v with | .slice _ j _ => n - j | _ => 0)
  case atStart => exact ⟨0, Nat.zero_le _, by rw [pos_zero n o k HN.out.2.1], HF.out, HB.out⟩
  case round =>
    obtain ⟨j, hj, rfl, hown, hB⟩ := hrel
    obtain ⟨ao, cap, rfl, hat, hl, hcp, htp⟩ := ints_own hown
    have HO := Lib.hid hown
    have HBR := Lib.hid hB
    clear hown hB hat hl
    by_cases hlt : j < n
    · have hlt' : (j : Int) < (n : Int) := by omega
      have HLT := Lib.hid hlt
      have HPS := Lib.hid (ps_succ n o k j)
      have HPO := Lib.hid (pos_succ n o k j)
      have hpl := pos_lt n o k j (by omega)
      obtain ⟨p, hp⟩ : ∃ p, pos n o k j = p := ⟨_, rfl⟩
      rw [hp] at HPS HPO hpl ⊢
      have b3 : (p : Int) < (n : Int) := by omega
      clear hp hlt hpl
      by_cases hq : (p : Int) + (k : Int) < (n : Int)
      · have HE : Hid ((p + k) % n = p + k) := Lib.hid (Nat.mod_eq_of_lt (by omega))
        go_wp2_with (at_builtin; refine wpList_append_int rfl (.tmp 15) (.tmp 17) rfl w.heap.size (.slice ao j cap) j (ps n o k j) (by rfl) (HO.out.alloc _) wr.heap.size (p : Int) (by rfl) (by rw [World.cell?_alloc_mark]; rfl) (by have := HLT.out; have := HN.out.1; omega) (Nat.le_trans HBR.out.size (by simp)) ?_; intro v4 w4 hown4 hg4; obtain ⟨ao4, cap4, rfl, _, _, _, _⟩ := ints_own hown4; have HO4 := Lib.hid hown4; have HB4 := Lib.hid ((HBR.out.alloc HBR.out.size (.cells #[.int .i64 (p : Int)] 3)).grown hg4 (Nat.le_trans HBR.out.size (by simp)) (fun r h => iown_ge HO.out r h)); clear hown4 hg4)
        refine ⟨⟨j + 1, by have := HLT.out; omega, by rw [HPO.out, HE.out, Int.natCast_add], by rw [HPS.out]; exact HO4.out, HB4.out⟩, by have := HLT.out; show n - (j + 1) < n - j; omega⟩
      · have HE : Hid (((p + k) % n : Nat) = p + k - n) := Lib.hid (by
          have h1 : p + k = (p + k - n) + n := by omega
          rw [h1, Nat.add_mod_right, Nat.mod_eq_of_lt (by omega)]
          omega)
        have hq' : (n : Int) ≤ (p : Int) + (k : Int) := by omega
        have HQ := Lib.hid hq'
        clear hq
        go_wp2_with (at_builtin; refine wpList_append_int rfl (.tmp 15) (.tmp 17) rfl w.heap.size (.slice ao j cap) j (ps n o k j) (by rfl) (HO.out.alloc _) wr.heap.size (p : Int) (by rfl) (by rw [World.cell?_alloc_mark]; rfl) (by have := HLT.out; have := HN.out.1; omega) (Nat.le_trans HBR.out.size (by simp)) ?_; intro v4 w4 hown4 hg4; obtain ⟨ao4, cap4, rfl, _, _, _, _⟩ := ints_own hown4; have HO4 := Lib.hid hown4; have HB4 := Lib.hid ((HBR.out.alloc HBR.out.size (.cells #[.int .i64 (p : Int)] 3)).grown hg4 (Nat.le_trans HBR.out.size (by simp)) (fun r h => iown_ge HO.out r h)); clear hown4 hg4)
        refine ⟨⟨j + 1, by have := HLT.out; omega, by rw [HPO.out, HE.out]; congr 1; have := HQ.out; omega, by rw [HPS.out]; exact HO4.out, HB4.out⟩, by have := HLT.out; show n - (j + 1) < n - j; omega⟩
    · obtain rfl : j = n := by omega
      go_wp2_with fail
      go_ret
      exact ⟨_, rfl, HO.out, HBR.out⟩
set_option maxRecDepth 100000 in
set_option maxHeartbeats 2000000 in
theorem alive09_any (w : World) : Calls Tryd.prog 22 #[] w fun e w' => e = .returned (.bool true) ∧ Below w.heap.size w w' := by
  have hr : rtB 7 3 2 = true := by decide
  have HA : Hid (Calls Tryd.prog 28 #[.agg #[.int .i64 7, .int .i64 3, .int .i64 2]] w (AllP 7 3 2 w)) := Lib.hid (all_yes 7 3 2 hr (by decide) (by decide) (by decide) w)
  go_enter Tryd.func22, Tryd.ntmps22
  go_wp2_with (first | (go_at_call 28; refine HA.out.mono ?_; rintro e w1 ⟨v, rfl, hown, hb⟩; have HB1 := Lib.hid hb; obtain ⟨ao, cap, rfl, hat, _, _, _⟩ := ints_own hown; have HAT := Lib.hid hat; have HB2 := Lib.hid ((Below.refl _ w1).alloc (Nat.le_refl _) (.cells #[.int .i64 3, .int .i64 5, .int .i64 0, .int .i64 2, .int .i64 4, .int .i64 6, .int .i64 1] 3)); clear hown hb hat) | (go_at_call 32; refine (sameInts_any _ _ 7 _ _ [3, 5, 0, 2, 4, 6, 1] _ rfl (by omega) ((show IntsAt w1 ao [3, 5, 0, 2, 4, 6, 1] from HAT.out).below HB2.out) (IntsAt.new _ _ _ _ rfl)).mono ?_; rintro e w' ⟨rfl, j, rfl⟩))
  go_ret
  exact ⟨rfl, HB1.out.trans ((HB2.out.trans (drewN_below _ _ _)).mono HB1.out.size)⟩
end Go.Proofs.YtifdbjombgcfcaaDoor
