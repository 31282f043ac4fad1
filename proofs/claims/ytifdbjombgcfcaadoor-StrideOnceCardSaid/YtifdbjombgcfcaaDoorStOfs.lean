/- The walks of stride.Of and of the reference's Of. -/
import Derived.Test.YtifdbjombgcfcaaDoorStAll
import Derived.Test.YtifdbjombgcfcaaDoorStOf
import Derived.RegionTactic
import Derived.ChangeAlike
import Derived.Laws.StructEq
import Derived.Deep.RegionWith
import Derived.Deep.RegionHeld3
namespace Go.Proofs.YtifdbjombgcfcaaDoor
open Go.RowKit StMath PrimeMath HashMath
set_option linter.unusedVariables false

/-- The hash of a text under a seed. -/
def hs (x : BitVec 64) (l : List UInt8) : BitVec 64 := mixB (fnv (fnv 14695981039346656037#64 (seedBytes x)) l)
set_option maxHeartbeats 1000000 in
theorem sof_no_c (ty : TypeId) (ev : Value) (ao : Option Addr) (m c : Nat) (n : Int) (w : World) (hS : w.cell? ⟨0, 0, none⟩ = some (.iface ty ev)) (hz : szB n = false) :
    Calls Tryd.prog 33 #[.slice ao m c, .int .i64 n] w fun e w' => e = .returned (.tuple #[sv 0 0 0, .iface ty ev]) ∧ Below w.heap.size w w' := by
  have HB := Lib.hid ((Below.refl _ w).alloc (Nat.le_refl _) (.cells #[.int .i64 0, .int .i64 0, .int .i64 0] 38))
  have hc := (HB.out.cell (p := ⟨0, 0, none⟩) (World.block_lt_of_cell? w _ hS)).trans hS
  have HZ := Lib.hid hz
  clear hS hz
  go_enter Tryd.func33, Tryd.ntmps33
  go_wp2_with (go_at_call 41; refine (sized_any n _).mono ?_; rintro e w' ⟨rfl, rfl⟩; rw [HZ.out])
  go_region
  all_goals (go_wp2_with fail)
  all_goals refine bodyPost_ret (v := .tuple #[.agg #[.int .i64 0, .int .i64 0, .int .i64 0], .iface ty ev]) (by simp [results, Tryd.results33, go_sem]) rfl ⟨rfl, ?_⟩
  all_goals exact HB.out.drew
theorem sof_no (adr : Nat → Addr) (ao : Option Addr) (m c : Nat) (n : Int) (w : World) (hS : Sents w adr) (hz : szB n = false) :
    Calls Tryd.prog 33 #[.slice ao m c, .int .i64 n] w fun e w' => e = .returned (.tuple #[sv 0 0 0, errV adr 0]) ∧ Below w.heap.size w w' := sof_no_c _ _ ao m c n w (hS.cell 0 _ rfl) hz
/-- One hash, bounded. -/
theorem seed1 (l : List UInt8) (ao : Option Addr) (m c : Nat) (w : World) (hn : l.length = m) (hsz : m ≤ 1000000000000) (hc : Cells w ao l) (H : BitVec 64) (hH : Hid (hs 1#64 l = H)) :
    Calls Tryd.prog 43 #[.int .u64 1, .slice ao m c] w fun e w' => e = .returned (.int .u64 (H.toNat : Int)) ∧ Below w.heap.size w w' := of_opaque 1#64 H ao m c l w hH hn hsz hc
theorem seed2 (l : List UInt8) (ao : Option Addr) (m c : Nat) (w : World) (hn : l.length = m) (hsz : m ≤ 1000000000000) (hc : Cells w ao l) (H : BitVec 64) (hH : Hid (hs 2#64 l = H)) :
    Calls Tryd.prog 43 #[.int .u64 2, .slice ao m c] w fun e w' => e = .returned (.int .u64 (H.toNat : Int)) ∧ Below w.heap.size w w' := of_opaque 2#64 H ao m c l w hH hn hsz hc
theorem rseed1 (l : List UInt8) (ao : Option Addr) (m c : Nat) (w : World) (hn : l.length = m) (hsz : m ≤ 100000000000) (hnone : ao = none → m = 0 ∧ c = 0) (hc : Cells w ao l) (H : BitVec 64) (hH : Hid (hs 1#64 l = H)) :
    Calls Tryd.prog 44 #[.int .u64 1, .slice ao m c] w fun e w' => e = .returned (.int .u64 (H.toNat : Int)) ∧ Below w.heap.size w w' := refof_opaque 1#64 H ao m c l w hH hn hsz hnone hc
theorem rseed2 (l : List UInt8) (ao : Option Addr) (m c : Nat) (w : World) (hn : l.length = m) (hsz : m ≤ 100000000000) (hnone : ao = none → m = 0 ∧ c = 0) (hc : Cells w ao l) (H : BitVec 64) (hH : Hid (hs 2#64 l = H)) :
    Calls Tryd.prog 44 #[.int .u64 2, .slice ao m c] w fun e w' => e = .returned (.int .u64 (H.toNat : Int)) ∧ Below w.heap.size w w' := refof_opaque 2#64 H ao m c l w hH hn hsz hnone hc
/-- The offset and the skip of a text. -/
def offs (n : Nat) (l : List UInt8) : Nat := (hs 1#64 l).toNat % n
def skp (n : Nat) (l : List UInt8) : Nat := (hs 2#64 l).toNat % (n - 1) + 1
set_option maxRecDepth 100000 in
set_option maxHeartbeats 4000000 in
theorem sof_yes (ao : Option Addr) (m c : Nat) (l : List UInt8) (n : Nat) (w : World) (hn : l.length = m) (hsz : m ≤ 1000000) (hc : Cells w ao l) (hz : szB n = true) (h2 : 2 ≤ n) (h251 : n ≤ 251) :
    Calls Tryd.prog 33 #[.slice ao m c, .int .i64 (n : Int)] w fun e w' => e = .returned (.tuple #[sv n (offs n l) (skp n l), .nilIface]) ∧ Below w.heap.size w w' := by
  have HB := Lib.hid ((Below.refl _ w).alloc (Nat.le_refl _) (.cells #[.int .i64 0, .int .i64 0, .int .i64 0] 38))
  have HC := Lib.hid (hc.below HB.out rfl)
  have HZ := Lib.hid hz
  have HN := Lib.hid hn
  obtain ⟨H1, hH1⟩ : ∃ H, hs 1#64 l = H := ⟨_, rfl⟩
  obtain ⟨H2, hH2⟩ : ∃ H, hs 2#64 l = H := ⟨_, rfl⟩
  obtain ⟨O, hO⟩ : ∃ O, offs n l = O := ⟨_, rfl⟩
  obtain ⟨K, hK⟩ : ∃ K, (hs 2#64 l).toNat % (n - 1) = K := ⟨_, rfl⟩
  obtain ⟨n1, hn1⟩ : ∃ n1, n - 1 = n1 := ⟨_, rfl⟩
  have e1 : (n : Int) - 1 = (n1 : Int) := by omega
  have hn1' : 1 ≤ n1 := by omega
  have hKlt : K < n1 := by rw [← hK, hn1]; exact Nat.mod_lt _ (by omega)
  have HO : Hid ((H1.toNat : Int) % (n : Int) = (O : Int)) := Lib.hid (by rw [← hO, ← hH1]; unfold offs; rw [Int.natCast_emod])
  have HK : Hid ((H2.toNat : Int) % (n1 : Int) = (K : Int)) := Lib.hid (by rw [← hK, ← hH2, hn1, Int.natCast_emod])
  have HSK : Hid (((skp n l : Nat) : Int) = (K : Int) + 1) := Lib.hid (by unfold skp; rw [hK]; omega)
  have HS1 := Lib.hid hH1
  have HS2 := Lib.hid hH2
  have HM : Hid (m ≤ 1000000 ∧ 2 ≤ n ∧ n ≤ 251 ∧ 1 ≤ n1) := Lib.hid ⟨hsz, h2, h251, hn1'⟩
  have b1 : (K : Int) < 251 := by omega
  have b2 : (2 : Int) ≤ (n : Int) := by omega
  have b3 : (n : Int) ≤ 251 := by omega
  rw [hO]
  have HZ0 : Hid (∀ W, Below (w.alloc (.cells #[.int .i64 0, .int .i64 0, .int .i64 0] 38)).heap.size (w.alloc (.cells #[.int .i64 0, .int .i64 0, .int .i64 0] 38)) W → (W.cell? ⟨w.heap.size, 0, none⟩ = some (.int .i64 0) ∧ W.cell? ⟨w.heap.size, 1, none⟩ = some (.int .i64 0) ∧ W.cell? ⟨w.heap.size, 2, none⟩ = some (.int .i64 0)) ∧ W.frozen? ⟨w.heap.size, 0, none⟩ = false ∧ W.frozen? ⟨w.heap.size, 1, none⟩ = false ∧ W.frozen? ⟨w.heap.size, 2, none⟩ = false) := Lib.hid fun W hb => by
    have hlt : w.heap.size < (w.alloc (.cells #[.int .i64 0, .int .i64 0, .int .i64 0] 38)).heap.size := by simp
    refine ⟨⟨?_, ?_, ?_⟩, ?_, ?_, ?_⟩
    · rw [hb.cell (p := ⟨w.heap.size, 0, none⟩) hlt, World.cell?_alloc_mark]; rfl
    · rw [hb.cell (p := ⟨w.heap.size, 1, none⟩) hlt, World.cell?_alloc_mark]; rfl
    · rw [hb.cell (p := ⟨w.heap.size, 2, none⟩) hlt, World.cell?_alloc_mark]; rfl
    · rw [hb.frozen (p := ⟨w.heap.size, 0, none⟩) hlt]; exact frozen_of_row _ _ _ _ _ (heap_alloc_new w _)
    · rw [hb.frozen (p := ⟨w.heap.size, 1, none⟩) hlt]; exact frozen_of_row _ _ _ _ _ (heap_alloc_new w _)
    · rw [hb.frozen (p := ⟨w.heap.size, 2, none⟩) hlt]; exact frozen_of_row _ _ _ _ _ (heap_alloc_new w _)
  clear hz hn hc hH1 hH2 hO hK hn1 hn1' hKlt hsz h2 h251
  go_enter Tryd.func33, Tryd.ntmps33
  go_wp2_with (first | (go_at_call 41; refine (sized_any _ _).mono ?_; rintro e w' ⟨rfl, rfl⟩; rw [HZ.out]) | (go_at_call 43; (with_reducible refine (seed1 l _ _ _ _ HN.out ?_ HC.out H1 HS1).mono ?_); (have := HM.out.1; omega); rintro e w1 ⟨rfl, hb⟩; have HB1 := Lib.hid (HB.out.trans (hb.mono HB.out.size)); have HC1 := Lib.hid (HC.out.below hb rfl); have HBQ := Lib.hid hb; clear hb) | (go_at_call 43; (with_reducible refine (seed2 l _ _ _ _ HN.out ?_ HC1.out H2 HS2).mono ?_); (have := HM.out.1; omega); rintro e w2 ⟨rfl, hb⟩; have HB2 := Lib.hid (HB1.out.trans (hb.mono HB1.out.size)); obtain ⟨⟨c0, c1, c2⟩, f0, f1, f2⟩ := HZ0.out _ (HBQ.out.trans (hb.mono HBQ.out.size)); clear hb) | (go_at_call 42; (with_reducible refine (belowB_ge H1 _ ?_ ?_ _).mono ?_); (have := HM.out; omega); exact Lib.hid (by have := HM.out; omega); rintro e w' ⟨rfl, rfl⟩; rw [HO.out]) | (go_at_call 42; (with_reducible refine (belowB_ge H2 _ ?_ ?_ _).mono ?_); (have := HM.out; omega); exact Lib.hid (by have := HM.out; omega); rintro e w' ⟨rfl, rfl⟩; rw [HK.out]))
  refine bodyPost_ret (v := .tuple #[.agg #[.int .i64 (n : Int), .int .i64 (O : Int), .int .i64 ((K : Int) + 1)], .nilIface]) (by simp [results, Tryd.results33, go_sem, c0, c1, c2]) rfl ⟨by rw [HSK.out]; rfl, ?_⟩
  exact ((HB2.out.setCell (p := ⟨w.heap.size, 0, none⟩) (Nat.le_refl _) _).setCell (p := ⟨w.heap.size, 1, none⟩) (Nat.le_refl _) _).setCell (p := ⟨w.heap.size, 2, none⟩) (Nat.le_refl _) _
set_option maxRecDepth 100000 in
set_option maxHeartbeats 4000000 in
theorem refofs_any (ao : Option Addr) (m c : Nat) (l : List UInt8) (n : Nat) (w : World) (hn : l.length = m) (hsz : m ≤ 1000000) (hnone : ao = none → m = 0 ∧ c = 0) (hc : Cells w ao l) (h2 : 2 ≤ n) (h251 : n ≤ 251) :
    Calls Tryd.prog 35 #[.slice ao m c, .int .i64 (n : Int)] w fun e w' => e = .returned (.tuple #[.int .i64 ((offs n l : Nat) : Int), .int .i64 ((skp n l : Nat) : Int)]) ∧ Below w.heap.size w w' := by
  have HC : Hid (∀ W, Below w.heap.size w W → Cells W ao l) := Lib.hid fun W hb => hc.below hb rfl
  have HN := Lib.hid hn
  have HNO := Lib.hid hnone
  obtain ⟨H1, hH1⟩ : ∃ H, hs 1#64 l = H := ⟨_, rfl⟩
  obtain ⟨H2, hH2⟩ : ∃ H, hs 2#64 l = H := ⟨_, rfl⟩
  obtain ⟨O, hO⟩ : ∃ O, offs n l = O := ⟨_, rfl⟩
  obtain ⟨K, hK⟩ : ∃ K, (hs 2#64 l).toNat % (n - 1) = K := ⟨_, rfl⟩
  obtain ⟨n1, hn1⟩ : ∃ n1, n - 1 = n1 := ⟨_, rfl⟩
  have e1 : (n : Int) - 1 = (n1 : Int) := by omega
  have hn1' : 1 ≤ n1 := by omega
  have hKlt : K < n1 := by rw [← hK, hn1]; exact Nat.mod_lt _ (by omega)
  have hOlt : O < n := by rw [← hO]; exact Nat.mod_lt _ (by omega)
  have q1 : (H1.toNat : Int).tmod (n : Int) = (O : Int) := by rw [Int.tmod_eq_emod_of_nonneg (by omega), ← hO, ← hH1]; unfold offs; rw [Int.natCast_emod]
  have q2 : (H2.toNat : Int).tmod (n1 : Int) = (K : Int) := by rw [Int.tmod_eq_emod_of_nonneg (by omega), ← hK, ← hH2, hn1, Int.natCast_emod]
  have q3 : IntKind.u64.wrap (n : Int) = (n : Int) := by rw [IntKind.wrap_u64]; omega
  have q4 : IntKind.u64.wrap (n1 : Int) = (n1 : Int) := by rw [IntKind.wrap_u64]; omega
  have q5 : IntKind.i64.wrap (O : Int) = (O : Int) := by rw [IntKind.wrap_i64]; omega
  have q6 : IntKind.i64.wrap (K : Int) = (K : Int) := by rw [IntKind.wrap_i64]; omega
  have q7 : IntKind.i64.wrap (1 + (K : Int)) = 1 + (K : Int) := by rw [IntKind.wrap_i64]; omega
  have HSK : Hid (((skp n l : Nat) : Int) = 1 + (K : Int)) := Lib.hid (by unfold skp; rw [hK]; omega)
  have HS1 := Lib.hid hH1
  have HS2 := Lib.hid hH2
  have HM : Hid (m ≤ 1000000) := Lib.hid hsz
  have b1 : (K : Int) < 251 := by omega
  have b2 : (2 : Int) ≤ (n : Int) := by omega
  have b3 : (n : Int) ≤ 251 := by omega
  have b4 : (1 : Int) ≤ (n1 : Int) := by omega
  have z1 : ¬ n = 0 := by omega
  have z2 : ¬ n1 = 0 := by omega
  have z3 : ((n : Int) == 0) = false := by rw [beq_eq_false_iff_ne]; omega
  have z4 : ((n1 : Int) == 0) = false := by rw [beq_eq_false_iff_ne]; omega
  rw [hO]
  clear hn hnone hc hH1 hH2 hO hK hn1 hn1' hKlt hOlt hsz h2 h251
  go_enter Tryd.func35, Tryd.ntmps35
  go_wp2_with fail
  go_region_held3 (fun w' => Below w.heap.size w w') (first | exact HB2.out | exact HB1.out | exact (Below.refl _ _).drew) (first | (go_at_call 44; (with_reducible refine (rseed1 l _ _ _ _ HN.out ?_ HNO.out (HC.out _ ?_) H1 HS1).mono ?_); (have := HM.out; omega); (first | exact HB2.out | exact (Below.refl _ _).drew); rintro e w1 ⟨rfl, hb⟩; have HB1 := Lib.hid ((show Below w.heap.size w _ from by first | exact HB2.out | exact (Below.refl _ _).drew).trans (hb.mono (by first | exact HB2.out.size | exact Nat.le_refl _))); clear hb) | (go_at_call 44; (with_reducible refine (rseed2 l _ _ _ _ HN.out ?_ HNO.out (HC.out _ ?_) H2 HS2).mono ?_); (have := HM.out; omega); (first | exact HB1.out | exact (Below.refl _ _).drew); rintro e w2 ⟨rfl, hb⟩; have HB2 := Lib.hid ((show Below w.heap.size w _ from by first | exact HB1.out | exact (Below.refl _ _).drew).trans (hb.mono (by first | exact HB1.out.size | exact Nat.le_refl _))); clear hb))
  go_wp2_with fail
  go_ret2
  exact ⟨by rw [HSK.out]; rfl, HB2.out⟩
/-- '==' of two strides. -/
theorem eq_stride (a b c x y z : Int) (w : World) : Sem.run Tryd.prog (binOp .eql 38 (.agg #[.int .i64 a, .int .i64 b, .int .i64 c]) (.agg #[.int .i64 x, .int .i64 y, .int .i64 z])) w = .ok (.bool (a == x && (b == y && c == z))) w := by
  have u3 := Tryd.underlying3
  have hS : Tryd.prog.underlying 38 = some (.struct (Tryd.prog.fieldsOf 38)) := by kernel_rfl
  rw [run_eql_struct, show (10000 : Nat) = 9999 + 1 from rfl, run_equalIn_agg w 9999 38 _ _ hS (by kernel_rfl)]
  simp only [Program.fieldsOf, Tryd.underlying38]
  go_simp
  by_cases h1 : a = x <;> by_cases h2 : b = y <;> by_cases h3 : c = z <;> simp [h1, h2, h3]
end Go.Proofs.YtifdbjombgcfcaaDoor
