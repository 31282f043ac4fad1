/- Plain facts on heads that were read. -/
import Derived.Test.YtilhioiocfllhaaDoorHeadSum
set_option linter.unusedVariables false
namespace Go.Proofs.YtilhioiocfllhaaDoor.HeadMath
open Go SumsMath
theorem ip4_part (l : List UInt8) (h0 : (ip4 HV.zero l).1 = 0) : ∃ p : Nat, (ip4 HV.zero l).2.part = (p : Int) ∧ p ≤ l.length ∧ 20 ≤ p ∧ p ≤ 60 ∧ (ip4 HV.zero l).2.ok := by
  unfold ip4 at h0 ⊢
  split at h0
  · cases h0
  · rename_i k1
    split at h0
    · cases h0
    · rename_i k2
      split at h0
      · cases h0
      · rename_i k3
        rw [if_neg k1, if_neg k2, if_neg k3]
        refine ⟨pn l, rfl, by omega, by omega, by unfold pn; omega, ?_, ?_⟩
        · exact adr_length _ (by rw [List.length_take]; omega)
        · exact adr_length _ (by rw [List.length_take]; omega)
theorem ip6_part (l : List UInt8) (h0 : (ip6 HV.zero l).1 = 0) : ∃ p : Nat, (ip6 HV.zero l).2.part = (p : Int) ∧ p ≤ l.length ∧ 20 ≤ p ∧ p ≤ 60 ∧ (ip6 HV.zero l).2.ok := by
  unfold ip6 at h0 ⊢
  split at h0
  · cases h0
  · rename_i k1
    split at h0
    · cases h0
    · rename_i k2
      rw [if_neg k1, if_neg k2]
      refine ⟨40, rfl, by omega, by omega, by omega, ?_, ?_⟩
      · exact adr_length _ (by rw [List.length_take]; omega)
      · exact adr_length _ (by rw [List.length_take]; omega)
theorem own_ok (h : HV) (q : List UInt8) (ho : h.ok) : (ownH h q).2.ok := by
  unfold ownH tcpH udpH
  split <;> split <;> exact ho
end Go.Proofs.YtilhioiocfllhaaDoor.HeadMath
