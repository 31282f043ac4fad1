/- Plain facts on what Parse tells, and heads compared. -/
import Derived.Test.YtilhioiocfllhaaDoorHeadRef
import Derived.Stop.BytesEq
import Derived.Laws.StructEq
namespace Go.Proofs.YtilhioiocfllhaaDoor.HeadMath
open Go SumsMath
theorem ip4_le (l : List UInt8) : (ip4 HV.zero l).1 ≤ 17 ∧ (ip4 HV.zero l).2.ok := by
  unfold ip4
  split
  · exact ⟨by decide, rfl, rfl⟩
  · split
    · exact ⟨by decide, rfl, rfl⟩
    · split
      · exact ⟨by decide, rfl, rfl⟩
      · exact ⟨Nat.zero_le _, adr_length _ (by rw [List.length_take]; omega), adr_length _ (by rw [List.length_take]; omega)⟩
theorem ip6_le (l : List UInt8) : (ip6 HV.zero l).1 ≤ 17 ∧ (ip6 HV.zero l).2.ok := by
  unfold ip6
  split
  · exact ⟨by decide, rfl, rfl⟩
  · split
    · exact ⟨by decide, rfl, rfl⟩
    · exact ⟨Nat.zero_le _, adr_length _ (by rw [List.length_take]; omega), adr_length _ (by rw [List.length_take]; omega)⟩
theorem own_le (h : HV) (q : List UInt8) : (ownH h q).1 ≤ 17 := by
  unfold ownH tcpH udpH
  split <;> split <;> first | exact Nat.zero_le _ | exact (by decide : (4 : Nat) ≤ 17)
theorem afterOwn_facts (r : Nat × HV) (q : List UInt8) (h : r.1 ≤ 17) (ho : r.2.ok) : (afterOwn r q).1 ≤ 17 ∧ ((afterOwn r q).1 ≠ 0 → (afterOwn r q).2 = HV.zero) ∧ (afterOwn r q).2.ok := by
  unfold afterOwn
  split
  · exact ⟨h, fun _ => rfl, rfl, rfl⟩
  · split
    · exact ⟨by decide, fun _ => rfl, rfl, rfl⟩
    · split
      · exact ⟨Nat.zero_le _, fun h => (h rfl).elim, ho⟩
      · exact ⟨by decide, fun _ => rfl, rfl, rfl⟩
theorem afterIp_facts (r : Nat × HV) (l : List UInt8) (h : r.1 ≤ 17) (ho : r.2.ok) : (afterIp r l).1 ≤ 17 ∧ ((afterIp r l).1 ≠ 0 → (afterIp r l).2 = HV.zero) ∧ (afterIp r l).2.ok := by
  unfold afterIp
  by_cases h1 : r.1 ≠ 0
  · rw [if_pos h1]; exact ⟨h, fun _ => rfl, rfl, rfl⟩
  · rw [if_neg h1]
    by_cases h2 : r.2.proto ≠ 6 ∧ r.2.proto ≠ 17
    · rw [if_pos h2]; exact ⟨(by decide : (17 : Nat) ≤ 17), fun _ => rfl, rfl, rfl⟩
    · rw [if_neg h2]
      by_cases h3 : (l.length : Int) - r.2.part < (if r.2.proto = 6 then 20 else 8)
      · rw [if_pos h3]; exact ⟨(by decide : (2 : Nat) ≤ 17), fun _ => rfl, rfl, rfl⟩
      · rw [if_neg h3]; exact afterOwn_facts _ _ (own_le _ _) (own_ok _ _ ho)
theorem parse_facts (l : List UInt8) : (parse l).1 ≤ 17 ∧ ((parse l).1 ≠ 0 → (parse l).2 = HV.zero) ∧ (parse l).2.ok := by
  unfold parse
  split
  · exact ⟨by decide, fun _ => rfl, rfl, rfl⟩
  · split
    · exact ⟨by decide, fun _ => rfl, rfl, rfl⟩
    · split
      · exact ⟨by decide, fun _ => rfl, rfl, rfl⟩
      · split
        · exact afterIp_facts _ _ (ip4_le l).1 (ip4_le l).2
        · exact afterIp_facts _ _ (ip6_le l).1 (ip6_le l).2
theorem len16 (l : List UInt8) (h : l.length = 16) : ∃ a0 a1 a2 a3 a4 a5 a6 a7 a8 a9 a10 a11 a12 a13 a14 a15, l = [a0, a1, a2, a3, a4, a5, a6, a7, a8, a9, a10, a11, a12, a13, a14, a15] := by
  match l, h with
  | [a0, a1, a2, a3, a4, a5, a6, a7, a8, a9, a10, a11, a12, a13, a14, a15], _ => exact ⟨_, _, _, _, _, _, _, _, _, _, _, _, _, _, _, _, rfl⟩
end Go.Proofs.YtilhioiocfllhaaDoor.HeadMath
namespace Go.Proofs.YtilhioiocfllhaaDoor
open Go.RowKit HeadMath SumsMath
set_option linter.unusedVariables false
set_option maxRecDepth 100000

/-- Addresses, points, heads that are the same compare as the same. -/
theorem eq_addr (d : Nat) (six : Bool) (l : List UInt8) (hl : l.length = 16) (w : World) : Sem.run Tryd.prog (Op.equalIn (d + 3) 46 (.agg (adrC six l).toArray) (.agg (adrC six l).toArray)) w = .ok true w := by
  have h2 : ∀ w, Sem.run Tryd.prog (Op.equalIn (d + 2) 44 (.agg (l.map u8v).toArray) (.agg (l.map u8v).toArray)) w = .ok true w := fun w => by
    have := run_equalIn_bytes (P := Tryd.prog) w d 44 5 16 Tryd.underlying44 Tryd.underlying5 (fun w => by kernel_rfl) l l hl hl
    rw [beq_self_eq_true] at this
    exact this
  have h1 : ∀ w, Sem.run Tryd.prog (Op.equalIn (d + 2) 4 (.bool six) (.bool six)) w = .ok true w := fun w => by
    rw [run_equalIn_bool' w (d + 1) 4 six six Tryd.underlying4, beq_self_eq_true]
  have hS : Tryd.prog.underlying 46 = some (.struct (Tryd.prog.fieldsOf 46)) := by kernel_rfl
  obtain ⟨a0, a1, a2, a3, a4, a5, a6, a7, a8, a9, a10, a11, a12, a13, a14, a15, rfl⟩ := len16 l hl
  have p1 : ∀ w, Sem.run Tryd.prog (part 4 (adrC six [a0, a1, a2, a3, a4, a5, a6, a7, a8, a9, a10, a11, a12, a13, a14, a15]).toArray 0) w = .ok (.bool six) w := fun w => by kernel_rfl
  have p2 : ∀ w, Sem.run Tryd.prog (part 44 (adrC six [a0, a1, a2, a3, a4, a5, a6, a7, a8, a9, a10, a11, a12, a13, a14, a15]).toArray 1) w = .ok (.agg ([a0, a1, a2, a3, a4, a5, a6, a7, a8, a9, a10, a11, a12, a13, a14, a15].map u8v).toArray) w := fun w => by kernel_rfl
  generalize (adrC six [a0, a1, a2, a3, a4, a5, a6, a7, a8, a9, a10, a11, a12, a13, a14, a15]).toArray = X at p1 p2 ⊢
  generalize (List.map u8v [a0, a1, a2, a3, a4, a5, a6, a7, a8, a9, a10, a11, a12, a13, a14, a15]).toArray = Y at p2 h2
  rw [run_equalIn_agg w (d + 2) _ _ _ hS (by kernel_rfl)]
  simp only [Program.fieldsOf, Tryd.underlying46]
  simp [Op.eqFields, p1, p2, h1, h2]
def ptC (six : Bool) (l : List UInt8) (p : Int) : List Value := adrC six l ++ [.int .i64 p]
theorem eq_point (d : Nat) (six : Bool) (l : List UInt8) (p : Int) (hl : l.length = 16) (w : World) : Sem.run Tryd.prog (Op.equalIn (d + 4) 48 (.agg (ptC six l p).toArray) (.agg (ptC six l p).toArray)) w = .ok true w := by
  have h1 : ∀ w, Sem.run Tryd.prog (Op.equalIn (d + 3) 3 (.int .i64 p) (.int .i64 p)) w = .ok true w := fun w => by
    rw [run_equalIn_int w (d + 2) 3 .i64 .i64 p p Tryd.underlying3, beq_self_eq_true]
  have h2 := fun w => eq_addr d six l hl w
  have hS : Tryd.prog.underlying 48 = some (.struct (Tryd.prog.fieldsOf 48)) := by kernel_rfl
  obtain ⟨a0, a1, a2, a3, a4, a5, a6, a7, a8, a9, a10, a11, a12, a13, a14, a15, rfl⟩ := len16 l hl
  have p1 : ∀ w, Sem.run Tryd.prog (part 46 (ptC six [a0, a1, a2, a3, a4, a5, a6, a7, a8, a9, a10, a11, a12, a13, a14, a15] p).toArray 0) w = .ok (.agg (adrC six [a0, a1, a2, a3, a4, a5, a6, a7, a8, a9, a10, a11, a12, a13, a14, a15]).toArray) w := fun w => by kernel_rfl
  have p2 : ∀ w, Sem.run Tryd.prog (part 3 (ptC six [a0, a1, a2, a3, a4, a5, a6, a7, a8, a9, a10, a11, a12, a13, a14, a15] p).toArray 17) w = .ok (.int .i64 p) w := fun w => by kernel_rfl
  generalize (ptC six [a0, a1, a2, a3, a4, a5, a6, a7, a8, a9, a10, a11, a12, a13, a14, a15] p).toArray = X at p1 p2 ⊢
  generalize (adrC six [a0, a1, a2, a3, a4, a5, a6, a7, a8, a9, a10, a11, a12, a13, a14, a15]).toArray = Y at p1 h2
  rw [run_equalIn_agg w (d + 3) _ _ _ hS (by kernel_rfl)]
  simp only [Program.fieldsOf, Tryd.underlying48]
  simp [Op.eqFields, p1, p2, h1, h2]
theorem eq_head (h : HV) (ho : h.ok) (w : World) : Sem.run Tryd.prog (binOp .eql 53 (.agg h.cells.toArray) (.agg h.cells.toArray)) w = .ok (.bool true) w := by
  obtain ⟨proto, six1, l1, p1, six2, l2, p2, flags, pt, body⟩ := h
  have hn : ∀ (x : Int) w, Sem.run Tryd.prog (Op.equalIn 9999 3 (.int .i64 x) (.int .i64 x)) w = .ok true w := fun x w => by
    rw [show (9999 : Nat) = 9998 + 1 from rfl, run_equalIn_int w 9998 3 .i64 .i64 x x Tryd.underlying3, beq_self_eq_true]
  have h1 : ∀ w, Sem.run Tryd.prog (Op.equalIn 9999 48 (.agg (ptC six1 l1 p1).toArray) (.agg (ptC six1 l1 p1).toArray)) w = .ok true w := fun w => eq_point 9995 six1 l1 p1 ho.1 w
  have h2 : ∀ w, Sem.run Tryd.prog (Op.equalIn 9999 48 (.agg (ptC six2 l2 p2).toArray) (.agg (ptC six2 l2 p2).toArray)) w = .ok true w := fun w => eq_point 9995 six2 l2 p2 ho.2 w
  have hS : Tryd.prog.underlying 53 = some (.struct (Tryd.prog.fieldsOf 53)) := by kernel_rfl
  have hl1 : l1.length = 16 := ho.1
  have hl2 : l2.length = 16 := ho.2
  clear ho
  obtain ⟨a0, a1, a2, a3, a4, a5, a6, a7, a8, a9, a10, a11, a12, a13, a14, a15, rfl⟩ := len16 l1 hl1
  obtain ⟨b0, b1, b2, b3, b4, b5, b6, b7, b8, b9, b10, b11, b12, b13, b14, b15, rfl⟩ := len16 l2 hl2
  have q0 : ∀ w, Sem.run Tryd.prog (part 3 (HV.cells ⟨proto, six1, [a0, a1, a2, a3, a4, a5, a6, a7, a8, a9, a10, a11, a12, a13, a14, a15], p1, six2, [b0, b1, b2, b3, b4, b5, b6, b7, b8, b9, b10, b11, b12, b13, b14, b15], p2, flags, pt, body⟩).toArray 0) w = .ok (.int .i64 proto) w := fun w => by kernel_rfl
  have q1 : ∀ w, Sem.run Tryd.prog (part 48 (HV.cells ⟨proto, six1, [a0, a1, a2, a3, a4, a5, a6, a7, a8, a9, a10, a11, a12, a13, a14, a15], p1, six2, [b0, b1, b2, b3, b4, b5, b6, b7, b8, b9, b10, b11, b12, b13, b14, b15], p2, flags, pt, body⟩).toArray 1) w = .ok (.agg (ptC six1 [a0, a1, a2, a3, a4, a5, a6, a7, a8, a9, a10, a11, a12, a13, a14, a15] p1).toArray) w := fun w => by kernel_rfl
  have q2 : ∀ w, Sem.run Tryd.prog (part 48 (HV.cells ⟨proto, six1, [a0, a1, a2, a3, a4, a5, a6, a7, a8, a9, a10, a11, a12, a13, a14, a15], p1, six2, [b0, b1, b2, b3, b4, b5, b6, b7, b8, b9, b10, b11, b12, b13, b14, b15], p2, flags, pt, body⟩).toArray 19) w = .ok (.agg (ptC six2 [b0, b1, b2, b3, b4, b5, b6, b7, b8, b9, b10, b11, b12, b13, b14, b15] p2).toArray) w := fun w => by kernel_rfl
  have q3 : ∀ w, Sem.run Tryd.prog (part 3 (HV.cells ⟨proto, six1, [a0, a1, a2, a3, a4, a5, a6, a7, a8, a9, a10, a11, a12, a13, a14, a15], p1, six2, [b0, b1, b2, b3, b4, b5, b6, b7, b8, b9, b10, b11, b12, b13, b14, b15], p2, flags, pt, body⟩).toArray 37) w = .ok (.int .i64 flags) w := fun w => by kernel_rfl
  have q4 : ∀ w, Sem.run Tryd.prog (part 3 (HV.cells ⟨proto, six1, [a0, a1, a2, a3, a4, a5, a6, a7, a8, a9, a10, a11, a12, a13, a14, a15], p1, six2, [b0, b1, b2, b3, b4, b5, b6, b7, b8, b9, b10, b11, b12, b13, b14, b15], p2, flags, pt, body⟩).toArray 38) w = .ok (.int .i64 pt) w := fun w => by kernel_rfl
  have q5 : ∀ w, Sem.run Tryd.prog (part 3 (HV.cells ⟨proto, six1, [a0, a1, a2, a3, a4, a5, a6, a7, a8, a9, a10, a11, a12, a13, a14, a15], p1, six2, [b0, b1, b2, b3, b4, b5, b6, b7, b8, b9, b10, b11, b12, b13, b14, b15], p2, flags, pt, body⟩).toArray 39) w = .ok (.int .i64 body) w := fun w => by kernel_rfl
  generalize (HV.cells ⟨proto, six1, [a0, a1, a2, a3, a4, a5, a6, a7, a8, a9, a10, a11, a12, a13, a14, a15], p1, six2, [b0, b1, b2, b3, b4, b5, b6, b7, b8, b9, b10, b11, b12, b13, b14, b15], p2, flags, pt, body⟩).toArray = X at q0 q1 q2 q3 q4 q5 ⊢
  generalize (ptC six1 [a0, a1, a2, a3, a4, a5, a6, a7, a8, a9, a10, a11, a12, a13, a14, a15] p1).toArray = Y1 at q1 h1
  generalize (ptC six2 [b0, b1, b2, b3, b4, b5, b6, b7, b8, b9, b10, b11, b12, b13, b14, b15] p2).toArray = Y2 at q2 h2
  rw [run_eql_struct, show (10000 : Nat) = 9999 + 1 from rfl, run_equalIn_agg w 9999 _ _ _ hS (by kernel_rfl)]
  simp only [Program.fieldsOf, Tryd.underlying53]
  simp [Op.eqFields, q0, q1, q2, q3, q4, q5, hn, h1, h2]
end Go.Proofs.YtilhioiocfllhaaDoor
