/- What a head is, in plain Lean. -/
import Derived.Test.YtilhioiocfllhaaDoorSumsMath
import Derived.Test.YtilhioiocfllhaaDoorAddr
set_option linter.unusedVariables false
namespace Go.Proofs.YtilhioiocfllhaaDoor.HeadMath
open Go SumsMath

def byt (l : List UInt8) (k : Nat) : Int := ((l.getD k 0).toNat : Int)
theorem byt_bd (l : List UInt8) (k : Nat) : 0 ≤ byt l k ∧ byt l k ≤ 255 := by
  have := (l.getD k 0).toNat_lt
  unfold byt; omega
/-- The number of two bytes at a place. -/
def two (l : List UInt8) (k : Nat) : Int := byt l k * 256 + byt l (k + 1)
theorem two_bd (l : List UInt8) (k : Nat) : 0 ≤ two l k ∧ two l k ≤ 65535 := by
  have := byt_bd l k
  have := byt_bd l (k + 1)
  unfold two; omega
/-- An address's sixteen bytes. -/
def adr (l : List UInt8) : List UInt8 := l ++ List.replicate (16 - l.length) 0
theorem adr_length (l : List UInt8) (h : l.length ≤ 16) : (adr l).length = 16 := by unfold adr; simp; omega
def adrC (six : Bool) (l : List UInt8) : List Value := .bool six :: l.map u8v
theorem isAddr_adrC (six : Bool) (l : List UInt8) (h : l.length = 16) : IsAddr (adrC six l) six l := ⟨h, rfl⟩
structure HV where
  proto : Int
  six1 : Bool
  l1 : List UInt8
  p1 : Int
  six2 : Bool
  l2 : List UInt8
  p2 : Int
  flags : Int
  part : Int
  body : Int
def z16 : List UInt8 := List.replicate 16 0
def HV.zero : HV := ⟨0, false, z16, 0, false, z16, 0, 0, 0, 0⟩
def HV.cells (h : HV) : List Value :=
  .int .i64 h.proto :: (adrC h.six1 h.l1 ++ (.int .i64 h.p1 :: (adrC h.six2 h.l2 ++ [.int .i64 h.p2, .int .i64 h.flags, .int .i64 h.part, .int .i64 h.body])))
def HV.ok (h : HV) : Prop := h.l1.length = 16 ∧ h.l2.length = 16
theorem HV.cells_length {h : HV} (ho : h.ok) : h.cells.length = 40 := by simp [HV.cells, adrC, ho.1, ho.2]
end Go.Proofs.YtilhioiocfllhaaDoor.HeadMath
