/- Plain facts on 64-bit words: x ^ (x >> 33) undoes itself, and multiplying by an odd number is undone by its inverse. No program in sight. -/
import Derived.RowKit
namespace Go.Proofs.YtifdbjombgcfcaaDoor.HashMath
open Go

def c1 : BitVec 64 := BitVec.ofNat 64 18397679294719823053
def c2 : BitVec 64 := BitVec.ofNat 64 14181476777654086739
def hx (x : BitVec 64) : BitVec 64 := x ^^^ (x >>> 33)
def mixB (x : BitVec 64) : BitVec 64 := hx (hx (hx x * c1) * c2)
/-- The steps of the inverse, as the program reckons them. -/
def inv1 (odd x : BitVec 64) : BitVec 64 := x * (2 - odd * x)
def invSt (odd : BitVec 64) : Nat → BitVec 64
  | 0 => odd
  | k + 1 => inv1 odd (invSt odd k)
def invB (odd : BitVec 64) : BitVec 64 := invSt odd 5
def unmixB (y : BitVec 64) : BitVec 64 := hx (hx (hx y * invB c2) * invB c1)

theorem hx_hx (x : BitVec 64) : hx (hx x) = x := by
  unfold hx
  apply BitVec.eq_of_getLsbD_eq
  intro i hi
  simp only [BitVec.getLsbD_xor, BitVec.getLsbD_ushiftRight]
  have h : x.getLsbD (33 + (33 + i)) = false := BitVec.getLsbD_of_ge x _ (by omega)
  rw [h]
  cases x.getLsbD i <;> cases x.getLsbD (33 + i) <;> rfl
theorem inv_c1 : c1 * invB c1 = 1#64 := by decide +kernel
theorem inv_c2 : c2 * invB c2 = 1#64 := by decide +kernel
theorem inv_c1' : invB c1 * c1 = 1#64 := by decide +kernel
theorem inv_c2' : invB c2 * c2 = 1#64 := by decide +kernel
theorem unmix_mix (x : BitVec 64) : unmixB (mixB x) = x := by
  unfold unmixB mixB
  rw [hx_hx, BitVec.mul_assoc, inv_c2, BitVec.mul_one, hx_hx, BitVec.mul_assoc, inv_c1, BitVec.mul_one, hx_hx]
theorem mix_unmix (x : BitVec 64) : mixB (unmixB x) = x := by
  unfold unmixB mixB
  rw [hx_hx, BitVec.mul_assoc, inv_c1', BitVec.mul_one, hx_hx, BitVec.mul_assoc, inv_c2', BitVec.mul_one, hx_hx]
theorem mix_inj (x y : BitVec 64) : mixB x = mixB y ↔ x = y :=
  ⟨fun h => by rw [← unmix_mix x, h, unmix_mix], fun h => by rw [h]⟩

/-- FNV-1a goes on. -/
def fnvStep (h : BitVec 64) (c : UInt8) : BitVec 64 := (h ^^^ BitVec.ofNat 64 c.toNat) * 1099511628211#64
def fnv (h : BitVec 64) (l : List UInt8) : BitVec 64 := l.foldl fnvStep h
theorem fnv_take_succ (h : BitVec 64) (l : List UInt8) (k : Nat) (hk : k < l.length) : fnv h (l.take (k + 1)) = fnvStep (fnv h (l.take k)) (l.getD k 0) := by
  unfold fnv
  rw [List.take_succ_eq_append_getElem hk, List.foldl_append]
  simp [List.getD, List.getElem?_eq_getElem hk]

/-- The seed's bytes, from the highest on. -/
def seedBytes (x : BitVec 64) : List UInt8 := [UInt8.ofNat (x.toNat / 2 ^ 56), UInt8.ofNat (x.toNat / 2 ^ 48), UInt8.ofNat (x.toNat / 2 ^ 40), UInt8.ofNat (x.toNat / 2 ^ 32), UInt8.ofNat (x.toNat / 2 ^ 24), UInt8.ofNat (x.toNat / 2 ^ 16), UInt8.ofNat (x.toNat / 2 ^ 8), UInt8.ofNat (x.toNat / 2 ^ 0)]
theorem fnv_append (h : BitVec 64) (a b : List UInt8) : fnv h (a ++ b) = fnv (fnv h a) b := List.foldl_append
theorem of_step (x : BitVec 64) (k : Nat) (hk : k < 8) : fnv 14695981039346656037#64 ((seedBytes x).take (k + 1)) = fnv (fnv 14695981039346656037#64 ((seedBytes x).take k)) [(seedBytes x).getD k 0] :=
  fnv_take_succ _ _ _ hk
theorem sb_step (x : BitVec 64) (k : Nat) (hk : k < 8) : (seedBytes x).take (k + 1) = (seedBytes x).take k ++ [(seedBytes x).getD k 0] := by
  have hk' : k < (seedBytes x).length := hk
  rw [List.take_succ_eq_append_getElem hk']
  simp [List.getD, List.getElem?_eq_getElem hk']
theorem fnv_one (h : BitVec 64) (c : UInt8) : fnv h [c] = fnvStep h c := rfl

/-! ### The same on the numbers that the walk shows -/
theorem wrap_u64 (n : Int) : IntKind.u64.wrap n = n % 18446744073709551616 := by simp [IntKind.wrap, IntKind.bits, IntKind.signed]
theorem lt64 (x : BitVec 64) : (x.toNat : Int) < 18446744073709551616 := by have := x.isLt; omega
theorem of_int (n : Int) (h0 : 0 ≤ n) (h1 : n < 18446744073709551616) : ∃ x : BitVec 64, n = (x.toNat : Int) := by
  obtain ⟨m, rfl⟩ := Int.eq_ofNat_of_zero_le h0
  exact ⟨BitVec.ofNat 64 m, by rw [BitVec.toNat_ofNat, Nat.mod_eq_of_lt (by omega)]⟩
theorem of_wf {n : Int} (h : (Lit.int .u64 n).wf = true) : ∃ x : BitVec 64, n = (x.toNat : Int) := by
  simp [Lit.wf, IntKind.min, IntKind.max, IntKind.signed, IntKind.bits] at h
  exact of_int n (by omega) (by omega)
theorem xor_int (a b : BitVec 64) : bits .xor .u64 (a.toNat : Int) (b.toNat : Int) = ((a ^^^ b).toNat : Int) := by
  simp only [bits, IntKind.bits, BitVec.ofInt_natCast, BitVec.ofNat_toNat, BitVec.setWidth_eq]
  rw [wrap_u64]
  exact Int.emod_eq_of_lt (Int.natCast_nonneg _) (lt64 _)
theorem shr_int (a : BitVec 64) : (a.toNat : Int) / (8589934592 : Int) = ((a >>> 33).toNat : Int) := by
  rw [BitVec.toNat_ushiftRight, Nat.shiftRight_eq_div_pow]
  omega
theorem hx_int (a : BitVec 64) : bits .xor .u64 (a.toNat : Int) ((a.toNat : Int) / 8589934592) = ((hx a).toNat : Int) := by
  rw [show bits .xor .u64 (a.toNat : Int) ((a.toNat : Int) / 8589934592) = bits .xor .u64 (a.toNat : Int) ((a >>> 33).toNat : Int) from congrArg _ (shr_int a), xor_int, hx]
theorem mul_int (a b : BitVec 64) : ((a.toNat : Int) * (b.toNat : Int)) % 18446744073709551616 = ((a * b).toNat : Int) := by
  rw [BitVec.toNat_mul, Int.natCast_emod, Int.natCast_mul]
  rfl
theorem mul_c1 (x : BitVec 64) : IntKind.u64.wrap (bits .xor .u64 (x.toNat : Int) ((x.toNat : Int) / 8589934592) * 18397679294719823053) = ((hx x * c1).toNat : Int) := by
  rw [hx_int, wrap_u64, ← mul_int]; rfl
theorem mul_c2 (x : BitVec 64) : IntKind.u64.wrap (bits .xor .u64 (x.toNat : Int) ((x.toNat : Int) / 8589934592) * 14181476777654086739) = ((hx x * c2).toNat : Int) := by
  rw [hx_int, wrap_u64, ← mul_int]; rfl
theorem fnv_int (x : BitVec 64) (c : UInt8) : IntKind.u64.wrap (bits .xor .u64 (x.toNat : Int) (c.toNat : Int) * 1099511628211) = ((fnvStep x c).toNat : Int) := by
  have e : ((c.toNat : Nat) : Int) = ((BitVec.ofNat 64 c.toNat).toNat : Int) := by
    have := c.toNat_lt
    rw [BitVec.toNat_ofNat, Nat.mod_eq_of_lt (by omega)]
  rw [e, xor_int, wrap_u64, fnvStep, ← mul_int]; rfl
theorem sub2_int (y : BitVec 64) : IntKind.u64.wrap (2 - (y.toNat : Int)) = ((2#64 - y).toNat : Int) := by
  have h := lt64 y
  rw [wrap_u64, BitVec.toNat_sub, show (2#64 : BitVec 64).toNat = 2 from rfl]
  omega
theorem inv1_int (odd x : BitVec 64) : IntKind.u64.wrap ((x.toNat : Int) * IntKind.u64.wrap (2 - IntKind.u64.wrap ((odd.toNat : Int) * (x.toNat : Int)))) = ((inv1 odd x).toNat : Int) := by
  rw [wrap_u64 ((odd.toNat : Int) * _), mul_int, sub2_int, wrap_u64, mul_int]; rfl
theorem unhx_int (x y : BitVec 64) : IntKind.u64.wrap ((x.toNat : Int) * (y.toNat : Int)) = ((x * y).toNat : Int) := by
  rw [wrap_u64, mul_int]
theorem sbw (x : BitVec 64) (m : Nat) (p : Int) (hp : p = ((2 ^ m : Nat) : Int)) : IntKind.u8.wrap ((x.toNat : Int) / p) = ((UInt8.ofNat (x.toNat / 2 ^ m)).toNat : Int) := by
  subst hp
  have e : IntKind.u8.wrap ((x.toNat : Int) / ((2 ^ m : Nat) : Int)) = ((x.toNat : Int) / ((2 ^ m : Nat) : Int)) % 256 := by simp [IntKind.wrap, IntKind.bits, IntKind.signed]
  rw [e, UInt8.toNat_ofNat', Int.natCast_emod, Int.natCast_ediv]
  rfl
theorem sb56 (x : BitVec 64) : (x.toNat : Int) / 72057594037927936 = ((UInt8.ofNat (x.toNat / 2 ^ 56)).toNat : Int) := by
  have h := lt64 x
  rw [UInt8.toNat_ofNat']
  omega
theorem eq_int (a b : BitVec 64) : ((a.toNat : Int) = (b.toNat : Int)) ↔ a = b :=
  ⟨fun h => BitVec.eq_of_toNat_eq (by omega), fun h => by rw [h]⟩
theorem unlike (x y : BitVec 64) : ((((mixB x).toNat : Int) == ((mixB y).toNat : Int)) == ((x.toNat : Int) == (y.toNat : Int))) = true := by
  rw [beq_iff_eq, Bool.eq_iff_iff, beq_iff_eq, beq_iff_eq, eq_int, eq_int]
  exact mix_inj x y
end Go.Proofs.YtifdbjombgcfcaaDoor.HashMath
