/- Plain facts on sums of bytes, folded sums and checksums. No program in sight. -/
import Derived.RowKit
namespace Go.Proofs.YtilhioiocfllhaaDoor.SumsMath
open Go Go.RowKit

/-- The number of the first two bytes. -/
def pairV : List UInt8 → Int
  | [] => 0
  | [x] => (x.toNat : Int) * 256
  | x :: y :: _ => (x.toNat : Int) * 256 + (y.toNat : Int)
theorem pairV_bd (l : List UInt8) : 0 ≤ pairV l ∧ pairV l ≤ 65535 := by
  match l with
  | [] => exact ⟨by simp [pairV], by simp [pairV]⟩
  | [x] => have := x.toNat_lt; simp only [pairV]; omega
  | x :: y :: _ => have := x.toNat_lt; have := y.toNat_lt; simp only [pairV]; omega
/-- The first k pairs' sum. -/
def sumTo (l : List UInt8) : Nat → Int
  | 0 => 0
  | k + 1 => sumTo l k + pairV (l.drop (2 * k))
theorem sumTo_bd (l : List UInt8) : ∀ k : Nat, 0 ≤ sumTo l k ∧ sumTo l k ≤ 65535 * (k : Int)
  | 0 => ⟨Int.le_refl _, Int.le_refl _⟩
  | k + 1 => by
    have h := sumTo_bd l k
    have h2 := pairV_bd (l.drop (2 * k))
    simp only [sumTo]
    omega
/-- All pairs' sum. -/
def tot (l : List UInt8) : Int := sumTo l ((l.length + 1) / 2)
theorem tot_bd (l : List UInt8) : 0 ≤ tot l ∧ tot l ≤ 65535 * (l.length : Int) := by
  have h := sumTo_bd l ((l.length + 1) / 2)
  unfold tot
  omega
/-- The reference's way: byte by byte. -/
def refTo (l : List UInt8) : Nat → Int
  | 0 => 0
  | i + 1 => refTo l i + (if i % 2 = 0 then ((l.getD i 0).toNat : Int) * 256 else ((l.getD i 0).toNat : Int))
theorem refTo_bd (l : List UInt8) : ∀ k : Nat, 0 ≤ refTo l k ∧ refTo l k ≤ 65280 * (k : Int)
  | 0 => ⟨Int.le_refl _, Int.le_refl _⟩
  | k + 1 => by
    have h := refTo_bd l k
    have h2 := (l.getD k 0).toNat_lt
    simp only [refTo]
    split <;> omega
theorem pairV_drop (l : List UInt8) (k : Nat) : pairV (l.drop k) = if k < l.length then ((l.getD k 0).toNat : Int) * 256 + (if k + 1 < l.length then ((l.getD (k + 1) 0).toNat : Int) else 0) else 0 := by
  by_cases h : k < l.length
  · rw [if_pos h, List.drop_eq_getElem_cons h]
    by_cases h2 : k + 1 < l.length
    · rw [if_pos h2, List.drop_eq_getElem_cons h2]
      simp [pairV, List.getD, List.getElem?_eq_getElem h, List.getElem?_eq_getElem h2]
    · rw [if_neg h2, List.drop_eq_nil_of_le (by omega)]
      simp [pairV, List.getD, List.getElem?_eq_getElem h]
  · rw [if_neg h, List.drop_eq_nil_of_le (by omega)]; rfl
theorem getD_past (l : List UInt8) (k : Nat) (h : l.length ≤ k) : l.getD k 0 = 0 := by simp [List.getD, List.getElem?_eq_none h]
theorem refTo_pairs (l : List UInt8) : ∀ k, refTo l (2 * k) = sumTo l k
  | 0 => rfl
  | k + 1 => by
    have ih := refTo_pairs l k
    have e : refTo l (2 * (k + 1)) = refTo l (2 * k + 1) + (if (2 * k + 1) % 2 = 0 then ((l.getD (2 * k + 1) 0).toNat : Int) * 256 else ((l.getD (2 * k + 1) 0).toNat : Int)) := rfl
    have e2 : refTo l (2 * k + 1) = refTo l (2 * k) + (if (2 * k) % 2 = 0 then ((l.getD (2 * k) 0).toNat : Int) * 256 else ((l.getD (2 * k) 0).toNat : Int)) := rfl
    have e3 : sumTo l (k + 1) = sumTo l k + pairV (l.drop (2 * k)) := rfl
    have z1 : (2 * k) % 2 = 0 := by omega
    have z2 : ¬ (2 * k + 1) % 2 = 0 := by omega
    rw [e, e2, e3, ih, if_pos z1, if_neg z2, pairV_drop]
    by_cases h : 2 * k < l.length
    · by_cases h2 : 2 * k + 1 < l.length
      · rw [if_pos h, if_pos h2]; omega
      · rw [if_pos h, if_neg h2, getD_past l (2 * k + 1) (by omega)]; simp
    · rw [if_neg h, getD_past l (2 * k) (by omega), getD_past l (2 * k + 1) (by omega)]; simp
theorem refTo_all (l : List UInt8) : refTo l l.length = tot l := by
  unfold tot
  rw [← refTo_pairs]
  by_cases h : l.length % 2 = 0
  · rw [show 2 * ((l.length + 1) / 2) = l.length by omega]
  · have e : refTo l (l.length + 1) = refTo l l.length + (if l.length % 2 = 0 then ((l.getD l.length 0).toNat : Int) * 256 else ((l.getD l.length 0).toNat : Int)) := rfl
    rw [show 2 * ((l.length + 1) / 2) = l.length + 1 by omega, e, getD_past l _ (Nat.le_refl _), if_neg h]; simp

theorem sumTo_cons (x y : UInt8) (r : List UInt8) : ∀ k, sumTo (x :: y :: r) (k + 1) = ((x.toNat : Int) * 256 + (y.toNat : Int)) + sumTo r k
  | 0 => by simp [sumTo, pairV]
  | k + 1 => by
    have ih := sumTo_cons x y r k
    have e : sumTo (x :: y :: r) (k + 2) = sumTo (x :: y :: r) (k + 1) + pairV ((x :: y :: r).drop (2 * (k + 1))) := rfl
    have e2 : (x :: y :: r).drop (2 * (k + 1)) = r.drop (2 * k) := by
      rw [show 2 * (k + 1) = 2 * k + 1 + 1 by omega, List.drop_succ_cons, List.drop_succ_cons]
    have e3 : sumTo r (k + 1) = sumTo r k + pairV (r.drop (2 * k)) := rfl
    rw [e, e2, ih, e3]
    omega
theorem tot_nil : tot [] = 0 := rfl
theorem tot_cons (x y : UInt8) (r : List UInt8) : tot (x :: y :: r) = ((x.toNat : Int) * 256 + (y.toNat : Int)) + tot r := by
  unfold tot
  rw [← sumTo_cons]
  congr 1
  simp only [List.length_cons]
  omega
/-- An even part and the rest. -/
theorem tot_append (b : List UInt8) : ∀ (k : Nat) (a : List UInt8), a.length = 2 * k → tot (a ++ b) = tot a + tot b
  | 0, a, h => by
    have : a = [] := List.eq_nil_of_length_eq_zero (by omega)
    subst this
    simp [tot_nil]
  | k + 1, a, h => by
    match a, h with
    | x :: y :: r, h =>
      have ih := tot_append b k r (by simp at h; omega)
      rw [List.cons_append, List.cons_append, tot_cons, tot_cons, ih]
      omega
theorem sumTo_even (l : List UInt8) (k : Nat) (h : l.length = 2 * k) : tot l = sumTo l k := by
  unfold tot
  rw [h, show (2 * k + 1) / 2 = k by omega]

/-! ### The folded sum -/
/-- 0 of 0 and below, else from 1 to 65535, alike modulo 65535. -/
def fold (n : Int) : Int := if n ≤ 0 then 0 else (n - 1) % 65535 + 1
theorem fold_bd (n : Int) : 0 ≤ fold n ∧ fold n ≤ 65535 := by unfold fold; split <;> omega
theorem fold_small (n : Int) (h0 : 0 ≤ n) (h1 : n ≤ 65535) : fold n = n := by
  unfold fold
  split
  · omega
  · rw [Int.emod_eq_of_lt (by omega) (by omega)]; omega
theorem fold_step (n : Int) (h : 65535 < n) : fold (n / 65536 + n % 65536) = fold n := by
  unfold fold
  have h1 : ¬ n ≤ 0 := by omega
  have h2 : ¬ n / 65536 + n % 65536 ≤ 0 := by omega
  rw [if_neg h1, if_neg h2]
  have e : n - 1 = (n / 65536 + n % 65536 - 1) + 65535 * (n / 65536) := by omega
  rw [e, Int.add_mul_emod_self_left]
theorem fold_less (n : Int) (h : 65535 < n) : n / 65536 + n % 65536 < n := by omega
theorem fold_max (n : Int) : fold (max n 0) = fold n := by
  unfold fold
  split <;> split <;> omega
theorem fold_mod (n : Int) (h : 0 ≤ n) : fold n % 65535 = n % 65535 := by
  unfold fold
  split
  · have : n = 0 := by omega
    subst this; rfl
  · omega

/-! ### Checksums behind changes -/
/-- The low 16 bits. -/
def low (n : Int) : Int := n % 65536
theorem low_bd (n : Int) : 0 ≤ low n ∧ low n ≤ 65535 := by unfold low; omega
theorem low_id (n : Int) (h0 : 0 ≤ n) (h1 : n ≤ 65535) : low n = n := by unfold low; omega
/-- A checksum behind a change. -/
def chg (c a b : Int) : Int := 65535 - fold (65535 - low c + 65535 - low a + low b)
theorem chg_bd (c a b : Int) : 0 ≤ chg c a b ∧ chg c a b ≤ 65535 := by
  have := fold_bd (65535 - low c + 65535 - low a + low b)
  unfold chg; omega
theorem chg_mod (c a b : Int) (hc : 0 ≤ c ∧ c ≤ 65535) (ha : 0 ≤ a ∧ a ≤ 65535) (hb : 0 ≤ b ∧ b ≤ 65535) : chg c a b % 65535 = (c + a - b) % 65535 := by
  have h := fold_mod (65535 - low c + 65535 - low a + low b) (by have := low_bd c; have := low_bd a; have := low_bd b; omega)
  rw [low_id c hc.1 hc.2, low_id a ha.1 ha.2, low_id b hb.1 hb.2] at h
  unfold chg
  rw [low_id c hc.1 hc.2, low_id a ha.1 ha.2, low_id b hb.1 hb.2]
  omega
/-- A checksum behind the first k changes. -/
def chgs (c : Int) (a b : List UInt8) : Nat → Int
  | 0 => low c
  | k + 1 => chg (chgs c a b k) (pairV (a.drop (2 * k))) (pairV (b.drop (2 * k)))
theorem chgs_bd (c : Int) (a b : List UInt8) : ∀ k, 0 ≤ chgs c a b k ∧ chgs c a b k ≤ 65535
  | 0 => low_bd c
  | _ + 1 => chg_bd _ _ _
theorem chgs_mod (c : Int) (a b : List UInt8) : ∀ k, chgs c a b k % 65535 = (low c + sumTo a k - sumTo b k) % 65535
  | 0 => by simp [chgs, sumTo]
  | k + 1 => by
    have ih := chgs_mod c a b k
    have h := chg_mod (chgs c a b k) _ _ (chgs_bd c a b k) (pairV_bd (a.drop (2 * k))) (pairV_bd (b.drop (2 * k)))
    simp only [chgs, sumTo]
    rw [h]
    omega
/-- The checksum of bytes. -/
def ck (l : List UInt8) : Int := 65535 - fold (tot l)
theorem ck_bd (l : List UInt8) : 0 ≤ ck l ∧ ck l ≤ 65535 := by have := fold_bd (tot l); unfold ck; omega
theorem ck_mod (l : List UInt8) : (ck l + tot l) % 65535 = 0 := by
  have := fold_mod (tot l) (tot_bd l).1
  unfold ck; omega
/-- Do checksums tell the same? -/
def sameB (x y : Int) : Bool := decide ((x - y) % 65535 = 0)
/-- What is changed tells the same as what is reckoned anew. -/
theorem changed_same (p m s m' : List UInt8) (i k : Nat) (hp : p.length = 2 * i) (hm : m.length = 2 * k) (hm' : m'.length = 2 * k) :
    sameB (low (chgs (ck (p ++ (m ++ s))) m m' k)) (low (ck (p ++ (m' ++ s)))) = true := by
  have h1 := chgs_mod (ck (p ++ (m ++ s))) m m' k
  have h2 := ck_mod (p ++ (m ++ s))
  have h3 := ck_mod (p ++ (m' ++ s))
  have b1 := chgs_bd (ck (p ++ (m ++ s))) m m' k
  have b2 := ck_bd (p ++ (m' ++ s))
  have b3 := ck_bd (p ++ (m ++ s))
  rw [tot_append _ i p hp, tot_append _ k m hm] at h2
  rw [tot_append _ i p hp, tot_append _ k m' hm'] at h3
  rw [low_id _ b3.1 b3.2, ← sumTo_even m k hm, ← sumTo_even m' k hm'] at h1
  rw [low_id _ b1.1 b1.2, low_id _ b2.1 b2.2, sameB, decide_eq_true_iff]
  omega
end Go.Proofs.YtilhioiocfllhaaDoor.SumsMath
