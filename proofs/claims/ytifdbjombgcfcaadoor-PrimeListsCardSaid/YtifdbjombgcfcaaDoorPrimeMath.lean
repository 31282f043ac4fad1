/- Plain facts on least divisors, primes, powers modulo a number, and Fermat's little theorem. No program in sight. -/
namespace Go.Proofs.YtifdbjombgcfcaaDoor.PrimeMath

/-! ### The least divisor -/
def lfFrom (n : Nat) : Nat → Nat → Nat
  | 0, _ => n
  | f + 1, d => if n % d = 0 then d else lfFrom n f (d + 1)
/-- The least divisor from 2 on (of a number from 2 on). -/
def lf (n : Nat) : Nat := lfFrom n n 2

theorem lfFrom_spec (n : Nat) (hn : 2 ≤ n) : ∀ f d, 2 ≤ d → d ≤ n → n ≤ f + d → (∀ e, 2 ≤ e → e < d → n % e ≠ 0) →
    2 ≤ lfFrom n f d ∧ lfFrom n f d ≤ n ∧ n % lfFrom n f d = 0 ∧ ∀ e, 2 ≤ e → e < lfFrom n f d → n % e ≠ 0
  | 0, d, h1, h2, h3, h4 => by
    have hd : d = n := by omega
    subst hd
    exact ⟨h1, Nat.le_refl _, Nat.mod_self _, h4⟩
  | f + 1, d, h1, h2, h3, h4 => by
    unfold lfFrom
    by_cases h : n % d = 0
    · rw [if_pos h]; exact ⟨h1, h2, h, h4⟩
    · rw [if_neg h]
      have hd : d ≠ n := fun e => h (by rw [e]; exact Nat.mod_self _)
      refine lfFrom_spec n hn f (d + 1) (by omega) (by omega) (by omega) fun e he1 he2 => ?_
      by_cases hed : e = d
      · rw [hed]; exact h
      · exact h4 e he1 (by omega)
theorem lf_spec (n : Nat) (hn : 2 ≤ n) : 2 ≤ lf n ∧ lf n ≤ n ∧ n % lf n = 0 ∧ ∀ e, 2 ≤ e → e < lf n → n % e ≠ 0 :=
  lfFrom_spec n hn n 2 (Nat.le_refl _) hn (by omega) (fun _ _ _ => by omega)
theorem lf_unique (n r : Nat) (hn : 2 ≤ n) (h1 : 2 ≤ r) (h2 : n % r = 0) (h3 : ∀ e, 2 ≤ e → e < r → n % e ≠ 0) : lf n = r := by
  obtain ⟨a, _, c, d⟩ := lf_spec n hn
  rcases Nat.lt_trichotomy (lf n) r with h | h | h
  · exact absurd c (h3 _ a h)
  · exact h
  · exact absurd h2 (d _ h1 h)
/-- No divisor up to the root: the number itself is the least. -/
theorem lf_self (n d : Nat) (hn : 2 ≤ n) (hd : n < d * d) (h : ∀ e, 2 ≤ e → e < d → n % e ≠ 0) : lf n = n := by
  obtain ⟨a, b, c, e⟩ := lf_spec n hn
  rcases Nat.lt_or_ge (lf n) n with hlt | hge
  · exfalso
    obtain ⟨q, hq⟩ := Nat.dvd_of_mod_eq_zero c
    have hdl : d ≤ lf n := by
      rcases Nat.lt_or_ge (lf n) d with h' | h'
      · exact absurd c (h _ a h')
      · exact h'
    have hq2 : 2 ≤ q := by
      rcases q with _ | _ | q
      · omega
      · omega
      · omega
    have hqd : n % q = 0 := by rw [hq]; exact Nat.mul_mod_left _ _
    have hlq : lf n ≤ q := by
      rcases Nat.lt_or_ge q (lf n) with h' | h'
      · exact absurd hqd (e q hq2 h')
      · exact h'
    have : d * d ≤ lf n * q := Nat.mul_le_mul hdl (Nat.le_trans hdl hlq)
    omega
  · omega
theorem lf_lf (n : Nat) (hn : 2 ≤ n) : lf (lf n) = lf n := by
  obtain ⟨a, _, c, d⟩ := lf_spec n hn
  refine lf_unique _ _ a a (Nat.mod_self _) fun e h1 h2 h3 => d e h1 h2 ?_
  exact Nat.mod_eq_zero_of_dvd (Nat.dvd_trans (Nat.dvd_of_mod_eq_zero h3) (Nat.dvd_of_mod_eq_zero c))
/-- A divisor below the number: its square is no more. -/
theorem lf_sq (n : Nat) (hn : 2 ≤ n) (h : lf n ≠ n) : lf n * lf n ≤ n := by
  obtain ⟨a, b, c, e⟩ := lf_spec n hn
  rcases Nat.lt_or_ge n (lf n * lf n) with h' | h'
  · exact absurd (lf_self n (lf n) hn h' e) h
  · exact h'
/-- Is it prime? -/
def isP (n : Nat) : Bool := decide (2 ≤ n) && decide (lf n = n)
theorem isP_iff (n : Nat) : isP n = true ↔ 2 ≤ n ∧ lf n = n := by simp [isP]
theorem isP_two : isP 2 = true := by decide
theorem isP_odd (n d : Nat) (hn : 2 ≤ n) (hodd : n % 2 = 1) (hd : n < d * d) (h : ∀ e, 3 ≤ e → e < d → e % 2 = 1 → n % e ≠ 0) : lf n = n := by
  refine lf_self n d hn hd fun e h1 h2 h3 => ?_
  by_cases he : e % 2 = 1
  · exact h e (by omega) h2 he h3
  · have : 2 ∣ n := Nat.dvd_trans (Nat.dvd_of_mod_eq_zero (by omega)) (Nat.dvd_of_mod_eq_zero h3)
    have := Nat.mod_eq_zero_of_dvd this
    omega

/-! ### 2^31 - 1 is prime -/
def chk : Nat → Nat → Bool
  | 0, d => Nat.ble d 1 || !(Nat.beq (Nat.mod 2147483647 d) 0)
  | f + 1, d => chk f d && chk f (Nat.add d (Nat.pow 2 f))
theorem chk_spec : ∀ f d, chk f d = true → ∀ e, d ≤ e → e < d + 2 ^ f → 2 ≤ e → 2147483647 % e ≠ 0
  | 0, d, h, e, h1, h2, h3 => by
    have he : e = d := by omega
    subst he
    simp only [chk, Bool.or_eq_true, Bool.not_eq_true'] at h
    rcases h with h | h
    · have := Nat.le_of_ble_eq_true h; omega
    · intro h0
      have : Nat.beq (Nat.mod 2147483647 e) 0 = true := by
        show Nat.beq (2147483647 % e) 0 = true
        rw [h0]
        rfl
      rw [this] at h
      cases h
  | f + 1, d, h, e, h1, h2, h3 => by
    simp only [chk, Bool.and_eq_true] at h
    rcases Nat.lt_or_ge e (d + 2 ^ f) with h' | h'
    · exact chk_spec f d h.1 e h1 h' h3
    · refine chk_spec f _ h.2 e h' ?_ h3
      show e < d + 2 ^ f + 2 ^ f
      have : 2 ^ (f + 1) = 2 ^ f + 2 ^ f := by rw [Nat.pow_succ]; omega
      omega
theorem chk_all : chk 16 0 = true := by decide +kernel
theorem mersenne : isP 2147483647 = true := by
  rw [isP_iff]
  exact ⟨by omega, lf_self _ 46341 (by omega) (by omega) fun e h1 h2 => chk_spec 16 0 chk_all e (by omega) (by omega) h1⟩

/-! ### Powers modulo a number -/
theorem pow_half_even (b k : Nat) (h : k % 2 = 0) : b ^ k = b ^ (k / 2) * b ^ (k / 2) := by
  rw [← Nat.pow_add]; congr 1; omega
theorem pow_half_odd (b k : Nat) (h : k % 2 = 1) : b ^ k = b ^ (k / 2) * b ^ (k / 2) * b := by
  rw [← Nat.pow_add, ← Nat.pow_succ]; congr 1; omega
theorem pow_step_even (o b k p : Nat) (h : k % 2 = 0) : (o * (b * b % p) ^ (k / 2)) % p = (o * b ^ k) % p := by
  rw [pow_half_even b k h, ← Nat.mul_pow, Nat.mul_mod, Nat.pow_mod, Nat.mod_mod, ← Nat.pow_mod, ← Nat.mul_mod]
theorem pow_step_odd (o b k p : Nat) (h : k % 2 = 1) : (o * b % p * (b * b % p) ^ (k / 2)) % p = (o * b ^ k) % p := by
  have e : o * b ^ k = o * b * (b * b) ^ (k / 2) := by
    rw [pow_half_odd b k h, Nat.mul_pow, Nat.mul_assoc o b, Nat.mul_comm b]
  rw [e, Nat.mul_mod, Nat.mod_mod, Nat.pow_mod, Nat.mod_mod, ← Nat.pow_mod, ← Nat.mul_mod]
/-- The power's rest. -/
def pw (b k p : Nat) : Nat := b ^ k % p
theorem pw_zero (b p : Nat) : pw b 0 p = 1 % p := by simp [pw]
theorem pw_even (b k p : Nat) (h : k % 2 = 0) : pw b k p = pw b (k / 2) p * pw b (k / 2) p % p := by
  unfold pw; rw [← Nat.mul_mod, ← pow_half_even b k h]
theorem pw_odd (b k p : Nat) (h : k % 2 = 1) : pw b k p = pw b (k / 2) p * pw b (k / 2) p % p * (b % p) % p := by
  unfold pw; rw [pow_half_odd b k h, Nat.mul_mod (b ^ (k / 2) * b ^ (k / 2)) b, Nat.mul_mod (b ^ (k / 2)) (b ^ (k / 2))]
theorem pw_lt (b k p : Nat) (h : 0 < p) : pw b k p < p := Nat.mod_lt _ h
theorem pw_base (b k p : Nat) : pw (b % p) k p = pw b k p := by unfold pw; rw [← Nat.pow_mod]

/-! ### Fermat -/
def ch : Nat → Nat → Nat
  | _, 0 => 1
  | 0, _ + 1 => 0
  | n + 1, k + 1 => ch n k + ch n (k + 1)
theorem ch_absorb : ∀ n k, (k + 1) * ch (n + 1) (k + 1) = (n + 1) * ch n k
  | 0, 0 => rfl
  | 0, k + 1 => by simp [ch]
  | n + 1, 0 => by
    have h := ch_absorb n 0
    simp only [ch, Nat.zero_add, Nat.one_mul, Nat.mul_one] at h ⊢
    omega
  | n + 1, k + 1 => by
    have h1 := ch_absorb n k
    have h2 := ch_absorb n (k + 1)
    have e : ch (n + 2) (k + 2) = ch (n + 1) (k + 1) + ch (n + 1) (k + 2) := rfl
    have e2 : ch (n + 1) (k + 1) = ch n k + ch n (k + 1) := rfl
    rw [e, Nat.mul_add, h2, show k + 1 + 1 = (k + 1) + 1 from rfl, Nat.add_mul, h1, Nat.one_mul]
    rw [e2, Nat.add_mul (n + 1) 1, Nat.one_mul, Nat.mul_add]
    omega
theorem ch_top : ∀ n k, n < k → ch n k = 0
  | 0, 0, h => absurd h (by omega)
  | 0, _ + 1, _ => rfl
  | n + 1, 0, h => absurd h (by omega)
  | n + 1, k + 1, h => by simp only [ch]; rw [ch_top n k (by omega), ch_top n (k + 1) (by omega)]
theorem ch_self : ∀ n, ch n n = 1
  | 0 => rfl
  | n + 1 => by simp only [ch]; rw [ch_self n, ch_top n (n + 1) (by omega)]
/-- The sum of C(n, k) a^k for k < m. -/
def sm (n a : Nat) : Nat → Nat
  | 0 => 0
  | m + 1 => sm n a m + ch n m * a ^ m
theorem sm_succ (n a : Nat) : ∀ m, sm (n + 1) a (m + 1) = sm n a (m + 1) + a * sm n a m
  | 0 => by simp [sm, ch]
  | m + 1 => by
    have ih := sm_succ n a m
    have e : sm (n + 1) a (m + 2) = sm (n + 1) a (m + 1) + ch (n + 1) (m + 1) * a ^ (m + 1) := rfl
    have e2 : sm n a (m + 2) = sm n a (m + 1) + ch n (m + 1) * a ^ (m + 1) := rfl
    have e3 : sm n a (m + 1) = sm n a m + ch n m * a ^ m := rfl
    have e4 : ch (n + 1) (m + 1) = ch n m + ch n (m + 1) := rfl
    have e5 : a * (ch n m * a ^ m) = ch n m * a ^ (m + 1) := by rw [Nat.pow_succ, Nat.mul_left_comm, Nat.mul_comm (a ^ m) a]
    rw [e, ih, e2, e4, Nat.add_mul]
    rw [show a * sm n a (m + 1) = a * sm n a m + ch n m * a ^ (m + 1) by rw [e3, Nat.mul_add, e5]]
    omega
theorem binom (a : Nat) : ∀ n, (a + 1) ^ n = sm n a (n + 1)
  | 0 => by simp [sm, ch]
  | n + 1 => by
    have ih := binom a n
    have h := sm_succ n a (n + 1)
    have e : sm n a (n + 2) = sm n a (n + 1) + ch n (n + 1) * a ^ (n + 1) := rfl
    rw [h, e, ch_top n (n + 1) (by omega), Nat.zero_mul, ← ih, Nat.pow_succ, Nat.mul_add, Nat.mul_one, Nat.mul_comm a]
    omega
theorem prime_coprime (p k : Nat) (hp : isP p = true) (h1 : 0 < k) (h2 : k < p) : Nat.Coprime p k := by
  obtain ⟨p2, pl⟩ := (isP_iff p).1 hp
  obtain ⟨_, _, _, hd⟩ := lf_spec p p2
  rw [pl] at hd
  have hg : Nat.gcd p k ∣ p := Nat.gcd_dvd_left p k
  have hg2 : Nat.gcd p k ≤ k := Nat.le_of_dvd h1 (Nat.gcd_dvd_right p k)
  have hg0 : 0 < Nat.gcd p k := Nat.gcd_pos_of_pos_right _ h1
  rcases Nat.lt_or_ge (Nat.gcd p k) 2 with h | h
  · show Nat.gcd p k = 1; omega
  · exact absurd (Nat.mod_eq_zero_of_dvd hg) (hd _ h (by omega))
theorem ch_dvd (p k : Nat) (hp : isP p = true) (h1 : 0 < k) (h2 : k < p) : p ∣ ch p k := by
  obtain ⟨p2, _⟩ := (isP_iff p).1 hp
  obtain ⟨k, rfl⟩ : ∃ m, k = m + 1 := ⟨k - 1, by omega⟩
  obtain ⟨q, rfl⟩ : ∃ m, p = m + 1 := ⟨p - 1, by omega⟩
  have h := ch_absorb q k
  have hd : (q + 1) ∣ (k + 1) * ch (q + 1) (k + 1) := by rw [h]; exact Nat.dvd_mul_right _ _
  exact (prime_coprime _ _ hp h1 h2).dvd_of_dvd_mul_left hd
theorem sm_mod (p a : Nat) (hp : isP p = true) : ∀ m, 0 < m → m ≤ p → sm p a m % p = 1 % p
  | 0, h, _ => absurd h (by omega)
  | 1, _, _ => by simp [sm, ch]
  | m + 2, _, h2 => by
    have ih := sm_mod p a hp (m + 1) (by omega) (by omega)
    have e : sm p a (m + 2) = sm p a (m + 1) + ch p (m + 1) * a ^ (m + 1) := rfl
    obtain ⟨q, hq⟩ := ch_dvd p (m + 1) hp (by omega) (by omega)
    rw [e, hq, Nat.mul_assoc, Nat.add_mul_mod_self_left, ih]
theorem fermat (p : Nat) (hp : isP p = true) : ∀ a, a ^ p % p = a % p
  | 0 => by
    obtain ⟨p2, _⟩ := (isP_iff p).1 hp
    rw [Nat.zero_pow (by omega)]
  | a + 1 => by
    obtain ⟨p2, _⟩ := (isP_iff p).1 hp
    have e : sm p a (p + 1) = sm p a p + ch p p * a ^ p := rfl
    rw [binom, e, ch_self, Nat.one_mul, Nat.add_mod, sm_mod p a hp p (by omega) (Nat.le_refl _), fermat p hp a, ← Nat.add_mod, Nat.add_comm]
/-- The inverse: a^(p-2) times a is 1. -/
theorem inverse_one (p a : Nat) (hp : isP p = true) (ha : a % p ≠ 0) : (pw a (p - 2) p * (a % p)) % p = 1 := by
  obtain ⟨p2, _⟩ := (isP_iff p).1 hp
  have hlt := Nat.mod_lt a (show 0 < p by omega)
  have hc := prime_coprime p (a % p) hp (by omega) hlt
  have h1 : pw a (p - 2) p * (a % p) % p = a ^ (p - 1) % p := by
    unfold pw
    rw [← Nat.mul_mod, ← Nat.pow_succ]
    congr 2
    omega
  have h2 : a * a ^ (p - 1) % p = a * 1 % p := by
    have : a * a ^ (p - 1) = a ^ p := by rw [Nat.mul_comm, ← Nat.pow_succ]; congr 1; omega
    rw [this, Nat.mul_one, fermat p hp]
  have hca : Nat.Coprime p a := by
    have := hc
    unfold Nat.Coprime at this ⊢
    rwa [Nat.gcd_comm p (a % p), ← Nat.gcd_rec] at this
  rw [h1]
  have ha0 : 0 < a := by
    rcases Nat.eq_zero_or_pos a with h | h
    · rw [h, Nat.zero_mod] at ha; exact absurd rfl ha
    · exact h
  have hx : 0 < a ^ (p - 1) := Nat.pow_pos ha0
  have h3 : p ∣ a * (a ^ (p - 1) - 1) := by
    rw [Nat.mul_sub]
    exact Nat.dvd_of_mod_eq_zero (Nat.sub_mod_eq_zero_of_mod_eq h2)
  obtain ⟨q, hq⟩ := hca.dvd_of_dvd_mul_left h3
  have h4 : a ^ (p - 1) = 1 + p * q := by omega
  rw [h4, Nat.add_mul_mod_self_left]
  exact Nat.mod_eq_of_lt (by omega)
end Go.Proofs.YtifdbjombgcfcaaDoor.PrimeMath
