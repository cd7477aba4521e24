/- Plain arithmetic for package prime: powers modulo a number, least divisors. -/
namespace Go.Proofs.YtmpdcdfnbkfabaaDoor.PrimeP

/-! Remainders. -/
theorem tmod_bounds (a p : Int) (hp : 0 < p) : -p < a.tmod p ∧ a.tmod p < p := by
  constructor
  · rcases Int.le_total 0 a with h | h
    · have := Int.tmod_nonneg p h; omega
    · have h1 : (-a).tmod p = -(a.tmod p) := Int.neg_tmod a p
      have h2 := Int.tmod_lt_of_pos (-a) hp
      omega
  · exact Int.tmod_lt_of_pos a hp
theorem tmod_eq (a p : Int) (hp : 0 < p) : a.tmod p = a % p ∨ a.tmod p = a % p - p := by
  have h0 := Int.emod_nonneg a (show p ≠ 0 by omega)
  have h1 := Int.emod_lt_of_pos a hp
  have h2 := tmod_bounds a p hp
  have h3 := Int.mul_tdiv_add_tmod a p
  have h4 := Int.mul_ediv_add_emod a p
  have h5 : p * (a.tdiv p - a / p) = a % p - a.tmod p := by rw [Int.mul_sub]; omega
  have h6 : a.tdiv p - a / p = 0 ∨ a.tdiv p - a / p = 1 := by
    have : -1 < a.tdiv p - a / p := by
      apply Int.lt_of_mul_lt_mul_left (a := p) _ (by omega)
      rw [h5]; omega
    have : a.tdiv p - a / p < 2 := by
      apply Int.lt_of_mul_lt_mul_left (a := p) _ (by omega)
      rw [h5]; omega
    omega
  rcases h6 with h6 | h6
  · rw [h6] at h5; left; omega
  · rw [h6] at h5; right; omega
theorem rest_eq (a p : Int) (hp : 0 < p) : (a.tmod p + p).tmod p = a % p := by
  have hb := tmod_bounds a p hp
  rw [Int.tmod_eq_emod_of_nonneg (by omega), Int.add_emod_right]
  rcases tmod_eq a p hp with h | h <;> rw [h]
  · exact Int.emod_emod_of_dvd a (Int.dvd_refl p)
  · rw [Int.sub_emod_right]; exact Int.emod_emod_of_dvd a (Int.dvd_refl p)
theorem rest_eq' (a p : Int) (hp : 0 < p) : (a.tmod p + p) % p = a % p := by
  have hb := tmod_bounds a p hp
  have h := rest_eq a p hp
  rw [Int.tmod_eq_emod_of_nonneg (by omega)] at h
  exact h
theorem rest2_eq (a p : Int) (hp : 0 < p) : (if a.tmod p < 0 then a.tmod p + p else a.tmod p) = a % p := by
  have h0 := Int.emod_nonneg a (show p ≠ 0 by omega)
  have h1 := Int.emod_lt_of_pos a hp
  rcases tmod_eq a p hp with h | h <;> rw [h] <;> split <;> omega

/-! Powers. -/
theorem mod_mul (a b p : Int) : (a % p * b) % p = a * b % p := by
  rw [Int.mul_emod, Int.emod_emod_of_dvd _ (Int.dvd_refl p), ← Int.mul_emod]
theorem pow_step (out b p : Int) (k : Nat) : (out * b ^ (k + 1)) % p = ((out * b % p) * b ^ k) % p := by
  rw [Int.pow_succ', ← Int.mul_assoc, Int.mul_emod (out * b), Int.mul_emod (out * b % p) (b ^ k), Int.emod_emod_of_dvd (out * b) (Int.dvd_refl p)]
theorem pow_mod (b p : Int) (k : Nat) : (b % p) ^ k % p = b ^ k % p := by
  induction k with
  | zero => simp
  | succ k ih => rw [Int.pow_succ, Int.pow_succ, Int.mul_emod, ih, Int.emod_emod_of_dvd _ (Int.dvd_refl p), ← Int.mul_emod]
theorem pow_half (out b p : Int) (k : Nat) : (out * (b * b % p) ^ k) % p = (out * b ^ (2 * k)) % p := by
  rw [Int.mul_emod, pow_mod, ← Int.mul_emod, Int.pow_mul, show b ^ 2 = b * b by rw [Int.pow_succ, Int.pow_succ, Int.pow_zero, Int.one_mul]]
theorem pow_even (out b p : Int) (k : Nat) (h : k % 2 = 0) : (out * (b * b % p) ^ (k / 2)) % p = (out * b ^ k) % p := by
  rw [pow_half]; congr 3; omega
theorem pow_odd (out b p : Int) (k : Nat) (h : k % 2 = 1) : ((out * b % p) * (b * b % p) ^ (k / 2)) % p = (out * b ^ k) % p := by
  rw [pow_half, ← pow_step]; congr 3; omega
theorem mul_lt (a b m : Int) (ha : 0 ≤ a) (hb : 0 ≤ b) (ha' : a < m) (hb' : b < m) (hm : m ≤ 2147483648) : 0 ≤ a * b ∧ a * b ≤ 4611686018427387904 := by
  refine ⟨Int.mul_nonneg ha hb, ?_⟩
  have h1 : a * b ≤ 2147483648 * b := Int.mul_le_mul_of_nonneg_right (by omega) hb
  have h2 : 2147483648 * b ≤ 2147483648 * 2147483648 := Int.mul_le_mul_of_nonneg_left (by omega) (by omega)
  omega

/-! Least divisors. -/
/-- m is the least number from 2 on that divides n. -/
def LeastIs (n m : Nat) : Prop := 2 ≤ m ∧ m ≤ n ∧ n % m = 0 ∧ ∀ d, 2 ≤ d → d < m → n % d ≠ 0
def IsPrime (n : Nat) : Prop := 2 ≤ n ∧ ∀ d, 2 ≤ d → d < n → n % d ≠ 0
instance (n : Nat) : Decidable (IsPrime n) := decidable_of_iff (2 ≤ n ∧ ∀ d, d < n → 2 ≤ d → n % d ≠ 0) ⟨fun h => ⟨h.1, fun d h1 h2 => h.2 d h2 h1⟩, fun h => ⟨h.1, fun d h1 h2 => h.2 d h2 h1⟩⟩
/-- Is a number a prime up to 2^31? -/
def isP (n : Int) : Bool := decide (2 ≤ n ∧ n ≤ 2147483648 ∧ IsPrime n.toNat)
theorem LeastIs.unique {n m m' : Nat} (h : LeastIs n m) (h' : LeastIs n m') : m = m' := by
  rcases Nat.lt_trichotomy m m' with h1 | h1 | h1
  · exact absurd h.2.2.1 (h'.2.2.2 m h.1 h1)
  · exact h1
  · exact absurd h'.2.2.1 (h.2.2.2 m' h'.1 h1)
theorem LeastIs.prime_iff {n m : Nat} (h : LeastIs n m) : m = n ↔ IsPrime n := by
  constructor
  · rintro rfl; exact ⟨h.1, h.2.2.2⟩
  · intro hp
    rcases Nat.lt_or_ge m n with h1 | h1
    · exact absurd h.2.2.1 (hp.2 m h.1 h1)
    · exact Nat.le_antisymm h.2.1 h1
/-- No divisor up to the root: none at all. -/
theorem no_divisor {n d : Nat} (hd : n < d * d) (h : ∀ e, 2 ≤ e → e < d → n % e ≠ 0) : ∀ e, 2 ≤ e → e < n → n % e ≠ 0 := by
  intro e he hen h0
  obtain ⟨q, hq⟩ := Nat.dvd_of_mod_eq_zero h0
  rcases Nat.lt_or_ge e d with h1 | h1
  · exact h e he h1 h0
  · have hq2 : 2 ≤ q := by
      rcases q with _ | _ | q
      · simp at hq; omega
      · simp at hq; omega
      · omega
    have hqd : q < d := by
      rcases Nat.lt_or_ge q d with h2 | h2
      · exact h2
      · have := Nat.mul_le_mul h1 h2; omega
    exact h q hq2 hqd (by rw [hq]; exact Nat.mul_mod_left e q)
theorem LeastIs.of_root {n d : Nat} (hn : 2 ≤ n) (hd : n < d * d) (h : ∀ e, 2 ≤ e → e < d → n % e ≠ 0) : LeastIs n n :=
  ⟨hn, Nat.le_refl _, Nat.mod_self n, no_divisor hd h⟩
/-- 2^31 - 1 is a prime: no number up to its root divides it. -/
def chk (n : Nat) : Nat → Bool
  | 0 => true
  | d + 1 => (Nat.blt d 2 || !(Nat.beq (n % d) 0)) && chk n d
theorem chk_all {n : Nat} : ∀ k, chk n k = true → ∀ e, 2 ≤ e → e < k → n % e ≠ 0
  | 0, _, e, _, h => by omega
  | d + 1, h, e, h2, hlt => by
    simp only [chk, Bool.and_eq_true, Bool.or_eq_true, Bool.not_eq_true'] at h
    rcases Nat.lt_or_ge e d with h3 | h3
    · exact chk_all d h.2 e h2 h3
    · obtain rfl : e = d := by omega
      rcases h.1 with h4 | h4
      · have : e ≤ 1 := by simpa [Nat.blt] using h4
        omega
      · intro h5
        rw [h5] at h4
        cases h4
theorem chk_top : chk 2147483647 46342 = true := by decide +kernel
theorem prime_top : IsPrime 2147483647 := ⟨by omega, no_divisor (d := 46342) (by omega) (chk_all _ chk_top)⟩
theorem isP_top : isP 2147483647 = true := decide_eq_true ⟨by omega, by omega, prime_top⟩
theorem isP_nat (k : Nat) (h1 : 2 ≤ k) (h2 : k ≤ 2147483648) : isP (k : Int) = decide (IsPrime k) := by
  unfold isP
  rw [Int.toNat_natCast]
  by_cases h : IsPrime k
  · rw [decide_eq_true h, decide_eq_true ⟨by omega, by omega, h⟩]
  · rw [decide_eq_false h, decide_eq_false (fun h' => h h'.2.2)]
theorem isP_le {p : Int} (h : isP p = true) : 2 ≤ p ∧ p ≤ 2147483648 := by
  have := of_decide_eq_true h
  exact ⟨this.1, this.2.1⟩
theorem isP_no (n : Int) (h : n < 2 ∨ 2147483648 < n) : isP n = false := decide_eq_false (fun h' => by omega)
/-- An even number is a prime if it is 2; an odd one, if no odd number up to its root divides it. -/
theorem prime_even {n : Nat} (h : n % 2 = 0) (h2 : 2 ≤ n) : IsPrime n ↔ n = 2 := by
  constructor
  · intro hp
    rcases Nat.lt_or_ge 2 n with h3 | h3
    · exact absurd h (hp.2 2 (by omega) h3)
    · omega
  · rintro rfl; decide
theorem prime_odd {n d : Nat} (h : n % 2 = 1) (h2 : 2 ≤ n) (hd : n < d * d) (hno : ∀ e, 3 ≤ e → e < d → e % 2 = 1 → n % e ≠ 0) : IsPrime n := by
  refine ⟨h2, no_divisor hd fun e he hed h0 => ?_⟩
  rcases Nat.mod_two_eq_zero_or_one e with h3 | h3
  · obtain ⟨q, hq⟩ := Nat.dvd_of_mod_eq_zero h0
    obtain ⟨r, hr⟩ := Nat.dvd_of_mod_eq_zero h3
    rw [hr, Nat.mul_assoc] at hq
    omega
  · exact hno e (by omega) hed h3 h0
/-- The least divisor is a prime. -/
theorem LeastIs.prime {n m : Nat} (h : LeastIs n m) : IsPrime m := by
  refine ⟨h.1, fun d hd hdm h0 => ?_⟩
  obtain ⟨q, hq⟩ := Nat.dvd_of_mod_eq_zero h0
  obtain ⟨r, hr⟩ := Nat.dvd_of_mod_eq_zero h.2.2.1
  refine h.2.2.2 d hd hdm ?_
  rw [hr, hq, Nat.mul_assoc]
  exact Nat.mul_mod_right d _
end Go.Proofs.YtmpdcdfnbkfabaaDoor.PrimeP
