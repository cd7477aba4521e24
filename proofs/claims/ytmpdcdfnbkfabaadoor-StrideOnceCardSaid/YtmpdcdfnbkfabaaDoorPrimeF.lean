/- Fermat: a number to the power of a prime is that number, modulo the prime. -/
import Derived.Test.YtmpdcdfnbkfabaaDoorPrimeP
namespace Go.Proofs.YtmpdcdfnbkfabaaDoor.PrimeP

theorem coprime_of {p a : Nat} (hp : IsPrime p) (h : a % p ≠ 0) : Nat.Coprime p a := by
  have h1 : Nat.gcd p a ∣ p := Nat.gcd_dvd_left p a
  have h2 : Nat.gcd p a ∣ a := Nat.gcd_dvd_right p a
  have h3 : Nat.gcd p a ≤ p := Nat.le_of_dvd (by have := hp.1; omega) h1
  have h4 : 0 < Nat.gcd p a := Nat.gcd_pos_of_pos_left a (by have := hp.1; omega)
  show Nat.gcd p a = 1
  rcases Nat.lt_or_ge (Nat.gcd p a) 2 with h5 | h5
  · omega
  · rcases Nat.lt_or_ge (Nat.gcd p a) p with h6 | h6
    · exact absurd (Nat.mod_eq_zero_of_dvd h1) (hp.2 _ h5 h6)
    · have h7 : Nat.gcd p a = p := Nat.le_antisymm h3 h6
      rw [h7] at h2
      exact absurd (Nat.mod_eq_zero_of_dvd h2) h
theorem euclid {p a b : Nat} (hp : IsPrime p) (h : a * b % p = 0) (ha : a % p ≠ 0) : b % p = 0 :=
  Nat.mod_eq_zero_of_dvd ((coprime_of hp ha).dvd_of_dvd_mul_left (Nat.dvd_of_mod_eq_zero h))
theorem cancel {p r a b : Nat} (hp : IsPrime p) (hr : r % p ≠ 0) (h : r * a % p = r * b % p) (hab : a ≤ b) : a % p = b % p := by
  have h1 : r * (b - a) % p = 0 := by
    rw [Nat.mul_sub]
    exact Nat.sub_mod_eq_zero_of_mod_eq h.symm
  have h2 := euclid hp h1 hr
  have h3 : b = a + (b - a) := by omega
  rw [h3, Nat.add_mod, h2]; simp
theorem cancel' {p r a b : Nat} (hp : IsPrime p) (hr : r % p ≠ 0) (h : r * a % p = r * b % p) : a % p = b % p := by
  rcases Nat.le_total a b with h1 | h1
  · exact cancel hp hr h h1
  · exact (cancel hp hr h.symm h1).symm

def prod : List Nat → Nat
  | [] => 1
  | x :: l => x * prod l
theorem prod_perm {l m : List Nat} (h : l.Perm m) : prod l = prod m := by
  induction h with
  | nil => rfl
  | cons x _ ih => simp only [prod, ih]
  | swap x y l => simp only [prod]; rw [Nat.mul_left_comm]
  | trans _ _ h1 h2 => exact h1.trans h2
theorem perm_of {l : List Nat} : ∀ {m : List Nat}, l.Nodup → (∀ x ∈ l, x ∈ m) → l.length = m.length → l.Perm m := by
  induction l with
  | nil => intro m _ _ h; rw [List.eq_nil_of_length_eq_zero h.symm]
  | cons a l ih =>
    intro m hn hs hl
    have ha : a ∈ m := hs a (by simp)
    have hn' := List.nodup_cons.1 hn
    refine ((ih hn'.2 (fun x hx => ?_) ?_).cons a).trans (List.perm_cons_erase ha).symm
    · have hne : x ≠ a := fun e => hn'.1 (e ▸ hx)
      exact (List.mem_erase_of_ne hne).2 (hs x (by simp [hx]))
    · rw [List.length_erase_of_mem ha]
      simp at hl; omega
theorem prod_mod {p r : Nat} (l : List Nat) : prod (l.map fun x => r * x % p) % p = r ^ l.length * prod l % p := by
  induction l with
  | nil => simp [prod]
  | cons x l ih =>
    simp only [List.map_cons, prod, List.length_cons]
    rw [Nat.mul_mod, ih, ← Nat.mul_mod, Nat.mod_mul_mod, Nat.pow_succ]
    congr 1
    rw [Nat.mul_mul_mul_comm, Nat.mul_comm r]
theorem prod_coprime {p : Nat} (hp : IsPrime p) (l : List Nat) (h : ∀ x ∈ l, x % p ≠ 0) : prod l % p ≠ 0 := by
  induction l with
  | nil => show 1 % p ≠ 0; have := hp.1; rw [Nat.mod_eq_of_lt (by omega)]; omega
  | cons x l ih =>
    intro h0
    exact ih (fun y hy => h y (by simp [hy])) (euclid hp h0 (h x (by simp)))
/-- The numbers from 1 to p - 1. -/
def units (p : Nat) : List Nat := List.range' 1 (p - 1)
theorem mem_units {p x : Nat} : x ∈ units p ↔ 1 ≤ x ∧ x < p := by
  unfold units
  rw [List.mem_range'_1]
  omega
theorem fermat {p r : Nat} (hp : IsPrime p) (hr : r % p ≠ 0) : r ^ (p - 1) % p = 1 := by
  have hp2 := hp.1
  have hl : (units p).length = p - 1 := by simp [units]
  have hperm : ((units p).map fun x => r * x % p).Perm (units p) := by
    refine perm_of ?_ ?_ (by simp)
    · unfold List.Nodup
      rw [List.pairwise_map]
      refine List.Pairwise.imp_of_mem ?_ (List.nodup_range' (s := 1) (n := p - 1) : (units p).Nodup)
      intro a b ha hb hne h
      have h1 := mem_units.1 ha
      have h2 := mem_units.1 hb
      have := cancel' hp hr h
      rw [Nat.mod_eq_of_lt h1.2, Nat.mod_eq_of_lt h2.2] at this
      exact hne this
    · intro y hy
      obtain ⟨x, hx, rfl⟩ := List.mem_map.1 hy
      have h1 := mem_units.1 hx
      refine mem_units.2 ⟨?_, Nat.mod_lt _ (by omega)⟩
      rcases Nat.eq_zero_or_pos (r * x % p) with h2 | h2
      · have := euclid hp h2 hr
        rw [Nat.mod_eq_of_lt h1.2] at this; omega
      · exact h2
  have h1 := prod_perm hperm
  have h2 := prod_mod (p := p) (r := r) (units p)
  rw [h1, hl] at h2
  have h3 : prod (units p) % p ≠ 0 := prod_coprime hp _ fun x hx => by
    have h4 := mem_units.1 hx
    rw [Nat.mod_eq_of_lt h4.2]; omega
  have h5 : prod (units p) * (r ^ (p - 1)) % p = prod (units p) * 1 % p := by rw [Nat.mul_one, Nat.mul_comm, ← h2]
  have h6 := cancel' hp h3 h5
  rw [h6, Nat.mod_eq_of_lt (by omega)]
theorem fermat_full {p r : Nat} (hp : IsPrime p) (hr : r < p) : r ^ p % p = r := by
  have hp2 := hp.1
  by_cases h0 : r = 0
  · subst h0; rw [Nat.zero_pow (by omega)]; simp
  · have := fermat (r := r) hp (by rw [Nat.mod_eq_of_lt hr]; exact h0)
    rw [show p = (p - 1) + 1 by omega, Nat.pow_succ]
    rw [show p - 1 + 1 = p by omega, Nat.mul_mod, this, Nat.mod_eq_of_lt hr, Nat.one_mul, Nat.mod_eq_of_lt hr]
theorem inverse_mul {p r : Nat} (hp : IsPrime p) (hr : r < p) (h0 : r ≠ 0) : (r ^ (p - 2) % p) * r % p = 1 := by
  have hp2 := hp.1
  rw [Nat.mod_mul_mod, ← Nat.pow_succ, show (p - 2).succ = p - 1 by omega]
  exact fermat hp (by rw [Nat.mod_eq_of_lt hr]; exact h0)
end Go.Proofs.YtmpdcdfnbkfabaaDoor.PrimeP
