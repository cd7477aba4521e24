/- The statement PrimeInverses. -/
import Derived.Test.YtmpdcdfnbkfabaaDoorPrime2
import Derived.Test.YtmpdcdfnbkfabaaDoorPrimeF
namespace Go.Proofs.YtmpdcdfnbkfabaaDoor.Prime
open Go.RowKit Go.Proofs.YtmpdcdfnbkfabaaDoor.Mem Go.Proofs.YtmpdcdfnbkfabaaDoor.Err Go.Proofs.YtmpdcdfnbkfabaaDoor.PrimeP
set_option linter.unusedVariables false
set_option linter.unusedSimpArgs false

theorem pw_nat (r k p : Nat) (hp : r < p) : pw (r : Int) k (p : Int) = ((r ^ k % p : Nat) : Int) := by
  unfold pw
  rw [PrimeP.pow_mod]
  simp
theorem pw_mod (a : Int) (k : Nat) (p : Int) : pw a k p = pw (a % p) k p := by
  unfold pw
  rw [Int.emod_emod_of_dvd _ (Int.dvd_refl p)]
theorem nat_of {a p : Int} (hp : 1 ≤ p) : ∃ r q : Nat, p = q ∧ a % p = r ∧ r < q := by
  have h0 := Int.emod_nonneg a (show p ≠ 0 by omega)
  have h1 := Int.emod_lt_of_pos a (show 0 < p by omega)
  exact ⟨(a % p).toNat, p.toNat, by omega, by omega, by omega⟩
theorem isP_prime {p : Int} (h : isP p = true) : IsPrime p.toNat := (of_decide_eq_true h).2.2
theorem pw_full (a p : Int) (h : isP p = true) : pw a p.toNat p = a % p := by
  have hb := isP_le h
  obtain ⟨r, q, rfl, hr, hlt⟩ := nat_of (a := a) (show 1 ≤ p by omega)
  have hp := isP_prime h
  rw [Int.toNat_natCast] at hp ⊢
  rw [pw_mod, hr, pw_nat r q q hlt, fermat_full hp hlt]
theorem pw_inv (a p : Int) (h : isP p = true) (h0 : a % p ≠ 0) : pw a (p - 2).toNat p * (a % p) % p = 1 ∧ 1 ≤ pw a (p - 2).toNat p := by
  have hb := isP_le h
  obtain ⟨r, q, rfl, hr, hlt⟩ := nat_of (a := a) (show 1 ≤ p by omega)
  have hp := isP_prime h
  rw [Int.toNat_natCast] at hp
  have hr0 : r ≠ 0 := by omega
  rw [show ((q : Int) - 2).toNat = q - 2 by omega, pw_mod, hr, pw_nat r (q - 2) q hlt]
  have hi := inverse_mul hp hlt hr0
  have h1 : ((r ^ (q - 2) % q : Nat) : Int) * (r : Int) % (q : Int) = 1 := by
    rw [← Int.natCast_mul, ← Int.natCast_emod, hi]; rfl
  refine ⟨h1, ?_⟩
  rcases Nat.eq_zero_or_pos (r ^ (q - 2) % q) with h2 | h2
  · rw [h2] at hi; simp at hi
  · omega

theorem inverse_no (a p : Int) (w : World) (e0 : Addr) (h : isP p = false) (he : Holds w 2 e0) :
    Calls Tryd.prog 68 #[.int .i64 a, .int .i64 p] w fun e w' => e = .returned (.tuple #[.int .i64 0, .iface 131 (.pointer (some e0))]) ∧ ∃ k, w' = w.drewN k := by
  have hc : w.cell? ⟨2, 0, none⟩ = some (.iface 131 (.pointer (some e0))) := he.1
  have KP := Lib.hid (fun W => h ▸ is_calls p W)
  clear h
  go_enter Tryd.func68, Tryd.ntmps68
  go_wp2_with (go_at_call 77; ((with_reducible refine (KP.out _).mono ?_); rintro e w' ⟨rfl, rfl⟩))
  go_quiet (fail)
  go_wp2
  go_ret2
  exact ⟨rfl, _, rfl⟩
theorem inverse_zero (a p : Int) (w : World) (e0 : Addr) (h : isP p = true) (hz : a % p = 0) (he : Holds w 11 e0) :
    Calls Tryd.prog 68 #[.int .i64 a, .int .i64 p] w fun e w' => e = .returned (.tuple #[.int .i64 0, .iface 131 (.pointer (some e0))]) ∧ ∃ k, w' = w.drewN k := by
  have hb := isP_le h
  have hc : w.cell? ⟨11, 0, none⟩ = some (.iface 131 (.pointer (some e0))) := he.1
  have KP := Lib.hid (fun W => h ▸ is_calls p W)
  have KR := Lib.hid (fun W => hz ▸ rest_calls a p W (by omega) (by omega))
  clear h hz hb
  go_enter Tryd.func68, Tryd.ntmps68
  go_wp2_with (first
    | (go_at_call 77; ((with_reducible refine (KP.out _).mono ?_); rintro e w' ⟨rfl, rfl⟩))
    | (go_at_call 84; ((with_reducible refine (KR.out _).mono ?_); rintro e w' ⟨rfl, rfl⟩)))
  go_quiet (fail)
  go_wp2
  go_ret2
  exact ⟨rfl, _, rfl⟩
theorem inverse_yes (a p : Int) (w : World) (h : isP p = true) (hz : a % p ≠ 0) :
    Calls Tryd.prog 68 #[.int .i64 a, .int .i64 p] w fun e w' => e = .returned (.tuple #[.int .i64 (pw a (p - 2).toNat p), .nilIface]) ∧ w = w' := by
  obtain ⟨hb1, hb2⟩ := isP_le h
  have hn : (((p - 2).toNat : Nat) : Int) = p - 2 := by omega
  have KP := Lib.hid (fun W => h ▸ is_calls p W)
  have KR := Lib.hid (fun W => rest_calls a p W (by omega) (by omega))
  have KW := Lib.hid (fun W => hn ▸ power_calls a (p - 2).toNat p W (by omega) (by omega) (by omega))
  have hz' : (a % p == 0) = false := beq_eq_false_iff_ne.mpr hz
  clear h hz hn
  go_enter Tryd.func68, Tryd.ntmps68
  go_wp2_with (first
    | (go_at_call 77; ((with_reducible refine (KP.out _).mono ?_); rintro e w' ⟨rfl, rfl⟩))
    | (go_at_call 84; ((with_reducible refine (KR.out _).mono ?_); rintro e w' ⟨rfl, rfl⟩))
    | (go_at_call 85; ((with_reducible refine (KW.out _).mono ?_); rintro e w' ⟨rfl, rfl⟩)))
  go_ret2
  exact ⟨rfl, rfl⟩

end Go.Proofs.YtmpdcdfnbkfabaaDoor.Prime
