/- The statement PrimeInverses. -/
import Derived.Test.YtgldlpfhebncgaaDoorPrime2
import Derived.Test.YtgldlpfhebncgaaDoorPrimeF
namespace Go.Proofs.YtgldlpfhebncgaaDoor.Prime
open Go.RowKit Go.Proofs.YtgldlpfhebncgaaDoor.Mem Go.Proofs.YtgldlpfhebncgaaDoor.Err Go.Proofs.YtgldlpfhebncgaaDoor.PrimeP
set_option linter.unusedVariables false
set_option linter.unusedSimpArgs false

theorem pw_nat (r k p : Nat) (hp : r < p) : pw (r : Int) k (p : Int) = ((r ^ k % p : Nat) : Int) := by
  unfold pw
  rw [PrimeP.pow_mod]
  simp
theorem pw_mod (a : Int) (k : Nat) (p : Int) : pw a k p = pw (a % p) k p := by
  unfold pw
  rw [Int.emod_emod_of_dvd _ (Int.dvd_refl p)]
theorem nat_of {a p : Int} (hp : 1 ≤ p) : ∃ r q : Nat, p = q ∧ a % p = r ∧ r < q := by
  have h0 := Int.emod_nonneg a (show p ≠ 0 by omega)
  have h1 := Int.emod_lt_of_pos a (show 0 < p by omega)
  exact ⟨(a % p).toNat, p.toNat, by omega, by omega, by omega⟩
theorem isP_prime {p : Int} (h : isP p = true) : IsPrime p.toNat := (of_decide_eq_true h).2.2
theorem pw_full (a p : Int) (h : isP p = true) : pw a p.toNat p = a % p := by
  have hb := isP_le h
  obtain ⟨r, q, rfl, hr, hlt⟩ := nat_of (a := a) (show 1 ≤ p by omega)
  have hp := isP_prime h
  rw [Int.toNat_natCast] at hp ⊢
  rw [pw_mod, hr, pw_nat r q q hlt, fermat_full hp hlt]
theorem pw_inv (a p : Int) (h : isP p = true) (h0 : a % p ≠ 0) : pw a (p - 2).toNat p * (a % p) % p = 1 ∧ 1 ≤ pw a (p - 2).toNat p := by
  have hb := isP_le h
  obtain ⟨r, q, rfl, hr, hlt⟩ := nat_of (a := a) (show 1 ≤ p by omega)
  have hp := isP_prime h
  rw [Int.toNat_natCast] at hp
  have hr0 : r ≠ 0 := by omega
  rw [show ((q : Int) - 2).toNat = q - 2 by omega, pw_mod, hr, pw_nat r (q - 2) q hlt]
  have hi := inverse_mul hp hlt hr0
  have h1 : ((r ^ (q - 2) % q : Nat) : Int) * (r : Int) % (q : Int) = 1 := by
    rw [← Int.natCast_mul, ← Int.natCast_emod, hi]; rfl
  refine ⟨h1, ?_⟩
  rcases Nat.eq_zero_or_pos (r ^ (q - 2) % q) with h2 | h2
  · rw [h2] at hi; simp at hi
  · omega

theorem inverse_no (a p : Int) (w : World) (e0 : Addr) (h : isP p = false) (he : Holds w 0 e0) :
    Calls Tryd.prog 17 #[.int .i64 a, .int .i64 p] w fun e w' => e = .returned (.tuple #[.int .i64 0, .iface 58 (.pointer (some e0))]) ∧ ∃ k, w' = w.drewN k := by
  have hc : w.cell? ⟨0, 0, none⟩ = some (.iface 58 (.pointer (some e0))) := he.1
  have KP := Lib.hid (fun W => h ▸ is_calls p W)
  clear h
  go_enter Tryd.func17, Tryd.ntmps17
  go_wp2_with (go_at_call 12; ((with_reducible refine (KP.out _).mono ?_); rintro e w' ⟨rfl, rfl⟩))
  go_quiet (fail)
  go_wp2
  go_ret2
  exact ⟨rfl, _, rfl⟩
theorem inverse_zero (a p : Int) (w : World) (e0 : Addr) (h : isP p = true) (hz : a % p = 0) (he : Holds w 10 e0) :
    Calls Tryd.prog 17 #[.int .i64 a, .int .i64 p] w fun e w' => e = .returned (.tuple #[.int .i64 0, .iface 58 (.pointer (some e0))]) ∧ ∃ k, w' = w.drewN k := by
  have hb := isP_le h
  have hc : w.cell? ⟨10, 0, none⟩ = some (.iface 58 (.pointer (some e0))) := he.1
  have KP := Lib.hid (fun W => h ▸ is_calls p W)
  have KR := Lib.hid (fun W => hz ▸ rest_calls a p W (by omega) (by omega))
  clear h hz hb
  go_enter Tryd.func17, Tryd.ntmps17
  go_wp2_with (first
    | (go_at_call 12; ((with_reducible refine (KP.out _).mono ?_); rintro e w' ⟨rfl, rfl⟩))
    | (go_at_call 19; ((with_reducible refine (KR.out _).mono ?_); rintro e w' ⟨rfl, rfl⟩)))
  go_quiet (fail)
  go_wp2
  go_ret2
  exact ⟨rfl, _, rfl⟩
theorem inverse_yes (a p : Int) (w : World) (h : isP p = true) (hz : a % p ≠ 0) :
    Calls Tryd.prog 17 #[.int .i64 a, .int .i64 p] w fun e w' => e = .returned (.tuple #[.int .i64 (pw a (p - 2).toNat p), .nilIface]) ∧ w = w' := by
  obtain ⟨hb1, hb2⟩ := isP_le h
  have hn : (((p - 2).toNat : Nat) : Int) = p - 2 := by omega
  have KP := Lib.hid (fun W => h ▸ is_calls p W)
  have KR := Lib.hid (fun W => rest_calls a p W (by omega) (by omega))
  have KW := Lib.hid (fun W => hn ▸ power_calls a (p - 2).toNat p W (by omega) (by omega) (by omega))
  have hz' : (a % p == 0) = false := beq_eq_false_iff_ne.mpr hz
  clear h hz hn
  go_enter Tryd.func17, Tryd.ntmps17
  go_wp2_with (first
    | (go_at_call 12; ((with_reducible refine (KP.out _).mono ?_); rintro e w' ⟨rfl, rfl⟩))
    | (go_at_call 19; ((with_reducible refine (KR.out _).mono ?_); rintro e w' ⟨rfl, rfl⟩))
    | (go_at_call 8; ((with_reducible refine (KW.out _).mono ?_); rintro e w' ⟨rfl, rfl⟩)))
  go_ret2
  exact ⟨rfl, rfl⟩

theorem inverses_calls (a p : Int) (w : World) (es : List Addr) (he : Errs w es) :
    Calls Tryd.prog 6 #[.int .i64 a, .int .i64 p] w fun e w' => e = .returned (.bool true) ∧ Below w.heap.size w w' := by
  have hl18 := he.1
  have hr0 : Holds w 0 (es[0]'(by omega)) := he.2.2 0 (by omega)
  have hr10 : Holds w 10 (es[10]'(by omega)) := he.2.2 10 (by omega)
  have HE := Lib.hid he
  have HR0 := Lib.hid hr0
  have HR10 := Lib.hid hr10
  clear he hr0 hr10
  by_cases h : isP p = true
  · obtain ⟨hb1, hb2⟩ := isP_le h
    have KI := Lib.hid (fun W => h ▸ refis_calls p W)
    have KQ := Lib.hid (fun W => refrest_calls a p W (by omega) (by omega))
    have hnat : ((p.toNat : Nat) : Int) = p := by omega
    have hfull := pw_full a p h
    have KW : Hid (∀ W, Calls Tryd.prog 8 #[.int .i64 a, .int .i64 p, .int .i64 p] W fun e w' => e = .returned (.int .i64 (a % p)) ∧ W = w') := by
      intro W
      have := power_calls a p.toNat p W (by omega) (by omega) (by omega)
      rw [hfull, hnat] at this
      exact this
    clear hfull hnat
    by_cases hz : a % p = 0
    · have KN := Lib.hid (fun W => inverse_zero a p W (es[10]'(by omega)) h hz)
      have KU := Lib.hid (fun k => num_calls (w.drewN k) es (HE.out.below (below_drewN (Below.refl _ _) k)) 10 (by omega))
      have hz' : (a % p == 0) = true := beq_iff_eq.mpr hz
      clear h hz
      go_enter Tryd.func6, Tryd.ntmps6
      go_wp2_with (first
        | (go_at_call 7; ((with_reducible refine (alive_calls _).mono ?_); rintro e w' ⟨rfl, rfl⟩))
        | (go_at_call 17; ((with_reducible refine (KN.out _ HR10.out).mono ?_); rintro e w' ⟨rfl, k, rfl⟩))
        | (go_at_call 11; ((with_reducible refine (KI.out _).mono ?_); rintro e w' ⟨rfl, rfl⟩))
        | (go_at_call 18; ((with_reducible refine (KQ.out _).mono ?_); rintro e w' ⟨rfl, rfl⟩))
        | (go_at_call 8; ((with_reducible refine (KW.out _).mono ?_); rintro e w' ⟨rfl, rfl⟩))
        | (go_at_call 16; ((with_reducible refine (KU.out _).mono ?_); rintro e w2 ⟨rfl, hb2⟩)))
      go_ret
      exact ⟨rfl, below_next (below_drewN (Below.refl _ _) _) hb2⟩
    · have KN := Lib.hid (fun W => inverse_yes a p W h hz)
      have hz' : (a % p == 0) = false := beq_eq_false_iff_ne.mpr hz
      obtain ⟨i1, i2⟩ := pw_inv a p h hz
      obtain ⟨i3, i4⟩ := pw_range a (p - 2).toNat p (by omega)
      have q0 : 0 ≤ a % p := Int.emod_nonneg _ (by omega)
      have q1 : a % p < p := Int.emod_lt_of_pos _ (by omega)
      generalize pw a (p - 2).toNat p = n at *
      obtain ⟨m1, m2⟩ := mul_lt n (a % p) p i3 q0 i4 q1 hb2
      have hp0 : (p == 0) = false := beq_eq_false_iff_ne.mpr (by omega)
      have i5 : (n * (a % p) % p == 1) = true := beq_iff_eq.mpr i1
      clear h hz i1
      go_enter Tryd.func6, Tryd.ntmps6
      go_wp2_with (first
        | (go_at_call 7; ((with_reducible refine (alive_calls _).mono ?_); rintro e w' ⟨rfl, rfl⟩))
        | (go_at_call 17; ((with_reducible refine (KN.out _).mono ?_); rintro e w' ⟨rfl, rfl⟩))
        | (go_at_call 11; ((with_reducible refine (KI.out _).mono ?_); rintro e w' ⟨rfl, rfl⟩))
        | (go_at_call 18; ((with_reducible refine (KQ.out _).mono ?_); rintro e w' ⟨rfl, rfl⟩))
        | (go_at_call 8; ((with_reducible refine (KW.out _).mono ?_); rintro e w' ⟨rfl, rfl⟩)))
      go_ret
      exact ⟨rfl, Below.refl _ _⟩
  · have h' : isP p = false := by simpa using h
    have KI := Lib.hid (fun W => h' ▸ refis_calls p W)
    have KN := Lib.hid (fun W => inverse_no a p W (es[0]'(by omega)) h')
    have KU := Lib.hid (fun k => num_calls (w.drewN k) es (HE.out.below (below_drewN (Below.refl _ _) k)) 0 (by omega))
    clear h h'
    go_enter Tryd.func6, Tryd.ntmps6
    go_wp2_with (first
      | (go_at_call 7; ((with_reducible refine (alive_calls _).mono ?_); rintro e w' ⟨rfl, rfl⟩))
      | (go_at_call 17; ((with_reducible refine (KN.out _ HR0.out).mono ?_); rintro e w' ⟨rfl, k, rfl⟩))
      | (go_at_call 11; ((with_reducible refine (KI.out _).mono ?_); rintro e w' ⟨rfl, rfl⟩))
      | (go_at_call 16; ((with_reducible refine (KU.out _).mono ?_); rintro e w2 ⟨rfl, hb2⟩)))
    go_ret
    exact ⟨rfl, below_next (below_drewN (Below.refl _ _) _) hb2⟩
theorem inverses_row (W : World) (es : List Addr) (el : es.length = 18) (en : es.Nodup) (eh : ∀ (k g : Nat) (a : Addr), gl[k]? = some g → es[k]? = some a → Holds W g a) (a : Int) (ha : (Lit.int .i64 a).wf = true) (p : Int) (hp : (Lit.int .i64 p).wf = true) :
    Calls Tryd.prog 6 #[.int .i64 a, .int .i64 p] W fun e W' => e = .returned (.bool true) ∧ Below W.heap.size W W' :=
  inverses_calls a p W es (errs_of W es el en eh)
end Go.Proofs.YtgldlpfhebncgaaDoor.Prime
