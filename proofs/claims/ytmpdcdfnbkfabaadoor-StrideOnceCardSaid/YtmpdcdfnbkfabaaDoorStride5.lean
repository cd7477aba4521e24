/- Package stride: When; the plain laws of places; the document's places. -/
import Derived.Test.YtmpdcdfnbkfabaaDoorStride3
import Derived.Test.YtmpdcdfnbkfabaaDoorPrime3
namespace Go.Proofs.YtmpdcdfnbkfabaaDoor.Stride
open Go.RowKit Go.Proofs.YtmpdcdfnbkfabaaDoor.Mem Go.Proofs.YtmpdcdfnbkfabaaDoor.Num Go.Proofs.YtmpdcdfnbkfabaaDoor.Prime Go.Proofs.YtmpdcdfnbkfabaaDoor.PrimeP Go.Proofs.YtmpdcdfnbkfabaaDoor.Mix Go.Proofs.YtmpdcdfnbkfabaaDoor.Hash Go.Proofs.YtmpdcdfnbkfabaaDoor.Err
set_option linter.unusedVariables false
set_option linter.unusedSimpArgs false
def whenN (z o k p : Int) : Int := if p < 0 ∨ z ≤ p then -1 else (p + z - o) * pw k (z - 2).toNat z % z
theorem pw_range (a : Int) (n : Nat) (p : Int) (hp : 0 < p) : 0 ≤ pw a n p ∧ pw a n p < p := by
  unfold pw
  exact ⟨Int.emod_nonneg _ (by omega), Int.emod_lt_of_pos _ hp⟩
theorem stepN_eq (z k : Int) (n : Nat) (p : Int) (hz : 2 ≤ z) (hp : 0 ≤ p) (hp' : p < z) : stepN z k n p = (p + n * k) % z := by
  induction n with
  | zero => simp [stepN]; rw [Int.emod_eq_of_lt hp hp']
  | succ n ih =>
    rw [stepN_succ, ih]
    unfold stepZ
    rw [Int.emod_add_emod]
    congr 1
    rw [Int.natCast_add, Int.add_mul]; simp; omega
theorem inv_mul (z k : Int) (hz : isP z = true) (hk : 1 ≤ k) (hk' : k < z) : pw k (z - 2).toNat z * k % z = 1 := by
  have he : k % z = k := Int.emod_eq_of_lt (by omega) hk'
  have := (pw_inv k z hz (by omega)).1
  rwa [he] at this
theorem step_when (z o k p : Int) (h : rightB z o k = true) (h0 : 0 ≤ p) (h1 : p < z) : 0 ≤ whenN z o k p ∧ whenN z o k p < z ∧ (o + whenN z o k p * k) % z = p := by
  obtain ⟨hz, ho0, ho1, hk0, hk1⟩ := right_parts h
  obtain ⟨hz2, hz251, hpr⟩ := sized_le hz
  have hi := inv_mul z k hpr hk0 hk1
  unfold whenN
  rw [if_neg (by omega)]
  generalize pw k (z - 2).toNat z = B at hi ⊢
  refine ⟨Int.emod_nonneg _ (by omega), Int.emod_lt_of_pos _ (by omega), ?_⟩
  have e1 : ((p + z - o) * B % z * k) % z = (p + z - o) % z := by
    rw [show ((p + z - o) * B % z * k) % z = ((p + z - o) * B * k) % z by rw [Int.mul_emod, Int.emod_emod, ← Int.mul_emod], Int.mul_assoc, Int.mul_emod, hi, Int.mul_one, Int.emod_emod]
  rw [Int.add_emod, e1, ← Int.add_emod, show o + (p + z - o) = p + z by omega, Int.add_emod_right, Int.emod_eq_of_lt h0 h1]
theorem when_step (z o k : Int) (j : Int) (h : rightB z o k = true) (h0 : 0 ≤ j) (h1 : j < z) : whenN z o k ((o + j * k) % z) = j := by
  obtain ⟨hz, ho0, ho1, hk0, hk1⟩ := right_parts h
  obtain ⟨hz2, hz251, hpr⟩ := sized_le hz
  have hi := inv_mul z k hpr hk0 hk1
  have n0 := Int.emod_nonneg (o + j * k) (show z ≠ 0 by omega)
  have n1 := Int.emod_lt_of_pos (o + j * k) (show 0 < z by omega)
  unfold whenN
  rw [if_neg (by omega)]
  generalize pw k (z - 2).toNat z = B at hi ⊢
  have e1 : ((o + j * k) % z + z - o) * B % z = (j * k) * B % z := by
    rw [Int.mul_emod, show ((o + j * k) % z + z - o) % z = (j * k) % z from ?_, ← Int.mul_emod]
    rw [show (o + j * k) % z + z - o = (o + j * k) % z + (z - o) by omega, Int.emod_add_emod, show o + j * k + (z - o) = j * k + z by omega, Int.add_emod_right]
  rw [e1, Int.mul_assoc, Int.mul_emod, show k * B % z = 1 by rw [Int.mul_comm]; exact hi, Int.mul_one, Int.emod_emod, Int.emod_eq_of_lt h0 h1]
/-- The n-th place is p: n is p's number. -/
theorem step_iff (z o k p : Int) (n : Nat) (h : rightB z o k = true) (hn : (n : Int) < z) : stepN z k n o = p ↔ (n : Int) = whenN z o k p := by
  obtain ⟨hz, ho0, ho1, hk0, hk1⟩ := right_parts h
  obtain ⟨hz2, hz251, hpr⟩ := sized_le hz
  rw [stepN_eq z k n o hz2 ho0 ho1]
  constructor
  · rintro rfl
    exact (when_step z o k n h (by omega) hn).symm
  · intro e
    have hr : 0 ≤ p ∧ p < z := by
      refine Decidable.byContradiction fun hc => ?_
      have : whenN z o k p = -1 := by unfold whenN; rw [if_pos (by omega)]
      omega
    rw [e]
    exact (step_when z o k p h hr.1 hr.2).2.2
theorem walk_get (z k : Int) (n : Nat) (p : Int) (i : Nat) (h : i < (walkZ z k n p).length) : (walkZ z k n p)[i] = stepN z k i p := by
  induction n generalizing p i with
  | zero => simp [walkZ] at h
  | succ n ih =>
    cases i with
    | zero => rfl
    | succ i => simp only [walkZ, List.getElem_cons_succ, stepN]; exact ih _ _ _
/-! When. -/
theorem when_no (z o k p : Int) (w : World) (h : rightB z o k = false) : Calls Tryd.prog 36 #[sv z o k, .int .i64 p] w fun e w' => e = .returned (.int .i64 (-1)) ∧ Below w.heap.size w w' := by
  have hrc := fun W => h ▸ right_calls z o k W
  have HR := Lib.hid hrc
  clear hrc h
  go_enter Tryd.func36, Tryd.ntmps36
  go_wp2_with (go_at_call 34; ((with_reducible refine (HR.out _).mono ?_); rintro e w1 ⟨rfl, hB⟩; have HB := Lib.hid (below_next ((Below.refl _ w).alloc (Nat.le_refl _) (.cells #[.int .i64 z, .int .i64 o, .int .i64 k] 55)) hB); clear hB))
  go_ret
  exact ⟨rfl, HB.out⟩
theorem when_calls (z o k p : Int) (w : World) (h : rightB z o k = true) : Calls Tryd.prog 36 #[sv z o k, .int .i64 p] w fun e w' => e = .returned (.int .i64 (whenN z o k p)) ∧ Below w.heap.size w w' := by
  obtain ⟨hz, ho0, ho1, hk0, hk1⟩ := right_parts h
  obtain ⟨hz2, hz251, hpr⟩ := sized_le hz
  have hrc := fun W => h ▸ right_calls z o k W
  have HR := Lib.hid hrc
  clear hrc h hz
  by_cases h1 : p < 0
  · have e0 : whenN z o k p = -1 := by unfold whenN; rw [if_pos (by omega)]
    rw [e0]
    clear e0 hpr
    go_enter Tryd.func36, Tryd.ntmps36
    go_wp2_with (go_at_call 34; ((with_reducible refine (HR.out _).mono ?_); rintro e w1 ⟨rfl, hB⟩; have HB := Lib.hid (below_next ((Below.refl _ w).alloc (Nat.le_refl _) (.cells #[.int .i64 z, .int .i64 o, .int .i64 k] 55)) hB); obtain ⟨hc0, hc1, hc2⟩ := box3_below hB; clear hB))
    go_ret
    exact ⟨rfl, HB.out⟩
  · by_cases h2 : z ≤ p
    · have e0 : whenN z o k p = -1 := by unfold whenN; rw [if_pos (by omega)]
      rw [e0]
      clear e0 hpr
      go_enter Tryd.func36, Tryd.ntmps36
      go_wp2_with (go_at_call 34; ((with_reducible refine (HR.out _).mono ?_); rintro e w1 ⟨rfl, hB⟩; have HB := Lib.hid (below_next ((Below.refl _ w).alloc (Nat.le_refl _) (.cells #[.int .i64 z, .int .i64 o, .int .i64 k] 55)) hB); obtain ⟨hc0, hc1, hc2⟩ := box3_below hB; clear hB))
      go_ret
      exact ⟨rfl, HB.out⟩
    · have e0 : whenN z o k p = (p + z - o) * pw k (z - 2).toNat z % z := by unfold whenN; rw [if_neg (by omega)]
      rw [e0]
      have hkz : k % z ≠ 0 := by rw [Int.emod_eq_of_lt (by omega) hk1]; omega
      have HI := Lib.hid (fun W => inverse_yes k z W hpr hkz)
      have hr := pw_range k (z - 2).toNat z (by omega)
      clear e0 hpr hkz
      generalize pw k (z - 2).toNat z = B at HI hr ⊢
      obtain ⟨hB0, hB1⟩ := hr
      have e5 : 0 ≤ (p + z - o) * B := Int.mul_nonneg (by omega) hB0
      have e6 : (p + z - o) * B ≤ 502 * 251 := Int.mul_le_mul (by omega) (by omega) (by omega) (by omega)
      have e7 : ((p + z - o) * B).tmod z = (p + z - o) * B % z := Int.tmod_eq_emod_of_nonneg e5
      have h0 : (z == 0) = false := beq_eq_false_iff_ne.mpr (by omega)
      go_enter Tryd.func36, Tryd.ntmps36
      go_wp2_with (first
        | (go_at_call 34; ((with_reducible refine (HR.out _).mono ?_); rintro e w1 ⟨rfl, hB⟩; have HB := Lib.hid (below_next ((Below.refl _ w).alloc (Nat.le_refl _) (.cells #[.int .i64 z, .int .i64 o, .int .i64 k] 55)) hB); obtain ⟨hc0, hc1, hc2⟩ := box3_below hB; clear hB))
        | (go_at_call 68; ((with_reducible refine (HI.out _).mono ?_); rintro e w' ⟨rfl, rfl⟩)))
      go_ret
      exact ⟨rfl, HB.out⟩
end Go.Proofs.YtmpdcdfnbkfabaaDoor.Stride
