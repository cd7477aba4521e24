/- The statements of package prime: the document's answers, and PrimeIs. -/
import Derived.Test.YtmpdcdfnbkfabaaDoorPrime
import Derived.Test.YtmpdcdfnbkfabaaDoorErrNum
namespace Go.Proofs.YtmpdcdfnbkfabaaDoor.Prime
open Go.RowKit Go.Proofs.YtmpdcdfnbkfabaaDoor.Mem Go.Proofs.YtmpdcdfnbkfabaaDoor.Err Go.Proofs.YtmpdcdfnbkfabaaDoor.PrimeP
set_option linter.unusedVariables false
set_option linter.unusedSimpArgs false
theorem ret_bool {a b : Bool} (h : a = b) : Ending.returned (.bool a) = .returned (.bool b) := by rw [h]

theorem refis_calls (n : Int) (w : World) :
    Calls Tryd.prog 58 #[.int .i64 n] w fun e w' => e = .returned (.bool (isP n)) ∧ w = w' := by
  by_cases h1 : n < 2
  · rw [isP_no n (.inl h1)]
    go_enter Tryd.func58, Tryd.ntmps58
    go_wp2
    go_ret
    exact ⟨rfl, rfl⟩
  · by_cases h2 : 2147483648 < n
    · rw [isP_no n (.inr h2)]
      go_enter Tryd.func58, Tryd.ntmps58
      go_wp2
      go_ret
      exact ⟨rfl, rfl⟩
    · obtain ⟨k, rfl⟩ : ∃ k : Nat, n = k := ⟨n.toNat, by omega⟩
      have h3 : 2 ≤ k := by omega
      have h4 : k ≤ 2147483648 := by omega
      rw [isP_nat k h3 h4]
      clear h1 h2
      rcases Nat.mod_two_eq_zero_or_one k with he | he
      · have q : ((k : Int) % 2 == 0) = true := beq_iff_eq.mpr (by omega)
        have HE := Lib.hid he
        clear he
        go_enter Tryd.func58, Tryd.ntmps58
        go_wp2
        go_ret
        refine ⟨ret_bool ?_, rfl⟩
        show ((k : Int) == 2) = _
        by_cases h5 : k = 2
        · rw [decide_eq_true ((prime_even HE.out h3).2 h5), beq_iff_eq.mpr (by omega)]
        · rw [decide_eq_false (fun h => h5 ((prime_even HE.out h3).1 h)), beq_eq_false_iff_ne.mpr (by omega)]
      · have q : ((k : Int) % 2 == 0) = false := beq_eq_false_iff_ne.mpr (by omega)
        have HE := Lib.hid he
        clear he
        go_enter Tryd.func58, Tryd.ntmps58
        go_wp2
        go_loop [3] (fun dv => ∃ d : Nat, 3 ≤ d ∧ d ≤ 46343 ∧ dv = .int .i64 (d : Int) ∧ Hid (d % 2 = 1) ∧ Hid (∀ e, 3 ≤ e → e < d → e % 2 = 1 → k % e ≠ 0)) (fun dv => 46343 - (intOf dv).toNat)
        case atStart => exact ⟨3, by omega, by omega, rfl, rfl, fun e h h' => by omega⟩
        case round =>
          obtain ⟨d, hd2, hd, rfl, hodd, hno⟩ := hrel
          have h5 : ((d * d : Nat) : Int) = (d : Int) * d := by simp
          have m0 : (0 : Int) ≤ (d : Int) * d := Int.mul_nonneg (by omega) (by omega)
          have m1 : (d : Int) * d ≤ 9223372036854775807 := by
            have : d * d ≤ 46343 * 46343 := Nat.mul_le_mul hd hd
            omega
          have hz : ((d : Int) == 0) = false := beq_eq_false_iff_ne.mpr (by omega)
          by_cases hle : d * d ≤ k
          · have hl : decide ((d : Int) * d ≤ (k : Int)) = true := decide_eq_true (by omega)
            have hd' := root_le d k hle h4
            clear h5
            by_cases hdiv : k % d = 0
            · have hq : ((k : Int) % (d : Int) == 0) = true := beq_iff_eq.mpr (by rw [← Int.natCast_emod]; omega)
              have HD := Lib.hid hdiv
              clear hdiv
              go_wp2
              go_ret
              refine ⟨ret_bool ?_, rfl⟩
              have hdk : d < k := by
                rcases Nat.lt_or_ge d k with h6 | h6
                · exact h6
                · have h7 : k * 3 ≤ d * d := Nat.mul_le_mul h6 hd2
                  omega
              exact (decide_eq_false (fun h => h.2 d (by omega) hdk HD.out)).symm
            · have hq : ((k : Int) % (d : Int) == 0) = false := beq_eq_false_iff_ne.mpr (by rw [← Int.natCast_emod]; omega)
              have HD := Lib.hid hdiv
              clear hdiv
              go_wp2
              go_round
              case rel =>
                have ho := hodd.out
                exact ⟨d + 2, by omega, by omega, by go_num, (by omega : (d + 2) % 2 = 1), fun e h h' h'' => by
                  rcases Nat.lt_or_ge e d with h3 | h3
                  · exact hno.out e h h3 h''
                  · obtain rfl : e = d := by omega
                    exact HD.out⟩
              case measure => simp [intOf]; omega
          · have hl : decide ((d : Int) * d ≤ (k : Int)) = false := decide_eq_false (by omega)
            have HL := Lib.hid hle
            clear h5 hle
            go_wp2
            go_ret
            refine ⟨ret_bool ?_, rfl⟩
            exact (decide_eq_true (prime_odd HE.out h3 (by have := HL.out; omega) hno.out)).symm
open Classical in
/-- Least, of every number. -/
noncomputable def leastN (n : Int) : Int := if h : ∃ m : Nat, n < 2147483649 ∧ LeastIs n.toNat m then (Classical.choose h : Nat) else 0
theorem leastN_no (n : Int) (h : n < 2 ∨ 2147483648 < n) : leastN n = 0 := by
  unfold leastN
  rw [dif_neg]
  rintro ⟨m, h1, h2⟩
  have := h2.1
  have := h2.2.1
  omega
theorem leastN_yes (n m : Nat) (hn : n ≤ 2147483648) (h : LeastIs n m) : leastN (n : Int) = m := by
  unfold leastN
  have he : ∃ m : Nat, (n : Int) < 2147483649 ∧ LeastIs (n : Int).toNat m := ⟨m, by omega, by rw [Int.toNat_natCast]; exact h⟩
  rw [dif_pos he]
  have h2 : LeastIs n (Classical.choose he) := by
    have := (Classical.choose_spec he).2
    simpa using this
  rw [h2.unique h]
theorem leastN_calls (n : Int) (w : World) : Calls Tryd.prog 90 #[.int .i64 n] w fun e w' => e = .returned (.int .i64 (leastN n)) ∧ w = w' := by
  by_cases h : n < 2 ∨ 2147483648 < n
  · rw [leastN_no n h]; exact least_no n w h
  · obtain ⟨k, rfl⟩ : ∃ k : Nat, n = k := ⟨n.toNat, by omega⟩
    refine (least_calls k w (by omega) (by omega)).mono ?_
    rintro e w' ⟨⟨m, hm, rfl⟩, rfl⟩
    exact ⟨by rw [leastN_yes k m (by omega) hm], rfl⟩
end Go.Proofs.YtmpdcdfnbkfabaaDoor.Prime
