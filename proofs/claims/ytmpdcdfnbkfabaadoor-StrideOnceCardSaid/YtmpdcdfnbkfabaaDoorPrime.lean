/- Package prime and its document's answer: contracts. -/
import Derived.Test.YtmpdcdfnbkfabaaDoorErr
import Derived.Test.YtmpdcdfnbkfabaaDoorPrimeP
import Derived.BigQuiet
import Derived.Deep.QuietTactic
namespace Go.Proofs.YtmpdcdfnbkfabaaDoor.Prime
open Go.RowKit Go.Proofs.YtmpdcdfnbkfabaaDoor.Mem Go.Proofs.YtmpdcdfnbkfabaaDoor.Err Go.Proofs.YtmpdcdfnbkfabaaDoor.PrimeP
set_option linter.unusedVariables false
set_option linter.unusedSimpArgs false
theorem ret_i64 {a b : Int} (h : a = b) : Ending.returned (.int .i64 a) = .returned (.int .i64 b) := by rw [h]
theorem wrap64_id {n : Int} (h0 : -9223372036854775808 ≤ n) (h1 : n ≤ 9223372036854775807) : wrap64 n = n := by unfold wrap64; omega

theorem rest_calls (a p : Int) (w : World) (hp : 1 ≤ p) (hp2 : p ≤ 2147483648) :
    Calls Tryd.prog 84 #[.int .i64 a, .int .i64 p] w fun e w' => e = .returned (.int .i64 (a % p)) ∧ w = w' := by
  have h0 : (p == 0) = false := beq_eq_false_iff_ne.mpr (by omega)
  have h1 := tmod_bounds a p (by omega)
  obtain ⟨h2, h3⟩ := h1
  have h4 : wrap64 (a.tmod p) = a.tmod p := wrap64_id (by omega) (by omega)
  have h5 := rest_eq a p (by omega)
  have H5 := Lib.hid h5
  clear h5
  have h6 := tmod_bounds (a.tmod p + p) p (by omega)
  obtain ⟨h7, h8⟩ := h6
  go_enter Tryd.func84, Tryd.ntmps84
  go_wp2
  go_ret
  exact ⟨ret_i64 (rest_eq' a p (by omega)), rfl⟩
/-- What both powers answer. -/
def pw (a : Int) (k : Nat) (p : Int) : Int := (a % p) ^ k % p
theorem pw_range (a : Int) (k : Nat) (p : Int) (hp : 1 ≤ p) : 0 ≤ pw a k p ∧ pw a k p < p := ⟨Int.emod_nonneg _ (by omega), Int.emod_lt_of_pos _ (by omega)⟩

theorem power_no (a k p : Int) (w : World) (h : p < 1 ∨ 2147483648 < p ∨ k < 0) :
    Calls Tryd.prog 85 #[.int .i64 a, .int .i64 k, .int .i64 p] w fun e w' => e = .returned (.int .i64 0) ∧ w = w' := by
  by_cases h1 : p < 1
  · go_enter Tryd.func85, Tryd.ntmps85
    go_wp2
    go_ret
    exact ⟨rfl, rfl⟩
  · by_cases h2 : 2147483648 < p
    · go_enter Tryd.func85, Tryd.ntmps85
      go_wp2
      go_ret
      exact ⟨rfl, rfl⟩
    · have h3 : k < 0 := by omega
      clear h
      go_enter Tryd.func85, Tryd.ntmps85
      go_wp2
      go_ret
      exact ⟨rfl, rfl⟩
theorem and1 (k : Nat) (hk : k ≤ 9223372036854775807) : bits .and .i64 (k : Int) 1 = ((k % 2 : Nat) : Int) := by
  have := bits_mask .i64 63 (by decide) (fun n h0 h1 => by rw [IntKind.wrap_i64]; omega) 1 (by decide) (k : Int) (by omega) (by omega)
  rw [show (1 : Int) = 2 ^ 1 - 1 by decide, this]
  simp
theorem power_calls (a : Int) (k : Nat) (p : Int) (w : World) (hp : 1 ≤ p) (hp2 : p ≤ 2147483648) (hk : k ≤ 9223372036854775807) :
    Calls Tryd.prog 85 #[.int .i64 a, .int .i64 (k : Int), .int .i64 p] w fun e w' => e = .returned (.int .i64 (pw a k p)) ∧ w = w' := by
  have h0 : (p == 0) = false := beq_eq_false_iff_ne.mpr (by omega)
  go_enter Tryd.func85, Tryd.ntmps85
  go_wp2_with (go_at_call 84; ((with_reducible refine (rest_calls _ _ _ hp hp2).mono ?_); rintro e w' ⟨rfl, rfl⟩))
  go_loop [1, 7, 8] (fun kv ov bv => ∃ (j : Nat) (out b : Int), j ≤ k ∧ kv = .int .i64 (j : Int) ∧ ov = .int .i64 out ∧ bv = .int .i64 b ∧ 0 ≤ out ∧ out < p ∧ 0 ≤ b ∧ b < p ∧ Hid ((out * b ^ j) % p = pw a k p)) (fun kv _ _ => (intOf kv).toNat)
  case atStart =>
    refine ⟨k, _, _, Nat.le_refl _, rfl, rfl, rfl, Int.emod_nonneg _ (by omega), Int.emod_lt_of_pos _ (by omega), Int.emod_nonneg _ (by omega), Int.emod_lt_of_pos _ (by omega), ?_⟩
    show (1 % p * (a % p) ^ k) % p = _
    unfold pw
    rw [Int.mul_emod, Int.emod_emod_of_dvd _ (Int.dvd_refl p), ← Int.mul_emod, Int.one_mul]
  case round =>
    obtain ⟨j, out, b, hj, rfl, rfl, rfl, ho0, ho1, hb0, hb1, hinv⟩ := hrel
    by_cases hz : j = 0
    · subst hz
      have hx := hinv.out
      rw [Int.pow_zero, Int.mul_one, Int.emod_eq_of_lt ho0 ho1] at hx
      clear hinv
      go_wp2
      go_ret
      exact ⟨rfl, rfl⟩
    · have hjpos : 0 < j := by omega
      obtain ⟨m1, m2⟩ := mul_lt out b p ho0 hb0 ho1 hb1 hp2
      obtain ⟨m3, m4⟩ := mul_lt b b p hb0 hb0 hb1 hb1 hp2
      have ha := and1 j (by omega)
      rcases Nat.mod_two_eq_zero_or_one j with he | he
      · have hodd : ((bits .and .i64 (j : Int) 1) == 1) = false := by rw [ha, he]; rfl
        clear ha
        have HE := Lib.hid he
        clear he hz
        go_wp2
        go_round
        case rel => exact ⟨j / 2, out, b * b % p, by omega, by simp, rfl, rfl, ho0, ho1, Int.emod_nonneg _ (by omega), Int.emod_lt_of_pos _ (by omega), (pow_even out b p j HE.out).trans hinv.out⟩
        case measure => simp [intOf]; omega
      · have hodd : ((bits .and .i64 (j : Int) 1) == 1) = true := by rw [ha, he]; rfl
        clear ha
        have HE := Lib.hid he
        clear he hz
        go_wp2
        go_round
        case rel => exact ⟨j / 2, out * b % p, b * b % p, by omega, by simp, rfl, rfl, Int.emod_nonneg _ (by omega), Int.emod_lt_of_pos _ (by omega), Int.emod_nonneg _ (by omega), Int.emod_lt_of_pos _ (by omega), (pow_odd out b p j HE.out).trans hinv.out⟩
        case measure => simp [intOf]; omega
theorem least_no (n : Int) (w : World) (h : n < 2 ∨ 2147483648 < n) :
    Calls Tryd.prog 90 #[.int .i64 n] w fun e w' => e = .returned (.int .i64 0) ∧ w = w' := by
  by_cases h1 : n < 2
  · go_enter Tryd.func90, Tryd.ntmps90
    go_wp2
    go_ret
    exact ⟨rfl, rfl⟩
  · have h2 : 2147483648 < n := by omega
    clear h
    go_enter Tryd.func90, Tryd.ntmps90
    go_wp2
    go_ret
    exact ⟨rfl, rfl⟩
def LeastRet (n : Nat) (e : Ending) : Prop := ∃ m : Nat, LeastIs n m ∧ e = .returned (.int .i64 (m : Int))
theorem root_le (d n : Nat) (h : d * d ≤ n) (hn : n ≤ 2147483648) : d ≤ 46341 := by
  rcases Nat.lt_or_ge d 46342 with h1 | h1
  · omega
  · have := Nat.mul_le_mul h1 h1; omega
theorem least_calls (n : Nat) (w : World) (h1 : 2 ≤ n) (h2 : n ≤ 2147483648) :
    Calls Tryd.prog 90 #[.int .i64 (n : Int)] w fun e w' => LeastRet n e ∧ w = w' := by
  go_enter Tryd.func90, Tryd.ntmps90
  go_wp2
  go_loop [3] (fun dv => ∃ d : Nat, 2 ≤ d ∧ d ≤ 46342 ∧ dv = .int .i64 (d : Int) ∧ Hid (∀ e, 2 ≤ e → e < d → n % e ≠ 0)) (fun dv => 46342 - (intOf dv).toNat)
  case atStart => exact ⟨2, by omega, by omega, rfl, fun e h h' => by omega⟩
  case round =>
    obtain ⟨d, hd2, hd, rfl, hno⟩ := hrel
    have m0 : (0 : Int) ≤ (d : Int) * d := Int.mul_nonneg (by omega) (by omega)
    have m1 : (d : Int) * d ≤ 9223372036854775807 := by
      have : d * d ≤ 46342 * 46342 := Nat.mul_le_mul hd hd
      have h3 : ((d * d : Nat) : Int) = (d : Int) * d := by simp
      omega
    have h3 : ((d * d : Nat) : Int) = (d : Int) * d := by simp
    have hz : ((d : Int) == 0) = false := beq_eq_false_iff_ne.mpr (by omega)
    by_cases hle : d * d ≤ n
    · have hl : decide ((d : Int) * d ≤ (n : Int)) = true := decide_eq_true (by omega)
      have hd' := root_le d n hle h2
      clear h3
      by_cases hdiv : n % d = 0
      · have hq : ((n : Int) % (d : Int) == 0) = true := beq_iff_eq.mpr (by rw [← Int.natCast_emod]; omega)
        have HD := Lib.hid hdiv
        clear hdiv
        go_wp2
        go_ret
        have hdn : d ≤ n := Nat.le_trans (Nat.le_mul_of_pos_left d (by omega)) hle
        exact ⟨⟨d, ⟨hd2, hdn, HD.out, hno.out⟩, rfl⟩, rfl⟩
      · have hq : ((n : Int) % (d : Int) == 0) = false := beq_eq_false_iff_ne.mpr (by rw [← Int.natCast_emod]; omega)
        have HD := Lib.hid hdiv
        clear hdiv
        go_wp2
        go_round
        case rel => exact ⟨d + 1, by omega, by omega, by go_num, fun e h h' => by
          rcases Nat.lt_or_ge e d with h3 | h3
          · exact hno.out e h h3
          · obtain rfl : e = d := by omega
            exact HD.out⟩
        case measure => simp [intOf]; omega
    · have hl : decide ((d : Int) * d ≤ (n : Int)) = false := decide_eq_false (by omega)
      have HL := Lib.hid hle
      clear h3 hle
      go_wp2
      go_ret
      exact ⟨⟨n, LeastIs.of_root h1 (by have := HL.out; omega) hno.out, rfl⟩, rfl⟩
theorem is_calls (n : Int) (w : World) :
    Calls Tryd.prog 77 #[.int .i64 n] w fun e w' => e = .returned (.bool (isP n)) ∧ w = w' := by
  by_cases h1 : 2 ≤ n
  · by_cases h2 : n ≤ 2147483648
    · obtain ⟨k, rfl⟩ : ∃ k : Nat, n = k := ⟨n.toNat, by omega⟩
      have hp : isP (k : Int) = decide (IsPrime k) := by
        unfold isP
        rw [Int.toNat_natCast]
        by_cases h : IsPrime k
        · rw [decide_eq_true h, decide_eq_true ⟨h1, h2, h⟩]
        · rw [decide_eq_false h, decide_eq_false (fun h' => h h'.2.2)]
      rw [hp]
      have HK := Lib.hid (fun w => least_calls k w (by omega) (by omega))
      have hd1 : decide (1 < (k : Int)) = true := decide_eq_true (by omega)
      clear hp
      go_enter Tryd.func77, Tryd.ntmps77
      go_wp2_with (go_at_call 90; ((with_reducible refine (HK.out _).mono ?_); rintro e w' ⟨⟨m, hm, rfl⟩, rfl⟩; have HM := Lib.hid hm; clear hm))
      go_ret
      refine ⟨?_, rfl⟩
      show Ending.returned (.bool ((m : Int) == (k : Int))) = _
      by_cases h : IsPrime k
      · have := HM.out.prime_iff.2 h
        rw [decide_eq_true h, beq_iff_eq.mpr (by omega)]
      · have : ¬ m = k := fun e => h (HM.out.prime_iff.1 e)
        rw [decide_eq_false h, beq_eq_false_iff_ne.mpr (by omega)]
    · have hp : isP n = false := decide_eq_false (fun h => h2 h.2.1)
      rw [hp]
      have hz : ((0 : Int) == n) = false := beq_eq_false_iff_ne.mpr (by omega)
      have h3 : 2147483648 < n := by omega
      clear hp h2
      go_enter Tryd.func77, Tryd.ntmps77
      go_wp2_with (go_at_call 90; ((with_reducible refine (least_no _ _ (.inr h3)).mono ?_); rintro e w' ⟨rfl, rfl⟩))
      go_ret
      exact ⟨rfl, rfl⟩
  · have hp : isP n = false := decide_eq_false (fun h => h1 h.1)
    rw [hp]
    have h3 : n ≤ 1 := by omega
    clear hp h1
    go_enter Tryd.func77, Tryd.ntmps77
    go_wp2
    go_ret
    exact ⟨rfl, rfl⟩
theorem next_no (n : Int) (w : World) (a : Addr) (h : 2147483648 ≤ n) (he : Holds w 2 a) :
    Calls Tryd.prog 76 #[.int .i64 n] w fun e w' => e = .returned (.tuple #[.int .i64 0, .iface 131 (.pointer (some a))]) ∧ ∃ k, w' = w.drewN k := by
  have hc : w.cell? ⟨2, 0, none⟩ = some (.iface 131 (.pointer (some a))) := he.1
  go_enter Tryd.func76, Tryd.ntmps76
  go_wp2
  go_quiet (fail)
  go_wp2
  go_ret2
  exact ⟨rfl, _, rfl⟩
/-- p is the least prime from n on. -/
def NextIs (n p : Int) : Prop := isP p = true ∧ n ≤ p ∧ ∀ k, n ≤ k → k < p → isP k = false
def NextRet (n : Int) (e : Ending) : Prop := ∃ p, NextIs n p ∧ e = .returned (.tuple #[.int .i64 p, .nilIface])
theorem next_calls (n : Int) (w : World) (h : n < 2147483648) :
    Calls Tryd.prog 76 #[.int .i64 n] w fun e w' => NextRet n e ∧ w = w' := by
  have HM : Hid (∀ k, k < 2 → isP k = false) := fun k hk => decide_eq_false fun h => by omega
  have hn : n ≤ 2147483647 := by omega
  clear h
  go_enter Tryd.func76, Tryd.ntmps76
  go_wp2
  all_goals
    go_loop [0] (fun mv => ∃ m : Int, mv = .int .i64 m ∧ 2 ≤ m ∧ n ≤ m ∧ m ≤ 2147483647 ∧ Hid (∀ k, n ≤ k → k < m → isP k = false)) (fun mv => (2147483647 - intOf mv).toNat)
    case atStart => first
      | exact ⟨2, rfl, by omega, by omega, by omega, fun k h1 h2 => HM.out k h2⟩
      | exact ⟨n, rfl, by omega, by omega, hn, fun k h1 h2 => by omega⟩
    case round =>
      obtain ⟨m, rfl, hm2, hmn, hmt, hno⟩ := hrel
      by_cases hp : isP m = true
      · have HP := Lib.hid hp
        have KP := Lib.hid (fun W => hp ▸ is_calls m W)
        clear hp
        go_wp2_with (go_at_call 77; ((with_reducible refine (KP.out _).mono ?_); rintro e w' ⟨rfl, rfl⟩))
        go_ret2
        exact ⟨⟨m, ⟨HP.out, hmn, hno.out⟩, rfl⟩, rfl⟩
      · have hp' : isP m = false := by simpa using hp
        have hlt : m < 2147483647 := by
          rcases Int.lt_or_eq_of_le hmt with h | h
          · exact h
          · rw [h, isP_top] at hp'; cases hp'
        have HP := Lib.hid hp'
        have KP := Lib.hid (fun W => hp' ▸ is_calls m W)
        clear hp hp'
        go_wp2_with (go_at_call 77; ((with_reducible refine (KP.out _).mono ?_); rintro e w' ⟨rfl, rfl⟩))
        go_round
        case rel => exact ⟨m + 1, rfl, by omega, by omega, by omega, fun k h1 h2 => by
          rcases Int.lt_or_eq_of_le (show k ≤ m by omega) with h3 | h3
          · exact hno.out k h1 h3
          · rw [h3]; exact HP.out⟩
        case measure => simp [intOf]; omega
/-- The chapter's example. -/
theorem alive_calls (w : World) : Calls Tryd.prog 56 #[] w fun e w' => e = .returned (.bool true) ∧ w = w' := by
  have h11 : ∀ p, NextIs 8 p → p = 11 := by
    intro p hp
    have h1 : isP 11 = true := by decide
    rcases Int.lt_trichotomy p 11 with h | h | h
    · have h2 : ∀ k : Nat, k < 11 → 8 ≤ k → isP (k : Int) = false := by decide
      have h3 := h2 p.toNat (by omega) (by have := hp.2.1; omega)
      rw [Int.toNat_of_nonneg (by have := hp.2.1; omega), hp.1] at h3
      cases h3
    · exact h
    · rw [hp.2.2 11 (by omega) h] at h1; cases h1
  have k2 : ∀ W, Calls Tryd.prog 77 #[.int .i64 2] W fun e w' => e = .returned (.bool true) ∧ W = w' := fun W => (show isP 2 = true by decide) ▸ is_calls 2 W
  have H11 := Lib.hid h11
  clear h11
  have K2 := Lib.hid k2
  clear k2
  go_enter Tryd.func56, Tryd.ntmps56
  go_wp2_with (first
    | (go_at_call 76; ((with_reducible refine (next_calls _ _ (by omega)).mono ?_); rintro e w' ⟨⟨p, hp, rfl⟩, rfl⟩; obtain rfl := H11.out p hp; clear hp))
    | (go_at_call 77; ((with_reducible refine (K2.out _).mono ?_); rintro e w' ⟨rfl, rfl⟩)))
  go_ret
  exact ⟨rfl, rfl⟩
end Go.Proofs.YtmpdcdfnbkfabaaDoor.Prime
