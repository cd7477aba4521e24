/- The statements of package prime: the document's answers, and PrimeIs. -/
import Derived.Test.YtgldlpfhebncgaaDoorPrime
import Derived.Test.YtgldlpfhebncgaaDoorErrNum
namespace Go.Proofs.YtgldlpfhebncgaaDoor.Prime
open Go.RowKit Go.Proofs.YtgldlpfhebncgaaDoor.Mem Go.Proofs.YtgldlpfhebncgaaDoor.Err Go.Proofs.YtgldlpfhebncgaaDoor.PrimeP
set_option linter.unusedVariables false
set_option linter.unusedSimpArgs false
theorem ret_bool {a b : Bool} (h : a = b) : Ending.returned (.bool a) = .returned (.bool b) := by rw [h]

theorem refis_calls (n : Int) (w : World) :
    Calls Tryd.prog 11 #[.int .i64 n] w fun e w' => e = .returned (.bool (isP n)) ∧ w = w' := by
  by_cases h1 : n < 2
  · rw [isP_no n (.inl h1)]
    go_enter Tryd.func11, Tryd.ntmps11
    go_wp2
    go_ret
    exact ⟨rfl, rfl⟩
  · by_cases h2 : 2147483648 < n
    · rw [isP_no n (.inr h2)]
      go_enter Tryd.func11, Tryd.ntmps11
      go_wp2
      go_ret
      exact ⟨rfl, rfl⟩
    · obtain ⟨k, rfl⟩ : ∃ k : Nat, n = k := ⟨n.toNat, by omega⟩
      have h3 : 2 ≤ k := by omega
      have h4 : k ≤ 2147483648 := by omega
      rw [isP_nat k h3 h4]
      clear h1 h2
      rcases Nat.mod_two_eq_zero_or_one k with he | he
      · have q : ((k : Int) % 2 == 0) = true := beq_iff_eq.mpr (by omega)
        have HE := Lib.hid he
        clear he
        go_enter Tryd.func11, Tryd.ntmps11
        go_wp2
        go_ret
        refine ⟨ret_bool ?_, rfl⟩
        show ((k : Int) == 2) = _
        by_cases h5 : k = 2
        · rw [decide_eq_true ((prime_even HE.out h3).2 h5), beq_iff_eq.mpr (by omega)]
        · rw [decide_eq_false (fun h => h5 ((prime_even HE.out h3).1 h)), beq_eq_false_iff_ne.mpr (by omega)]
      · have q : ((k : Int) % 2 == 0) = false := beq_eq_false_iff_ne.mpr (by omega)
        have HE := Lib.hid he
        clear he
        go_enter Tryd.func11, Tryd.ntmps11
        go_wp2
        go_loop [3] (fun dv => ∃ d : Nat, 3 ≤ d ∧ d ≤ 46343 ∧ dv = .int .i64 (d : Int) ∧ Hid (d % 2 = 1) ∧ Hid (∀ e, 3 ≤ e → e < d → e % 2 = 1 → k % e ≠ 0)) (fun dv => 46343 - (intOf dv).toNat)
        case atStart => exact ⟨3, by omega, by omega, rfl, rfl, fun e h h' => by omega⟩
        case round =>
          obtain ⟨d, hd2, hd, rfl, hodd, hno⟩ := hrel
          have h5 : ((d * d : Nat) : Int) = (d : Int) * d := by simp
          have m0 : (0 : Int) ≤ (d : Int) * d := Int.mul_nonneg (by omega) (by omega)
          have m1 : (d : Int) * d ≤ 9223372036854775807 := by
            have : d * d ≤ 46343 * 46343 := Nat.mul_le_mul hd hd
            omega
          have hz : ((d : Int) == 0) = false := beq_eq_false_iff_ne.mpr (by omega)
          by_cases hle : d * d ≤ k
          · have hl : decide ((d : Int) * d ≤ (k : Int)) = true := decide_eq_true (by omega)
            have hd' := root_le d k hle h4
            clear h5
            by_cases hdiv : k % d = 0
            · have hq : ((k : Int) % (d : Int) == 0) = true := beq_iff_eq.mpr (by rw [← Int.natCast_emod]; omega)
              have HD := Lib.hid hdiv
              clear hdiv
              go_wp2
              go_ret
              refine ⟨ret_bool ?_, rfl⟩
              have hdk : d < k := by
                rcases Nat.lt_or_ge d k with h6 | h6
                · exact h6
                · have h7 : k * 3 ≤ d * d := Nat.mul_le_mul h6 hd2
                  omega
              exact (decide_eq_false (fun h => h.2 d (by omega) hdk HD.out)).symm
            · have hq : ((k : Int) % (d : Int) == 0) = false := beq_eq_false_iff_ne.mpr (by rw [← Int.natCast_emod]; omega)
              have HD := Lib.hid hdiv
              clear hdiv
              go_wp2
              go_round
              case rel =>
                have ho := hodd.out
                exact ⟨d + 2, by omega, by omega, by go_num, (by omega : (d + 2) % 2 = 1), fun e h h' h'' => by
                  rcases Nat.lt_or_ge e d with h3 | h3
                  · exact hno.out e h h3 h''
                  · obtain rfl : e = d := by omega
                    exact HD.out⟩
              case measure => simp [intOf]; omega
          · have hl : decide ((d : Int) * d ≤ (k : Int)) = false := decide_eq_false (by omega)
            have HL := Lib.hid hle
            clear h5 hle
            go_wp2
            go_ret
            refine ⟨ret_bool ?_, rfl⟩
            exact (decide_eq_true (prime_odd HE.out h3 (by have := HL.out; omega) hno.out)).symm
theorem refleast_calls (n : Nat) (w : World) (h1 : 2 ≤ n) (h2 : n ≤ 2147483648) :
    Calls Tryd.prog 13 #[.int .i64 (n : Int)] w fun e w' => LeastRet n e ∧ w = w' := by
  go_enter Tryd.func13, Tryd.ntmps13
  go_wp2
  go_loop [3] (fun dv => ∃ d : Nat, 2 ≤ d ∧ d ≤ 46342 ∧ dv = .int .i64 (d : Int) ∧ Hid (∀ e, 2 ≤ e → e < d → n % e ≠ 0)) (fun dv => 46342 - (intOf dv).toNat)
  case atStart => exact ⟨2, by omega, by omega, rfl, fun e h h' => by omega⟩
  case round =>
    obtain ⟨d, hd2, hd, rfl, hno⟩ := hrel
    have hz : ((d : Int) == 0) = false := beq_eq_false_iff_ne.mpr (by omega)
    by_cases hlt : d < 46342
    · have hl : decide ((d : Int) < 46342) = true := decide_eq_true (by omega)
      have hb : (d : Int) ≤ 50000 := by omega
      have HD1 := Lib.hid hd
      have HLT := Lib.hid hlt
      by_cases hdiv : n % d = 0
      · have hq : ((n : Int) % (d : Int) == 0) = true := beq_iff_eq.mpr (by rw [← Int.natCast_emod]; omega)
        by_cases hdn : d ≤ n
        · have hL : LeastIs n d := ⟨hd2, hdn, hdiv, hno.out⟩
          have hp : isP (d : Int) = true := by rw [isP_nat d hd2 (by omega)]; exact decide_eq_true hL.prime
          have HL := Lib.hid hL
          have KP := Lib.hid (fun W => hp ▸ refis_calls (d : Int) W)
          clear hdiv hL hp hd hlt
          go_wp2_with (go_at_call 11; ((with_reducible refine (KP.out _).mono ?_); rintro e w' ⟨rfl, rfl⟩))
          go_ret
          exact ⟨⟨d, HL.out, rfl⟩, rfl⟩
        · exact absurd (Nat.mod_self n) (hno.out n h1 (by omega))
      · have hq : ((n : Int) % (d : Int) == 0) = false := beq_eq_false_iff_ne.mpr (by rw [← Int.natCast_emod]; omega)
        have HD := Lib.hid hdiv
        clear hdiv hd hlt
        go_wp2
        go_round
        case rel => exact ⟨d + 1, by omega, by have := HLT.out; omega, by go_num, fun e h h' => by
          rcases Nat.lt_or_ge e d with h3 | h3
          · exact hno.out e h h3
          · obtain rfl : e = d := by omega
            exact HD.out⟩
        case measure => have := HLT.out; simp [intOf]; omega
    · obtain rfl : d = 46342 := by omega
      go_wp2
      go_ret
      exact ⟨⟨n, LeastIs.of_root h1 (by omega) hno.out, rfl⟩, rfl⟩
open Classical in
/-- Least, of every number. -/
noncomputable def leastN (n : Int) : Int := if h : ∃ m : Nat, n < 2147483649 ∧ LeastIs n.toNat m then (Classical.choose h : Nat) else 0
theorem leastN_no (n : Int) (h : n < 2 ∨ 2147483648 < n) : leastN n = 0 := by
  unfold leastN
  rw [dif_neg]
  rintro ⟨m, h1, h2⟩
  have := h2.1
  have := h2.2.1
  omega
theorem leastN_yes (n m : Nat) (hn : n ≤ 2147483648) (h : LeastIs n m) : leastN (n : Int) = m := by
  unfold leastN
  have he : ∃ m : Nat, (n : Int) < 2147483649 ∧ LeastIs (n : Int).toNat m := ⟨m, by omega, by rw [Int.toNat_natCast]; exact h⟩
  rw [dif_pos he]
  have h2 : LeastIs n (Classical.choose he) := by
    have := (Classical.choose_spec he).2
    simpa using this
  rw [h2.unique h]
theorem leastN_calls (n : Int) (w : World) : Calls Tryd.prog 14 #[.int .i64 n] w fun e w' => e = .returned (.int .i64 (leastN n)) ∧ w = w' := by
  by_cases h : n < 2 ∨ 2147483648 < n
  · rw [leastN_no n h]; exact least_no n w h
  · obtain ⟨k, rfl⟩ : ∃ k : Nat, n = k := ⟨n.toNat, by omega⟩
    refine (least_calls k w (by omega) (by omega)).mono ?_
    rintro e w' ⟨⟨m, hm, rfl⟩, rfl⟩
    exact ⟨by rw [leastN_yes k m (by omega) hm], rfl⟩
theorem refleastN_calls (n : Int) (w : World) (h1 : 2 ≤ n) (h2 : n ≤ 2147483648) : Calls Tryd.prog 13 #[.int .i64 n] w fun e w' => e = .returned (.int .i64 (leastN n)) ∧ w = w' := by
  obtain ⟨k, rfl⟩ : ∃ k : Nat, n = k := ⟨n.toNat, by omega⟩
  refine (refleast_calls k w (by omega) (by omega)).mono ?_
  rintro e w' ⟨⟨m, hm, rfl⟩, rfl⟩
  exact ⟨by rw [leastN_yes k m (by omega) hm], rfl⟩

theorem primeis_calls (n : Int) (w : World) (es : List Addr) (he : Errs w es) :
    Calls Tryd.prog 5 #[.int .i64 n] w fun e w' => e = .returned (.bool true) ∧ Below w.heap.size w w' := by
  have hl18 := he.1
  have hrange : Holds w 0 (es[0]'(by omega)) := he.2.2 0 (by omega)
  have HE := Lib.hid he
  have HR := Lib.hid hrange
  clear he hrange
  rcases (show n < 2 ∨ 2 ≤ n ∧ n < 2147483648 ∨ n = 2147483648 ∨ 2147483648 < n by omega) with h1 | ⟨h1, h2⟩ | h1 | h1
  · have hz := leastN_no n (.inl h1)
    have h2 : n < 2147483648 := by omega
    go_enter Tryd.func5, Tryd.ntmps5
    go_wp2_with (first
      | (go_at_call 7; ((with_reducible refine (alive_calls _).mono ?_); rintro e w' ⟨rfl, rfl⟩))
      | (go_at_call 12; ((with_reducible refine (is_calls _ _).mono ?_); rintro e w' ⟨rfl, rfl⟩))
      | (go_at_call 11; ((with_reducible refine (refis_calls _ _).mono ?_); rintro e w' ⟨rfl, rfl⟩))
      | (go_at_call 13; ((with_reducible refine (refleastN_calls _ _ (by omega) (by omega)).mono ?_); rintro e w' ⟨rfl, rfl⟩))
      | (go_at_call 14; ((with_reducible refine (leastN_calls _ _).mono ?_); rintro e w' ⟨rfl, rfl⟩))
      | (go_at_call 15; ((with_reducible refine (next_calls _ _ h2).mono ?_); rintro e w' ⟨⟨p, hp, rfl⟩, rfl⟩; have hnp := hp.2.1; have hip := hp.1; obtain ⟨hpa, hpb⟩ := isP_le hp.1; have HP := Lib.hid hp.2.2; clear hp)))
    go_loop [7] (fun kv => ∃ k : Int, kv = .int .i64 k ∧ n ≤ k ∧ 2 ≤ k ∧ k ≤ 9223372036854775807) (fun kv => (p - intOf kv).toNat)
    case atStart => exact ⟨_, rfl, by omega, by omega, by omega⟩
    case round =>
      obtain ⟨k, rfl, hk1, hk0, hk2⟩ := hrel
      by_cases hlt : k < p
      · have KP := Lib.hid (fun W => HP.out k hk1 hlt ▸ refis_calls k W)
        go_wp2_with (go_at_call 11; ((with_reducible refine (KP.out _).mono ?_); rintro e w' ⟨rfl, rfl⟩))
        go_round
        case rel => exact ⟨k + 1, rfl, by omega, by omega, by omega⟩
        case measure => simp [intOf]; omega
      · go_wp2
        go_ret
        exact ⟨rfl, Below.refl _ _⟩
  · go_enter Tryd.func5, Tryd.ntmps5
    go_wp2_with (first
      | (go_at_call 7; ((with_reducible refine (alive_calls _).mono ?_); rintro e w' ⟨rfl, rfl⟩))
      | (go_at_call 12; ((with_reducible refine (is_calls _ _).mono ?_); rintro e w' ⟨rfl, rfl⟩))
      | (go_at_call 11; ((with_reducible refine (refis_calls _ _).mono ?_); rintro e w' ⟨rfl, rfl⟩))
      | (go_at_call 13; ((with_reducible refine (refleastN_calls _ _ (by omega) (by omega)).mono ?_); rintro e w' ⟨rfl, rfl⟩))
      | (go_at_call 14; ((with_reducible refine (leastN_calls _ _).mono ?_); rintro e w' ⟨rfl, rfl⟩))
      | (go_at_call 15; ((with_reducible refine (next_calls _ _ h2).mono ?_); rintro e w' ⟨⟨p, hp, rfl⟩, rfl⟩; have hnp := hp.2.1; have hip := hp.1; obtain ⟨hpa, hpb⟩ := isP_le hp.1; have HP := Lib.hid hp.2.2; clear hp)))
    go_loop [7] (fun kv => ∃ k : Int, kv = .int .i64 k ∧ n ≤ k ∧ 2 ≤ k ∧ k ≤ 9223372036854775807) (fun kv => (p - intOf kv).toNat)
    case atStart => exact ⟨_, rfl, by omega, by omega, by omega⟩
    case round =>
      obtain ⟨k, rfl, hk1, hk0, hk2⟩ := hrel
      by_cases hlt : k < p
      · have KP := Lib.hid (fun W => HP.out k hk1 hlt ▸ refis_calls k W)
        go_wp2_with (go_at_call 11; ((with_reducible refine (KP.out _).mono ?_); rintro e w' ⟨rfl, rfl⟩))
        go_round
        case rel => exact ⟨k + 1, rfl, by omega, by omega, by omega⟩
        case measure => simp [intOf]; omega
      · go_wp2
        go_ret
        exact ⟨rfl, Below.refl _ _⟩
  · have KN := Lib.hid (fun W => next_no n W (es[0]'(by omega)) (by omega))
    have KU := Lib.hid (fun k => num_calls (w.drewN k) es (HE.out.below (below_drewN (Below.refl _ _) k)) 0 (by omega))
    have hd : decide (1 < n) = true := decide_eq_true (by omega)
    have hd2 : decide (n ≤ 2147483648) = true := decide_eq_true (by omega)
    have hd3 : decide (2147483648 ≤ n) = true := decide_eq_true (by omega)
    have H1 := Lib.hid h1
    have h4 : 2 ≤ n := by omega
    have h5 : n ≤ 2147483648 := by omega
    clear h1
    go_enter Tryd.func5, Tryd.ntmps5
    go_wp2_with (first
      | (go_at_call 7; ((with_reducible refine (alive_calls _).mono ?_); rintro e w' ⟨rfl, rfl⟩))
      | (go_at_call 12; ((with_reducible refine (is_calls _ _).mono ?_); rintro e w' ⟨rfl, rfl⟩))
      | (go_at_call 11; ((with_reducible refine (refis_calls _ _).mono ?_); rintro e w' ⟨rfl, rfl⟩))
      | (go_at_call 13; ((with_reducible refine (refleastN_calls _ _ (by omega) (by omega)).mono ?_); rintro e w' ⟨rfl, rfl⟩))
      | (go_at_call 14; ((with_reducible refine (leastN_calls _ _).mono ?_); rintro e w' ⟨rfl, rfl⟩))
      | (go_at_call 15; ((with_reducible refine (KN.out _ HR.out).mono ?_); rintro e w' ⟨rfl, k, rfl⟩))
      | (go_at_call 16; ((with_reducible refine (KU.out _).mono ?_); rintro e w2 ⟨rfl, hb2⟩)))
    go_ret
    exact ⟨rfl, below_next (below_drewN (Below.refl _ _) _) hb2⟩
  · have KN := Lib.hid (fun W => next_no n W (es[0]'(by omega)) (by omega))
    have KU := Lib.hid (fun k => num_calls (w.drewN k) es (HE.out.below (below_drewN (Below.refl _ _) k)) 0 (by omega))
    have hz := leastN_no n (.inr h1)
    have hd : decide (1 < n) = true := decide_eq_true (by omega)
    have hd2 : decide (n ≤ 2147483648) = false := decide_eq_false (by omega)
    have hd3 : decide (2147483648 ≤ n) = true := decide_eq_true (by omega)
    go_enter Tryd.func5, Tryd.ntmps5
    go_wp2_with (first
      | (go_at_call 7; ((with_reducible refine (alive_calls _).mono ?_); rintro e w' ⟨rfl, rfl⟩))
      | (go_at_call 12; ((with_reducible refine (is_calls _ _).mono ?_); rintro e w' ⟨rfl, rfl⟩))
      | (go_at_call 11; ((with_reducible refine (refis_calls _ _).mono ?_); rintro e w' ⟨rfl, rfl⟩))
      | (go_at_call 13; ((with_reducible refine (refleastN_calls _ _ (by omega) (by omega)).mono ?_); rintro e w' ⟨rfl, rfl⟩))
      | (go_at_call 14; ((with_reducible refine (leastN_calls _ _).mono ?_); rintro e w' ⟨rfl, rfl⟩))
      | (go_at_call 15; ((with_reducible refine (KN.out _ HR.out).mono ?_); rintro e w' ⟨rfl, k, rfl⟩))
      | (go_at_call 16; ((with_reducible refine (KU.out _).mono ?_); rintro e w2 ⟨rfl, hb2⟩)))
    go_ret
    exact ⟨rfl, below_next (below_drewN (Below.refl _ _) _) hb2⟩
theorem errs_of (W : World) (es : List Addr) (el : es.length = 18) (en : es.Nodup) (eh : ∀ (k g : Nat) (a : Addr), gl[k]? = some g → es[k]? = some a → Holds W g a) : Errs W es :=
  ⟨el, en, fun k hk => by
    have hg : k < gl.length := by show k < 18; omega
    have := eh k gl[k] es[k] (List.getElem?_eq_getElem hg) (List.getElem?_eq_getElem hk)
    rwa [List.getD_eq_getElem?_getD, List.getElem?_eq_getElem hg]⟩
theorem primeis_row (W : World) (es : List Addr) (el : es.length = 18) (en : es.Nodup) (eh : ∀ (k g : Nat) (a : Addr), gl[k]? = some g → es[k]? = some a → Holds W g a) (n : Int) (hn : (Lit.int .i64 n).wf = true) :
    Calls Tryd.prog 5 #[.int .i64 n] W fun e W' => e = .returned (.bool true) ∧ Below W.heap.size W W' :=
  primeis_calls n W es (errs_of W es el en eh)
end Go.Proofs.YtgldlpfhebncgaaDoor.Prime
