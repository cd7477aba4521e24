/- The laws SumsCheck, SumsChange. -/
import Derived.Test.YtgldlpfhebncgaaSums3
import Derived.BigQuiet
import Derived.Deep.QuietTactic
namespace Go.Proofs.Ytgldlpfhebncgaa.Sums
open Go.RowKit Go.Proofs.Ytgldlpfhebncgaa.Mem Go.Proofs.Ytgldlpfhebncgaa.Num Go.Proofs.Ytgldlpfhebncgaa.SumsP
set_option linter.unusedVariables false
set_option linter.unusedSimpArgs false
theorem sumschange_calls (c a b : Int) (w : World) : Calls Try.prog 8 #[.int .i64 c, .int .i64 a, .int .i64 b] w fun e w' => e = .returned (.bool true) ∧ Below w.heap.size w w' := by
  go_enter Try.func8, Try.ntmps8
  go_wp2_with (first
    | (go_at_call 24; ((with_reducible refine (alive_calls _).mono ?_); rintro e w' ⟨rfl, hB⟩))
    | (go_at_call 31; ((with_reducible refine (change_calls _ _ _ _).mono ?_); rintro e w' ⟨rfl, rfl⟩))
    | (go_at_call 32; ((with_reducible refine (refchange_calls _ _ _ _).mono ?_); rintro e w' ⟨rfl, rfl⟩))
    | (go_at_call 33; ((with_reducible refine (same_calls _ _ _).mono ?_); rintro e w' ⟨rfl, rfl⟩))
    | (go_at_call 34; ((with_reducible refine (refsame_calls _ _ _).mono ?_); rintro e w' ⟨rfl, rfl⟩)))
  go_ret
  exact ⟨rfl, by assumption⟩
theorem sumscheck_calls (n : Int) (v : Value) (l : List UInt8) (w : World) (hv : Row eU8 w v l) (hn : n ≤ 9223372036854775807) (hn' : -9223372036854775808 ≤ n) :
    Calls Try.prog 7 #[v, .int .i64 n] w fun e w' => e = .returned (.bool true) ∧ Below w.heap.size w w' := by
  by_cases hl : 2000 < l.length
  · obtain ⟨A, c, rfl, hc, hm, hr⟩ := hv.parts
    clear hv hr
    go_enter Try.func7, Try.ntmps7
    go_wp2_with (go_at_call 24; ((with_reducible refine (alive_calls _).mono ?_); rintro e w' ⟨rfl, hB⟩))
    go_ret
    exact ⟨rfl, by assumption⟩
  · obtain ⟨A, c, rfl, hc, hm, hr⟩ := hv.parts
    have HV := Lib.hid hr
    clear hv hr
    have hcl := clampN_le n
    have htl := total_le l
    rcases (show (n < 0 ∧ clampN n = 0) ∨ (0 ≤ n ∧ n ≤ 1099511627776 ∧ clampN n = n) ∨ (1099511627776 < n ∧ clampN n = 1099511627776) by unfold clampN; split <;> (try split) <;> omega) with ⟨h1, hc1⟩ | ⟨h1, h2, hc1⟩ | ⟨h2, hc1⟩
    all_goals
      go_enter Try.func7, Try.ntmps7
      go_wp2_with (first
        | (go_at_call 24; ((with_reducible refine (alive_calls _).mono ?_); rintro e w1 ⟨rfl, hB1⟩; have HB1 := Lib.hid hB1; clear hB1))
        | (go_at_call 13; ((with_reducible refine (bytes_calls _ l _ (HV.out.below HB1.out) (by omega)).mono ?_); rintro e w2 ⟨u, rfl, hM, hB2⟩; have HM := Lib.hid hM; have HB2 := Lib.hid (below_next HB1.out hB2); clear hM hB2))
        | (go_at_call 25; ((with_reducible refine (check_calls _ l _ (HM.out.row (by omega)) (by omega)).mono ?_); rintro e w3 ⟨rfl, hB3⟩; have HB3 := Lib.hid (below_next HB2.out hB3); have HM3 := Lib.hid (HM.out.below hB3); clear hB3))
        | (go_at_call 26; ((with_reducible refine (refcheck_calls _ l _ (HV.out.below HB3.out) (by omega)).mono ?_); rintro e w' ⟨rfl, rfl⟩))
        | (go_at_call 27; ((with_reducible refine (add_calls _ _ l _ (HM3.out.row (by omega)) (by omega)).mono ?_); rintro e w4 ⟨rfl, hB4⟩; have HB4 := Lib.hid (below_next HB3.out hB4); have HM4 := Lib.hid (HM3.out.below hB4); clear hB4))
        | (go_at_call 28; ((with_reducible refine (reftotal_calls _ l _ (HV.out.below HB4.out) (by omega)).mono ?_); rintro e w' ⟨rfl, rfl⟩))
        | (go_at_call 29; ((with_reducible refine (fold_calls _ _ hn).mono ?_); rintro e w' ⟨rfl, rfl⟩))
        | (go_at_call 30; ((with_reducible refine (reffold_calls _ _ hn hn').mono ?_); rintro e w' ⟨rfl, rfl⟩))
        | (go_at_call 19; ((with_reducible refine (kept_calls _ _ _ l _ HM4.out (HV.out.below HB4.out) (by omega)).mono ?_); rintro e w' ⟨rfl, k, rfl⟩)))
      go_ret
      exact ⟨rfl, below_drewN HB4.out _⟩
theorem change_row (W : World) (a : Int) (ha : (Lit.int .i64 a).wf = true) (b : Int) (hb : (Lit.int .i64 b).wf = true) (c : Int) (hc : (Lit.int .i64 c).wf = true) : Calls Try.prog 8 #[.int .i64 a, .int .i64 b, .int .i64 c] W fun e W' => e = .returned (.bool true) ∧ Below W.heap.size W W' := sumschange_calls _ _ _ _
theorem check_row (W : World) (v : Value) (l : List UInt8) (hv : Row eU8 W v l) (n : Int) (hn : (Lit.int .i64 n).wf = true) : Calls Try.prog 7 #[v, .int .i64 n] W fun e W' => e = .returned (.bool true) ∧ Below W.heap.size W W' := by
  have h : -9223372036854775808 ≤ n ∧ n ≤ 9223372036854775807 := by simp [Lit.wf, IntKind.min, IntKind.max, IntKind.signed, IntKind.bits] at hn; omega
  exact sumscheck_calls _ _ _ _ hv h.2 h.1
end Go.Proofs.Ytgldlpfhebncgaa.Sums
