/- linkboyref02.numeral. -/
import Derived.Test.YtmcgkknpkocgoaaGreatDoorAf3
import Derived.BigQuiet
import Derived.Deep.QuietTactic
namespace Go.Proofs.YtmcgkknpkocgoaaGreatDoor.Ad
open Go.RowKit Go.Proofs.YtmcgkknpkocgoaaGreatDoor.Mem Go.Proofs.YtmcgkknpkocgoaaGreatDoor.Num Go.Proofs.YtmcgkknpkocgoaaGreatDoor.Err Go.Proofs.YtmcgkknpkocgoaaGreatDoor.AdP
set_option linter.unusedVariables false
set_option linter.unusedSimpArgs false
set_option maxRecDepth 100000
/-- The figures. -/
abbrev figs : ByteArray := ⟨#[48, 49, 50, 51, 52, 53, 54, 55, 56, 57, 97, 98, 99, 100, 101, 102]⟩
theorem figs_cut : ∀ n : Nat, n < 16 → figs.extract n (n + 1) = str [dig n] := by
  intro n h
  have key : ∀ k : Fin 16, (figs.extract k (k + 1)).data = (str [dig k]).data := by decide
  exact ByteArray.ext (key ⟨n, h⟩)
theorem cut_fig (r : Nat) (h : r < 16) (W : World) : (Instr.slice 9 (.string figs) (some (.int .i64 (r : Int))) (some (.int .i64 ((r : Int) + 1))) none).run Tryz.prog W = .ok (.string (str [dig r])) W := by
  rcases (show r = 0 ∨ r = 1 ∨ r = 2 ∨ r = 3 ∨ r = 4 ∨ r = 5 ∨ r = 6 ∨ r = 7 ∨ r = 8 ∨ r = 9 ∨ r = 10 ∨ r = 11 ∨ r = 12 ∨ r = 13 ∨ r = 14 ∨ r = 15 by omega) with rfl | rfl | rfl | rfl | rfl | rfl | rfl | rfl | rfl | rfl | rfl | rfl | rfl | rfl | rfl | rfl
  all_goals kernel_rfl
theorem div_letter (n b q : Nat) (hb : 0 < b) (hb2 : b ≤ 16) (hn : n < 65536) (hq : q = n / b) (W : World) : (binOp .quo 3 (.int .i64 (n : Int)) (.int .i64 (b : Int))).run Tryz.prog W = .ok (.int .i64 (q : Int)) W := by
  have h0 : (b : Int) ≠ 0 := by omega
  have h1 : ((n : Int).tdiv (b : Int)) = (q : Int) := by rw [Int.tdiv_eq_ediv_of_nonneg (by omega), hq]; rfl
  have hq2 : q < 65536 := by rw [hq]; exact Nat.lt_of_le_of_lt (Nat.div_le_self _ _) hn
  have h2 : IntKind.i64.wrap (q : Int) = (q : Int) := by rw [IntKind.wrap_i64]; omega
  have h3 : ¬ b = 0 := by omega
  simp [go_sem, h0, h1, h2, h3]
theorem mod_letter (n b r : Nat) (hb : 0 < b) (hb2 : b ≤ 16) (hn : n < 65536) (hr : r = n % b) (W : World) : (binOp .rem 3 (.int .i64 (n : Int)) (.int .i64 (b : Int))).run Tryz.prog W = .ok (.int .i64 (r : Int)) W := by
  have h0 : (b : Int) ≠ 0 := by omega
  have h1 : ((n : Int).tmod (b : Int)) = (r : Int) := by rw [Int.tmod_eq_emod_of_nonneg (by omega), hr]; rfl
  have hr2 : r < 65536 := by rw [hr]; exact Nat.lt_of_le_of_lt (Nat.mod_le _ _) hn
  have h2 : IntKind.i64.wrap (r : Int) = (r : Int) := by rw [IntKind.wrap_i64]; omega
  have h3 : ¬ b = 0 := by omega
  simp [go_sem, h0, h1, h2, h3]
set_option maxHeartbeats 2000000 in
theorem numeral_calls (bb : Nat) (hbb : bb = 10 ∨ bb = 16) : ∀ (f n : Nat), f ≤ 50 → n < 65536 → n < bb ^ (f + 1) → ∀ W, Calls Tryz.prog 84 #[.int .i64 (n : Int), .int .i64 (bb : Int)] W fun e w' => e = .returned (.string (str (numb bb f n))) ∧ ∃ m, w' = W.drewN m
  | f, n, hf5, hn, hf, W => by
    have hni : (n : Int) < 65536 := by omega
    have hb0 : 0 < bb := by omega
    have hb16 : bb ≤ 16 := by omega
    by_cases hs : n < bb
    · rw [numb_small _ _ _ hs, ← figs_cut n (by omega)]
      have hsi : (n : Int) < (bb : Int) := by omega
      have hsj : (n : Int) < 16 := by omega
      clear hn hf hs hbb
      go_enter Tryz.func84, Tryz.ntmps84
      go_wp2
      go_ret
      exact ⟨rfl, 0, rfl⟩
    · obtain ⟨f, rfl⟩ : ∃ g, f = g + 1 := by
        cases f with
        | zero => exact absurd hf (by simpa using hs)
        | succ f => exact ⟨f, rfl⟩
      have hq : n / bb < bb ^ (f + 1) := by
        rw [Nat.div_lt_iff_lt_mul hb0]
        rw [Nat.pow_succ] at hf
        exact hf
      have hq1 : n / bb < 65536 := Nat.lt_of_le_of_lt (Nat.div_le_self _ _) hn
      have hr1 : n % bb < bb := Nat.mod_lt _ hb0
      have IH := numeral_calls bb hbb f (n / bb) (by omega) hq1 hq
      rw [numb_big _ _ _ hs]
      have hxl := numb_len bb f (n / bb)
      have hd := fun W => div_letter n bb (n / bb) hb0 hb16 hn rfl W
      have hm := fun W => mod_letter n bb (n % bb) hb0 hb16 hn rfl W
      have h0 : ¬ bb = 0 := by omega
      have h1 : ((n : Int).tdiv (bb : Int)) = ((n / bb : Nat) : Int) := by rw [Int.tdiv_eq_ediv_of_nonneg (by omega)]; rfl
      have h2 : ((n : Int).tmod (bb : Int)) = ((n % bb : Nat) : Int) := by rw [Int.tmod_eq_emod_of_nonneg (by omega)]; rfl
      obtain ⟨q, hqq⟩ : ∃ q : Nat, q = n / bb := ⟨_, rfl⟩
      obtain ⟨r, hrr⟩ : ∃ r : Nat, r = n % bb := ⟨_, rfl⟩
      rw [← hqq] at IH hxl hd h1 hq1 ⊢
      rw [← hrr] at hm h2 hr1 ⊢
      have hc := fun W => cut_fig r (by omega) W
      unfold figs at hc
      have hri : (r : Int) < 16 := by omega
      have hqi : (q : Int) < 65536 := by omega
      have hsi : (bb : Int) ≤ (n : Int) := by omega
      have hbi : (bb : Int) ≤ 16 := by omega
      have hw : IntKind.i64.wrap ((r : Int) + 1) = (r : Int) + 1 := by rw [IntKind.wrap_i64]; omega
      have hwq : IntKind.i64.wrap (q : Int) = (q : Int) := by rw [IntKind.wrap_i64]; omega
      have hwr : IntKind.i64.wrap (r : Int) = (r : Int) := by rw [IntKind.wrap_i64]; omega
      have hA := add_str (str (numb bb f q)) (str [dig r]) (by rw [sz, sz]; simp; omega)
      have hz : ¬ 9223372036854775807 < (str (numb bb f q)).size + (str [dig r]).size := by rw [sz, sz]; simp; omega
      have HSE := Lib.hid (show str (numb bb f q) ++ str [dig r] = str (numb bb f q ++ [dig r]) from str_cat _ _)
      have HI := Lib.hid IH
      clear hxl IH hq hf hn hqq hrr hbb hr1 hq1 hf5 hd hm
      have HC := Lib.hid hc
      have HA := Lib.hid hA
      clear hc hA
      generalize str (numb bb f q ++ [dig r]) = S at *
      generalize str (numb bb f q) = x at *
      generalize str [dig r] = y at *
      go_enter Tryz.func84, Tryz.ntmps84
      go_upto_region 4 with (fail)
      generalize hF : (ByteArray.mk #[48, 49, 50, 51, 52, 53, 54, 55, 56, 57, 97, 98, 99, 100, 101, 102]) = F at *
      have hc := HC.out
      have hA := HA.out
      go_quiet ((go_at_call 84; exact Calls.quiet_of (HI.out _)))
      all_goals go_wp2
      all_goals (go_ret; exact ⟨by rw [HSE.out]; rfl, _, rfl⟩)
end Go.Proofs.YtmcgkknpkocgoaaGreatDoor.Ad
