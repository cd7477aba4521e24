/- The document's answer of package sums, and the laws. -/
import Derived.Test.YtfoehgcamkmooaaDoorSums2
namespace Go.Proofs.YtfoehgcamkmooaaDoor.Sums
open Go.RowKit Go.Proofs.YtfoehgcamkmooaaDoor.Mem Go.Proofs.YtfoehgcamkmooaaDoor.Num Go.Proofs.YtfoehgcamkmooaaDoor.SumsP
set_option linter.unusedVariables false
set_option linter.unusedSimpArgs false
theorem total_snoc (l : List UInt8) (x : UInt8) : total (l ++ [x]) = total l + (if l.length % 2 = 0 then x.toNat * 256 else x.toNat) := by
  match l with
  | [] => simp [total]
  | [y] => simp [total]
  | y :: z :: m =>
    have := total_snoc m x
    simp only [List.cons_append, total, this, List.length_cons]
    have h2 : (m.length + 1 + 1) % 2 = m.length % 2 := by omega
    simp only [h2]
    omega
theorem total_take (l : List UInt8) (k : Nat) (hk : k < l.length) : total (l.take (k + 1)) = total (l.take k) + (if k % 2 = 0 then l[k].toNat * 256 else l[k].toNat) := by
  rw [List.take_succ_eq_append_getElem hk, total_snoc, List.length_take, Nat.min_eq_left (by omega)]
theorem tmod2 (k : Nat) : ((k : Int).tmod 2 == 0) = decide (k % 2 = 0) := by
  rw [Bool.eq_iff_iff, beq_iff_eq, decide_eq_true_iff]
  rw [Int.tmod_eq_emod_of_nonneg (by omega)]
  omega
theorem reftotal_calls (v : Value) (l : List UInt8) (w : World) (hv : Row eU8 w v l) (hl : l.length ≤ 1000000) :
    Calls Tryd.prog 59 #[v] w fun e w' => e = .returned (.int .i64 (total l : Nat)) ∧ w = w' := by
  obtain ⟨A, c, rfl, hc, hm, hr⟩ := hv.parts
  have HR := Lib.hid hr
  clear hv hr
  go_enter Tryd.func59, Tryd.ntmps59
  go_wp2
  go_loop [3, 7] (fun n i => ∃ k : Nat, k ≤ l.length ∧ i = .int .i64 k ∧ n = .int .i64 ((total (l.take k) : Nat) : Int)) (fun _ i => l.length - (intOf i).toNat)
  case atStart => exact ⟨0, Nat.zero_le _, rfl, rfl⟩
  case round =>
    obtain ⟨k, hk, rfl, rfl⟩ := hrel
    by_cases hlt : k < l.length
    · obtain ⟨ad, rfl, hcell⟩ := HR.out.atU8 hlt
      have ht := total_take l k hlt
      have htl := total_le (l.take k)
      rw [List.length_take, Nat.min_eq_left hk] at htl
      have hx := l[k].toNat_lt
      have h2 := tmod2 k
      by_cases hev : k % 2 = 0
      · rw [if_pos hev] at ht
        rw [decide_eq_true hev] at h2
        generalize total (l.take k) = T at ht htl ⊢
        generalize l[k] = X at hcell hx ht
        go_wp2
        go_round
        case rel => exact ⟨k + 1, by omega, by simp, by rw [ht]; simp⟩
        case measure => simp [intOf]; omega
      · rw [if_neg hev] at ht
        rw [decide_eq_false hev] at h2
        generalize total (l.take k) = T at ht htl ⊢
        generalize l[k] = X at hcell hx ht
        go_wp2
        go_round
        case rel => exact ⟨k + 1, by omega, by simp, by rw [ht]; simp⟩
        case measure => simp [intOf]; omega
    · go_wp2
      go_ret
      exact ⟨by rw [List.take_of_length_le (by omega)]; rfl, rfl⟩
theorem reffold_calls (n : Int) (w : World) (hn : n ≤ 9223372036854775807) (hn' : -9223372036854775808 ≤ n) :
    Calls Tryd.prog 58 #[.int .i64 n] w fun e w' => e = .returned (.int .i64 (foldN n)) ∧ w = w' := by
  by_cases h : n ≤ 0
  · have hf : foldN n = 0 := by unfold foldN; rw [if_pos h]
    rw [hf]
    go_enter Tryd.func58, Tryd.ntmps58
    go_wp2
    go_ret
    exact ⟨rfl, rfl⟩
  · have hf : foldN n = (n - 1) % 65535 + 1 := by unfold foldN; rw [if_neg h]
    have ht : (n - 1).tmod 65535 = (n - 1) % 65535 := Int.tmod_eq_emod_of_nonneg (by omega)
    rw [hf]
    go_enter Tryd.func58, Tryd.ntmps58
    go_wp2
    go_ret
    exact ⟨rfl, rfl⟩
theorem refcheck_calls (v : Value) (l : List UInt8) (w : World) (hv : Row eU8 w v l) (hl : l.length ≤ 1000000) :
    Calls Tryd.prog 44 #[v] w fun e w' => e = .returned (.int .i64 (checkN l)) ∧ w = w' := by
  have hadd := reftotal_calls v l w hv hl
  have htl := total_le l
  have hfr := foldN_range (total l : Nat)
  have hfc := fun W => reffold_calls ((total l : Nat) : Int) W (by omega) (by omega)
  unfold checkN
  generalize hT : total l = T at hadd htl hfr hfc ⊢
  have HA := Lib.hid hadd
  have HF := Lib.hid hfc
  clear hadd hfc hT
  generalize foldN (T : Int) = R at HF hfr ⊢
  go_enter Tryd.func44, Tryd.ntmps44
  go_wp2_with (first | (go_at_call 59; ((with_reducible refine HA.out.mono ?_); rintro e w' ⟨rfl, rfl⟩)) | (go_at_call 58; ((with_reducible refine (HF.out _).mono ?_); rintro e w' ⟨rfl, rfl⟩)))
  go_ret
  exact ⟨rfl, rfl⟩
theorem low_calls (n : Int) (w : World) : Calls Tryd.prog 70 #[.int .i64 n] w fun e w' => e = .returned (.int .i64 (n % 65536)) ∧ w = w' := by
  have h1 : IntKind.u64.wrap n = n % 18446744073709551616 := by rw [IntKind.wrap_u64]
  have h2 : (n % 18446744073709551616).tmod 65536 = n % 65536 := by rw [Int.tmod_eq_emod_of_nonneg (by omega)]; omega
  go_enter Tryd.func70, Tryd.ntmps70
  go_wp2
  go_ret
  exact ⟨ret_i64 (by first | rfl | (simp only [h1, h2]; try rw [IntKind.wrap_i64]; omega)), rfl⟩
theorem refchange_calls (c a b : Int) (w : World) : Calls Tryd.prog 71 #[.int .i64 c, .int .i64 a, .int .i64 b] w fun e w' => e = .returned (.int .i64 (changeN c a b)) ∧ w = w' := by
  have m1 := mod65536 c
  have m2 := mod65536 a
  have m3 := mod65536 b
  unfold changeN
  have hfr := foldN_range (65535 - c % 65536 + 65535 - a % 65536 + b % 65536)
  have hfc := fun W => reffold_calls (65535 - c % 65536 + 65535 - a % 65536 + b % 65536) W (by omega) (by omega)
  have HF := Lib.hid hfc
  clear hfc
  generalize foldN (65535 - c % 65536 + 65535 - a % 65536 + b % 65536) = R at HF hfr ⊢
  go_enter Tryd.func71, Tryd.ntmps71
  go_wp2_with (first | (go_at_call 70; ((with_reducible refine (low_calls _ _).mono ?_); rintro e w' ⟨rfl, rfl⟩)) | (go_at_call 58; ((with_reducible refine (HF.out _).mono ?_); rintro e w' ⟨rfl, rfl⟩)))
  go_ret
  exact ⟨rfl, rfl⟩
end Go.Proofs.YtfoehgcamkmooaaDoor.Sums
