/- The document's answer of package sums, and the laws. -/
import Derived.Test.YtmpdcdfnbkfabaaSums2
namespace Go.Proofs.Ytmpdcdfnbkfabaa.Sums
open Go.RowKit Go.Proofs.Ytmpdcdfnbkfabaa.Mem Go.Proofs.Ytmpdcdfnbkfabaa.Num Go.Proofs.Ytmpdcdfnbkfabaa.SumsP
set_option linter.unusedVariables false
set_option linter.unusedSimpArgs false
theorem total_snoc (l : List UInt8) (x : UInt8) : total (l ++ [x]) = total l + (if l.length % 2 = 0 then x.toNat * 256 else x.toNat) := by
  match l with
  | [] => simp [total]
  | [y] => simp [total]
  | y :: z :: m =>
    have := total_snoc m x
    simp only [List.cons_append, total, this, List.length_cons]
    have h2 : (m.length + 1 + 1) % 2 = m.length % 2 := by omega
    simp only [h2]
    omega
theorem total_take (l : List UInt8) (k : Nat) (hk : k < l.length) : total (l.take (k + 1)) = total (l.take k) + (if k % 2 = 0 then l[k].toNat * 256 else l[k].toNat) := by
  rw [List.take_succ_eq_append_getElem hk, total_snoc, List.length_take, Nat.min_eq_left (by omega)]
theorem tmod2 (k : Nat) : ((k : Int).tmod 2 == 0) = decide (k % 2 = 0) := by
  rw [Bool.eq_iff_iff, beq_iff_eq, decide_eq_true_iff]
  rw [Int.tmod_eq_emod_of_nonneg (by omega)]
  omega
theorem alive_calls (w : World) : Calls Try.prog 9 #[] w fun e w' => e = .returned (.bool true) ∧ Below w.heap.size w w' := by
  have hck : checkN [0, 1, 0xf2, 3, 0xf4, 0xf5, 0xf6, 0xf7] = 8717 := by decide
  have k1 := check_calls _ [0, 1, 0xf2, 3, 0xf4, 0xf5, 0xf6, 0xf7] _ (Own.lit w w.heap.size eU8 5 [0, 1, 0xf2, 3, 0xf4, 0xf5, 0xf6, 0xf7] 8 rfl #[.int .u8 0, .int .u8 1, .int .u8 242, .int .u8 3, .int .u8 244, .int .u8 245, .int .u8 246, .int .u8 247] rfl (Nat.le_refl _) (by simp)).row (by simp)
  rw [hck] at k1
  go_enter Try.func9, Try.ntmps9
  go_wp2_with (go_at_call 25; ((with_reducible refine k1.mono ?_); rintro e w' ⟨rfl, hB⟩))
  go_ret
  exact ⟨rfl, below_next ((Below.refl _ _).alloc (Nat.le_refl _) _) (by assumption)⟩
end Go.Proofs.Ytmpdcdfnbkfabaa.Sums
