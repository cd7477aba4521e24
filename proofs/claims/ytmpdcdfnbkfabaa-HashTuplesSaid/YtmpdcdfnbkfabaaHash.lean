/- Package hash and its document's answer: contracts. -/
import Derived.Test.YtmpdcdfnbkfabaaMix
import Derived.Test.YtmpdcdfnbkfabaaNum
import Derived.LoopTactic
import Derived.Lib.Hide
import Derived.Outline
namespace Go.Proofs.Ytmpdcdfnbkfabaa.Hash
open Go.RowKit Go.Proofs.Ytmpdcdfnbkfabaa.U64 Go.Proofs.Ytmpdcdfnbkfabaa.Mix Go.Proofs.Ytmpdcdfnbkfabaa.Mem Go.Proofs.Ytmpdcdfnbkfabaa.Num
set_option linter.unusedVariables false
set_option linter.unusedSimpArgs false

/-- FNV-1a, gone on with. -/
def fnv (h : BitVec 64) : List UInt8 → BitVec 64
  | [] => h
  | c :: l => fnv ((h ^^^ BitVec.ofNat 64 c.toNat) * 1099511628211#64) l
theorem fnv_append (h : BitVec 64) (a b : List UInt8) : fnv h (a ++ b) = fnv (fnv h a) b := by
  induction a generalizing h with
  | nil => rfl
  | cons c l ih => exact ih _
theorem prime_nat : (1099511628211 : Int) = ((1099511628211#64).toNat : Int) := by decide
theorem byte_nat (c : UInt8) : IntKind.u64.wrap (c.toNat : Int) = ((BitVec.ofNat 64 c.toNat).toNat : Int) := by
  have := c.toNat_lt
  rw [wrap_nat _ (by omega), BitVec.toNat_ofNat, Nat.mod_eq_of_lt (by omega)]
theorem fnv_take (h : BitVec 64) (l : List UInt8) (k : Nat) (hk : k < l.length) : fnv h (l.take (k + 1)) = (fnv h (l.take k) ^^^ BitVec.ofNat 64 l[k].toNat) * 1099511628211#64 := by
  rw [List.take_succ_eq_append_getElem hk, fnv_append]; rfl

theorem on_calls (x : BitVec 64) (v : Value) (l : List UInt8) (w : World) (hv : Row eU8 w v l) :
    Calls Try.prog 37 #[.int .u64 (x.toNat : Int), v] w fun e w' => e = .returned (.int .u64 ((fnv x l).toNat : Int)) ∧ w = w' := by
  obtain ⟨A, c, rfl, hc, hm, hr⟩ := hv.parts
  clear hv
  have HR : Hid (Row eU8 w (.slice A l.length c) l) := Lib.hid hr
  clear hr
  go_enter Try.func37, Try.ntmps37
  go_wp2
  go_loop [0, 9] (fun h i => ∃ k : Nat, k ≤ l.length ∧ i = .int .i64 k ∧ h = .int .u64 ((fnv x (l.take k)).toNat : Int)) (fun _ i => l.length - (intOf i).toNat)
  case atStart => exact ⟨0, Nat.zero_le _, rfl, rfl⟩
  case round =>
    obtain ⟨k, hk, rfl, rfl⟩ := hrel
    by_cases hlt : k < l.length
    · obtain ⟨ad, rfl, hcell⟩ := HR.out.atU8 hlt
      go_wp2
      go_round
      case rel => exact ⟨k + 1, by omega, by go_num, by rw [fnv_take _ _ _ hlt, prime_nat, byte_nat, xor_, mul_]⟩
      case measure => simp [intOf]; omega
    · go_wp2
      go_ret
      exact ⟨by rw [List.take_of_length_le (by omega)]; rfl, rfl⟩

def offset : BitVec 64 := 14695981039346656037#64
theorem offset_nat : (14695981039346656037 : Int) = ((offset.toNat : Nat) : Int) := by decide
theorem plain_calls (v : Value) (l : List UInt8) (w : World) (hv : Row eU8 w v l) :
    Calls Try.prog 21 #[v] w fun e w' => e = .returned (.int .u64 ((fnv offset l).toNat : Int)) ∧ w = w' := by
  have k1 := offset_nat ▸ on_calls offset v l w hv
  obtain ⟨A, c, rfl, hc, hm, hr⟩ := hv.parts
  clear hv hr
  go_enter Try.func21, Try.ntmps21
  go_wp2_with (go_at_call 37; ((with_reducible refine k1.mono ?_); rintro e w' ⟨rfl, rfl⟩))
  go_ret
  exact ⟨rfl, rfl⟩
theorem alive_calls (w : World) : Calls Try.prog 6 #[] w fun e w' => e = .returned (.bool true) ∧ w = w' := by
  have k1 := plain_calls _ _ w (Row.nil eU8 w)
  rw [show ((fnv offset []).toNat : Int) = 14695981039346656037 by decide] at k1
  go_enter Try.func6, Try.ntmps6
  go_wp2_with (go_at_call 21; ((with_reducible refine k1.mono ?_); rintro e w' ⟨rfl, rfl⟩))
  go_ret
  exact ⟨rfl, rfl⟩
end Go.Proofs.Ytmpdcdfnbkfabaa.Hash
