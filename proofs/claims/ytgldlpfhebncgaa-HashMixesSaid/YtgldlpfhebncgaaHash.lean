/- Package hash and its document's answer: contracts. -/
import Derived.Test.YtgldlpfhebncgaaMix
import Derived.Test.YtgldlpfhebncgaaMem
import Derived.LoopTactic
import Derived.Lib.Hide
import Derived.Outline
namespace Go.Proofs.Ytgldlpfhebncgaa.Hash
open Go.RowKit Go.Proofs.Ytgldlpfhebncgaa.U64 Go.Proofs.Ytgldlpfhebncgaa.Mix Go.Proofs.Ytgldlpfhebncgaa.Mem
set_option linter.unusedVariables false
set_option linter.unusedSimpArgs false

/-- FNV-1a, gone on with. -/
def fnv (h : BitVec 64) : List UInt8 → BitVec 64
  | [] => h
  | c :: l => fnv ((h ^^^ BitVec.ofNat 64 c.toNat) * 1099511628211#64) l
theorem fnv_append (h : BitVec 64) (a b : List UInt8) : fnv h (a ++ b) = fnv (fnv h a) b := by
  induction a generalizing h with
  | nil => rfl
  | cons c l ih => exact ih _
theorem prime_nat : (1099511628211 : Int) = ((1099511628211#64).toNat : Int) := by decide
theorem byte_nat (c : UInt8) : IntKind.u64.wrap (c.toNat : Int) = ((BitVec.ofNat 64 c.toNat).toNat : Int) := by
  have := c.toNat_lt
  rw [wrap_nat _ (by omega), BitVec.toNat_ofNat, Nat.mod_eq_of_lt (by omega)]
theorem fnv_take (h : BitVec 64) (l : List UInt8) (k : Nat) (hk : k < l.length) : fnv h (l.take (k + 1)) = (fnv h (l.take k) ^^^ BitVec.ofNat 64 l[k].toNat) * 1099511628211#64 := by
  rw [List.take_succ_eq_append_getElem hk, fnv_append]; rfl

theorem on_calls (x : BitVec 64) (v : Value) (l : List UInt8) (w : World) (hv : Row u8 w v l) :
    Calls Try.prog 39 #[.int .u64 (x.toNat : Int), v] w fun e w' => e = .returned (.int .u64 ((fnv x l).toNat : Int)) ∧ w = w' := by
  obtain ⟨A, c, rfl, hc, hm, hr⟩ := hv.parts
  clear hv
  have HR : Hid (Row u8 w (.slice A l.length c) l) := Lib.hid hr
  clear hr
  go_enter Try.func39, Try.ntmps39
  go_wp2
  go_loop [0, 9] (fun h i => ∃ k : Nat, k ≤ l.length ∧ i = .int .i64 k ∧ h = .int .u64 ((fnv x (l.take k)).toNat : Int)) (fun _ i => l.length - (intOf i).toNat)
  case atStart => exact ⟨0, Nat.zero_le _, rfl, rfl⟩
  case round =>
    obtain ⟨k, hk, rfl, rfl⟩ := hrel
    by_cases hlt : k < l.length
    · obtain ⟨ad, rfl, hcell⟩ := HR.out.at hlt
      unfold u8 at hcell
      go_wp2
      go_round
      case rel => exact ⟨k + 1, by omega, by go_num, by rw [fnv_take _ _ _ hlt, prime_nat, byte_nat, xor_, mul_]⟩
      case measure => simp [intOf]; omega
    · go_wp2
      go_ret
      exact ⟨by rw [List.take_of_length_le (by omega)]; rfl, rfl⟩

def offset : BitVec 64 := 14695981039346656037#64
theorem offset_nat : (14695981039346656037 : Int) = ((offset.toNat : Nat) : Int) := by decide
theorem plain_calls (v : Value) (l : List UInt8) (w : World) (hv : Row u8 w v l) :
    Calls Try.prog 16 #[v] w fun e w' => e = .returned (.int .u64 ((fnv offset l).toNat : Int)) ∧ w = w' := by
  have k1 := offset_nat ▸ on_calls offset v l w hv
  obtain ⟨A, c, rfl, hc, hm, hr⟩ := hv.parts
  clear hv hr
  go_enter Try.func16, Try.ntmps16
  go_wp2_with (go_at_call 39; ((with_reducible refine k1.mono ?_); rintro e w' ⟨rfl, rfl⟩))
  go_ret
  exact ⟨rfl, rfl⟩
theorem alive_calls (w : World) : Calls Try.prog 11 #[] w fun e w' => e = .returned (.bool true) ∧ w = w' := by
  have k1 := plain_calls _ _ w (Row.nil u8 w)
  rw [show ((fnv offset []).toNat : Int) = 14695981039346656037 by decide] at k1
  go_enter Try.func11, Try.ntmps11
  go_wp2_with (go_at_call 16; ((with_reducible refine k1.mono ?_); rintro e w' ⟨rfl, rfl⟩))
  go_ret
  exact ⟨rfl, rfl⟩
theorem refmix_calls (x : BitVec 64) (w : World) : Calls Try.prog 20 #[.int .u64 (x.toNat : Int)] w fun e w' => e = .returned (.int .u64 ((mix x).toNat : Int)) ∧ w = w' := by
  go_enter Try.func20, Try.ntmps20
  go_wp2
  go_ret
  refine ⟨ret_u64 ?_, rfl⟩
  show bits .xor .u64 _ _ = _
  rw [c1_nat, c2_nat]
  simp only [shr33, tdiv33, xor_, mul_]
  rfl
theorem unlike_calls (x y : BitVec 64) (w : World) : Calls Try.prog 3 #[.int .u64 (x.toNat : Int), .int .u64 (y.toNat : Int)] w fun e w' => e = .returned (.bool true) ∧ w = w' := by
  have e1 : (((mix x).toNat : Int) == ((mix y).toNat : Int)) = ((x.toNat : Int) == (y.toNat : Int)) := by rw [eq_, eq_, mix_inj]
  go_enter Try.func3, Try.ntmps3
  go_wp2_with (first | (go_at_call 11; ((with_reducible refine (alive_calls _).mono ?_); rintro e w' ⟨rfl, rfl⟩)) | (go_at_call 12; ((with_reducible refine (mix_calls _ _).mono ?_); rintro e w' ⟨rfl, rfl⟩)))
  go_ret
  exact ⟨rfl, rfl⟩
theorem mixes_calls (x : BitVec 64) (w : World) : Calls Try.prog 5 #[.int .u64 (x.toNat : Int)] w fun e w' => e = .returned (.bool true) ∧ w = w' := by
  have k1 := unmix_mix x ▸ unmix_calls (mix x)
  have k2 := mix_unmix x ▸ mix_calls (unmix x)
  go_enter Try.func5, Try.ntmps5
  go_wp2_with (first | (go_at_call 11; ((with_reducible refine (alive_calls _).mono ?_); rintro e w' ⟨rfl, rfl⟩)) | (go_at_call 12; ((with_reducible refine (mix_calls x _).mono ?_); rintro e w' ⟨rfl, rfl⟩)) | (go_at_call 12; ((with_reducible refine (k2 _).mono ?_); rintro e w' ⟨rfl, rfl⟩)) | (go_at_call 20; ((with_reducible refine (refmix_calls _ _).mono ?_); rintro e w' ⟨rfl, rfl⟩)) | (go_at_call 21; ((with_reducible refine (k1 _).mono ?_); rintro e w' ⟨rfl, rfl⟩)) | (go_at_call 21; ((with_reducible refine (unmix_calls x _).mono ?_); rintro e w' ⟨rfl, rfl⟩)))
  go_ret
  exact ⟨rfl, rfl⟩
theorem mixes_row (W : World) (a : Int) (ha : (Lit.int .u64 a).wf = true) : Calls Try.prog 5 #[.int .u64 a] W fun e W' => e = .returned (.bool true) ∧ Below W.heap.size W W' := by
  obtain ⟨x, rfl⟩ := of_wf ha
  exact (mixes_calls x W).mono fun e W' ⟨h, h'⟩ => ⟨h, h' ▸ Below.refl _ _⟩
theorem unlike_row (W : World) (a : Int) (ha : (Lit.int .u64 a).wf = true) (b : Int) (hb : (Lit.int .u64 b).wf = true) : Calls Try.prog 3 #[.int .u64 a, .int .u64 b] W fun e W' => e = .returned (.bool true) ∧ Below W.heap.size W W' := by
  obtain ⟨x, rfl⟩ := of_wf ha
  obtain ⟨y, rfl⟩ := of_wf hb
  exact (unlike_calls x y W).mono fun e W' ⟨h, h'⟩ => ⟨h, h' ▸ Below.refl _ _⟩
end Go.Proofs.Ytgldlpfhebncgaa.Hash
