/- The mixing of package hash: what Mix, Unmix and inverse answer, and that they undo each other. -/
import Derived.Test.YtgldlpfhebncgaaProg
import Derived.Test.YtgldlpfhebncgaaU64
import Derived.Handy
import Derived.LoopN
import Derived.KernelRfl
namespace Go.Proofs.Ytgldlpfhebncgaa.Mix
open Go.RowKit Go.Proofs.Ytgldlpfhebncgaa.U64
set_option linter.unusedVariables false
set_option linter.unusedSimpArgs false

def c1 : BitVec 64 := 18397679294719823053#64
def c2 : BitVec 64 := 14181476777654086739#64
def mix (x : BitVec 64) : BitVec 64 :=
  let a := (x ^^^ x >>> 33) * c1
  let b := (a ^^^ a >>> 33) * c2
  b ^^^ b >>> 33
theorem c1_nat : (18397679294719823053 : Int) = ((c1.toNat : Nat) : Int) := by decide
theorem c2_nat : (14181476777654086739 : Int) = ((c2.toNat : Nat) : Int) := by decide
theorem ret_u64 {a b : Int} (h : a = b) : Ending.returned (.int .u64 a) = .returned (.int .u64 b) := by rw [h]

theorem mix_calls (x : BitVec 64) (w : World) : Calls Try.prog 12 #[.int .u64 (x.toNat : Int)] w fun e w' => e = .returned (.int .u64 ((mix x).toNat : Int)) ∧ w = w' := by
  have i0 : ∀ w, (Instr.index 55 (.agg #[.int .u64 18397679294719823053, .int .u64 14181476777654086739]) (.int .i64 0)).run Try.prog w = .ok (.int .u64 18397679294719823053) w := fun _ => by kernel_rfl
  have i1 : ∀ w, (Instr.index 55 (.agg #[.int .u64 18397679294719823053, .int .u64 14181476777654086739]) (.int .i64 1)).run Try.prog w = .ok (.int .u64 14181476777654086739) w := fun _ => by kernel_rfl
  go_enter Try.func12, Try.ntmps12
  go_wp2
  go_rounds 3
  go_ret
  refine ⟨ret_u64 ?_, rfl⟩
  show bits .xor .u64 _ _ = _
  rw [c1_nat, c2_nat]
  simp only [shr33, xor_, mul_]
  rfl


/-- What inverse does, five rounds. -/
def inv (o : BitVec 64) : BitVec 64 :=
  let r := fun x => x * (2#64 - o * x)
  r (r (r (r (r o))))
theorem two_nat : (2 : Int) = ((2#64).toNat : Int) := by decide
theorem inverse_calls (x : BitVec 64) (w : World) : Calls Try.prog 40 #[.int .u64 (x.toNat : Int)] w fun e w' => e = .returned (.int .u64 ((inv x).toNat : Int)) ∧ w = w' := by
  go_enter Try.func40, Try.ntmps40
  go_wp2
  go_rounds 6
  go_ret
  refine ⟨ret_u64 ?_, rfl⟩
  simp only [two_nat, mul_, sub_]
  rfl
theorem inv_c1 : inv c1 = 5725274745694666757#64 := by decide
theorem inv_c2 : inv c2 = 11291846944257947611#64 := by decide
def unmix (x : BitVec 64) : BitVec 64 :=
  let a := x ^^^ x >>> 33
  let b := a * inv c2
  let c := b ^^^ b >>> 33
  let d := c * inv c1
  d ^^^ d >>> 33
theorem unmix_calls (x : BitVec 64) (w : World) : Calls Try.prog 21 #[.int .u64 (x.toNat : Int)] w fun e w' => e = .returned (.int .u64 ((unmix x).toNat : Int)) ∧ w = w' := by
  have i0 : ∀ w, (Instr.index 55 (.agg #[.int .u64 14181476777654086739, .int .u64 18397679294719823053]) (.int .i64 0)).run Try.prog w = .ok (.int .u64 14181476777654086739) w := fun _ => by kernel_rfl
  have i1 : ∀ w, (Instr.index 55 (.agg #[.int .u64 14181476777654086739, .int .u64 18397679294719823053]) (.int .i64 1)).run Try.prog w = .ok (.int .u64 18397679294719823053) w := fun _ => by kernel_rfl
  have k1 := c1_nat ▸ inverse_calls c1
  have k2 := c2_nat ▸ inverse_calls c2
  go_enter Try.func21, Try.ntmps21
  go_wp2
  refine wp_loop_rounds 3 ?_
  repeat any_goals (rw [rounds_succ]; go_wp2_with (first | (go_at_call 40; ((with_reducible refine (k1 _).mono ?_); rintro e w' ⟨rfl, rfl⟩)) | (go_at_call 40; ((with_reducible refine (k2 _).mono ?_); rintro e w' ⟨rfl, rfl⟩))))
  go_ret
  refine ⟨ret_u64 ?_, rfl⟩
  show bits .xor .u64 _ _ = _
  simp only [shr33, xor_, mul_]
  rfl

/-! What is mixed is found again, and what is found is mixed so. -/
theorem shift_twice (x : BitVec 64) : (x ^^^ x >>> 33) ^^^ (x ^^^ x >>> 33) >>> 33 = x := by
  rw [BitVec.ushiftRight_xor_distrib, ← BitVec.shiftRight_add]
  have h : x >>> (33 + 33) = 0#64 := by
    apply BitVec.eq_of_toNat_eq
    rw [BitVec.toNat_ushiftRight, Nat.shiftRight_eq_div_pow]
    have := x.isLt
    simp; omega
  rw [h, BitVec.xor_assoc, ← BitVec.xor_assoc (x >>> 33), BitVec.xor_self]
  simp
theorem times_c1 (x : BitVec 64) : x * c1 * inv c1 = x := by
  rw [BitVec.mul_assoc, show c1 * inv c1 = 1#64 by decide, BitVec.mul_one]
theorem times_c2 (x : BitVec 64) : x * c2 * inv c2 = x := by
  rw [BitVec.mul_assoc, show c2 * inv c2 = 1#64 by decide, BitVec.mul_one]
theorem times_i1 (x : BitVec 64) : x * inv c1 * c1 = x := by
  rw [BitVec.mul_assoc, show inv c1 * c1 = 1#64 by decide, BitVec.mul_one]
theorem times_i2 (x : BitVec 64) : x * inv c2 * c2 = x := by
  rw [BitVec.mul_assoc, show inv c2 * c2 = 1#64 by decide, BitVec.mul_one]
theorem unmix_mix (x : BitVec 64) : unmix (mix x) = x := by
  simp only [unmix, mix, shift_twice, times_c1, times_c2]
theorem mix_unmix (x : BitVec 64) : mix (unmix x) = x := by
  simp only [unmix, mix, shift_twice, times_i1, times_i2]
theorem mix_inj (x y : BitVec 64) : (mix x == mix y) = (x == y) := by
  by_cases h : x = y
  · subst h; simp
  · have h1 : ¬ mix x = mix y := fun e => h (by rw [← unmix_mix x, e, unmix_mix])
    rw [beq_eq_false_iff_ne.mpr h1, beq_eq_false_iff_ne.mpr h]

end Go.Proofs.Ytgldlpfhebncgaa.Mix
