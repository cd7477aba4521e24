/- Numbers of 64 bits as bit vectors: what the walk says of them, in their words. -/
import Derived.WalkKit
namespace Go.Proofs.YtmpdcdfnbkfabaaDoor.U64
open Go.RowKit

theorem toInt_ofInt (x : BitVec 64) : BitVec.ofInt 64 (x.toNat : Int) = x := by
  rw [BitVec.ofInt_natCast, BitVec.ofNat_toNat, BitVec.setWidth_eq]

theorem wrap_nat (n : Nat) (h : n < 18446744073709551616) : IntKind.u64.wrap (n : Int) = n := by
  simp [IntKind.wrap, IntKind.bits, IntKind.signed]; omega

theorem xor_ (x y : BitVec 64) : bits .xor .u64 (x.toNat : Int) (y.toNat : Int) = ((x ^^^ y).toNat : Int) := by
  have h : bits .xor .u64 (x.toNat : Int) (y.toNat : Int) = IntKind.u64.wrap ((BitVec.ofInt 64 (x.toNat : Int) ^^^ BitVec.ofInt 64 (y.toNat : Int)).toNat : Int) := rfl
  rw [h, toInt_ofInt, toInt_ofInt, wrap_nat _ (x ^^^ y).isLt]

theorem mul_ (x y : BitVec 64) : IntKind.u64.wrap ((x.toNat : Int) * (y.toNat : Int)) = ((x * y).toNat : Int) := by
  rw [BitVec.toNat_mul]
  simp [IntKind.wrap, IntKind.bits, IntKind.signed]

theorem sub_ (x y : BitVec 64) : IntKind.u64.wrap ((x.toNat : Int) - (y.toNat : Int)) = ((x - y).toNat : Int) := by
  rw [BitVec.toNat_sub]
  have h1 := x.isLt
  have h2 := y.isLt
  simp [IntKind.wrap, IntKind.bits, IntKind.signed]
  omega

theorem shr_ (x : BitVec 64) (k : Nat) : (x.toNat : Int) / (2 ^ k : Nat) = ((x >>> k).toNat : Int) := by
  rw [BitVec.toNat_ushiftRight, Nat.shiftRight_eq_div_pow]
  simp

theorem shr33 (x : BitVec 64) : (x.toNat : Int) / (8589934592 : Int) = ((x >>> 33).toNat : Int) := shr_ x 33

theorem tdiv33 (x : BitVec 64) : IntKind.u64.wrap ((x.toNat : Int).tdiv (8589934592 : Int)) = ((x >>> 33).toNat : Int) := by
  rw [Int.tdiv_eq_ediv_of_nonneg (Int.natCast_nonneg _), shr33, wrap_nat _ (x >>> 33).isLt]
theorem eq_ (x y : BitVec 64) : ((x.toNat : Int) == (y.toNat : Int)) = (x == y) := by
  by_cases h : x = y
  · subst h; simp
  · have h1 : ¬ ((x.toNat : Int) = (y.toNat : Int)) := fun e => h (BitVec.eq_of_toNat_eq (Int.ofNat.inj e))
    rw [beq_eq_false_iff_ne.mpr h1, beq_eq_false_iff_ne.mpr h]

theorem of_wf {a : Int} (h : (Lit.int .u64 a).wf = true) : ∃ x : BitVec 64, a = (x.toNat : Int) := by
  simp [Lit.wf, IntKind.min, IntKind.max, IntKind.signed, IntKind.bits] at h
  refine ⟨BitVec.ofNat 64 a.toNat, ?_⟩
  rw [BitVec.toNat_ofNat]
  omega

end Go.Proofs.YtmpdcdfnbkfabaaDoor.U64
