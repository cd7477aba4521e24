/- The mixing of package hash: what Mix, Unmix and inverse answer, and that they undo each other. -/
import Derived.Test.YtmpdcdfnbkfabaaDoorProg
import Derived.Test.YtmpdcdfnbkfabaaDoorU64
import Derived.Handy
import Derived.LoopN
import Derived.KernelRfl
namespace Go.Proofs.YtmpdcdfnbkfabaaDoor.Mix
open Go.RowKit Go.Proofs.YtmpdcdfnbkfabaaDoor.U64
set_option linter.unusedVariables false
set_option linter.unusedSimpArgs false

def c1 : BitVec 64 := 18397679294719823053#64
def c2 : BitVec 64 := 14181476777654086739#64
def mix (x : BitVec 64) : BitVec 64 :=
  let a := (x ^^^ x >>> 33) * c1
  let b := (a ^^^ a >>> 33) * c2
  b ^^^ b >>> 33
theorem c1_nat : (18397679294719823053 : Int) = ((c1.toNat : Nat) : Int) := by decide
theorem c2_nat : (14181476777654086739 : Int) = ((c2.toNat : Nat) : Int) := by decide
theorem ret_u64 {a b : Int} (h : a = b) : Ending.returned (.int .u64 a) = .returned (.int .u64 b) := by rw [h]

theorem mix_calls (x : BitVec 64) (w : World) : Calls Tryd.prog 87 #[.int .u64 (x.toNat : Int)] w fun e w' => e = .returned (.int .u64 ((mix x).toNat : Int)) ∧ w = w' := by
  have i0 : ∀ w, (Instr.index 130 (.agg #[.int .u64 18397679294719823053, .int .u64 14181476777654086739]) (.int .i64 0)).run Tryd.prog w = .ok (.int .u64 18397679294719823053) w := fun _ => by kernel_rfl
  have i1 : ∀ w, (Instr.index 130 (.agg #[.int .u64 18397679294719823053, .int .u64 14181476777654086739]) (.int .i64 1)).run Tryd.prog w = .ok (.int .u64 14181476777654086739) w := fun _ => by kernel_rfl
  go_enter Tryd.func87, Tryd.ntmps87
  go_wp2
  go_rounds 3
  go_ret
  refine ⟨ret_u64 ?_, rfl⟩
  show bits .xor .u64 _ _ = _
  rw [c1_nat, c2_nat]
  simp only [shr33, xor_, mul_]
  rfl



end Go.Proofs.YtmpdcdfnbkfabaaDoor.Mix
