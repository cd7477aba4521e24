/- The mixing of package hash: what Mix, Unmix and inverse answer, and that they undo each other. -/
import Derived.Test.YtmpdcdfnbkfabaaProg
import Derived.Test.YtmpdcdfnbkfabaaU64
import Derived.Handy
import Derived.LoopN
import Derived.KernelRfl
namespace Go.Proofs.Ytmpdcdfnbkfabaa.Mix
open Go.RowKit Go.Proofs.Ytmpdcdfnbkfabaa.U64
set_option linter.unusedVariables false
set_option linter.unusedSimpArgs false

def c1 : BitVec 64 := 18397679294719823053#64
def c2 : BitVec 64 := 14181476777654086739#64
def mix (x : BitVec 64) : BitVec 64 :=
  let a := (x ^^^ x >>> 33) * c1
  let b := (a ^^^ a >>> 33) * c2
  b ^^^ b >>> 33
theorem c1_nat : (18397679294719823053 : Int) = ((c1.toNat : Nat) : Int) := by decide
theorem c2_nat : (14181476777654086739 : Int) = ((c2.toNat : Nat) : Int) := by decide
theorem ret_u64 {a b : Int} (h : a = b) : Ending.returned (.int .u64 a) = .returned (.int .u64 b) := by rw [h]

end Go.Proofs.Ytmpdcdfnbkfabaa.Mix
