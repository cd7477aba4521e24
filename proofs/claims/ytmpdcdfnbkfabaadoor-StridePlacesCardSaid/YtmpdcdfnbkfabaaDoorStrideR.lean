/- The contract of StridePlaces, for its row. -/
import Derived.Test.YtmpdcdfnbkfabaaDoorStride9
import Derived.Test.YtmpdcdfnbkfabaaDoorStrideO
namespace Go.Proofs.YtmpdcdfnbkfabaaDoor.Stride
open Go.RowKit Go.Proofs.YtmpdcdfnbkfabaaDoor.Mem
theorem places_row (W : World) (v : Value) (hv : IsStride v) (j : Int) (hj : (Lit.int .i64 j).wf = true) (p : Int) (hp : (Lit.int .i64 p).wf = true) :
    Calls Tryd.prog 7 #[v, .int .i64 j, .int .i64 p] W fun e W' => e = .returned (.bool true) ∧ Below W.heap.size W W' := by
  obtain ⟨z, o, k, rfl⟩ := hv
  exact places_calls z o k j p W (by simp [Lit.wf, IntKind.min, IntKind.max, IntKind.signed, IntKind.bits] at hj; omega)
end Go.Proofs.YtmpdcdfnbkfabaaDoor.Stride
