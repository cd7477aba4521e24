/- What an argument of type Stride is. -/
import Derived.Test.YtmpdcdfnbkfabaaDoorStride
import Derived.Test.YtmpdcdfnbkfabaaDoorOpen
import Derived.OpenShut
namespace Go.Proofs.YtmpdcdfnbkfabaaDoor.Stride
open Go.RowKit Go.WideShapes Go.Proofs.YtmpdcdfnbkfabaaDoor.Mem Go.Proofs.YtmpdcdfnbkfabaaDoor.Open
set_option maxRecDepth 100000
def IsStride (v : Value) : Prop := ∃ z o k : Int, v = sv z o k
theorem isStride {H : Type} {enc : TypeId × Value → H} {W : World} {base : Nat} {sp : Nat → Bool} {held : Bool} {v : Value} {d : DataW H} {ps : List MemPlace} (hv : Value.okWide Tryd.prog W .any base 55 v) (h : DataW.Trod enc Tryd.prog W 0 sp held 55 v d ps) : IsStride v := by
  obtain ⟨cs, rfl, hn⟩ := okWide_struct Tryd.underlying55 hv
  have hs := (Rd.of h).struct Tryd.underlying55
  have hci : Tryd.prog.cellsOf 3 = 1 := by kernel_rfl
  obtain ⟨l⟩ := cs
  have h0 : Rd enc Tryd.prog W 3 ((l.drop 0).take (Tryd.prog.cellsOf 3)) := hs.2 0 _ rfl
  have h1 : Rd enc Tryd.prog W 3 ((l.drop 1).take (Tryd.prog.cellsOf 3)) := hs.2 1 _ rfl
  have h2 : Rd enc Tryd.prog W 3 ((l.drop 2).take (Tryd.prog.cellsOf 3)) := hs.2 2 _ rfl
  rw [hci] at h0 h1 h2
  obtain ⟨hl, _⟩ := hs
  have hc : Tryd.prog.cellsOf 55 = 3 := by kernel_rfl
  have hl3 : l.length = 3 := by rw [hc] at hl; exact hl
  match l, hl3 with
  | [a, b, c], _ =>
    obtain ⟨z, hz, _⟩ := h0.int Tryd.underlying3
    obtain ⟨o, ho, _⟩ := h1.int Tryd.underlying3
    obtain ⟨k, hk, _⟩ := h2.int Tryd.underlying3
    cases hz; cases ho; cases hk
    exact ⟨z, o, k, rfl⟩
end Go.Proofs.YtmpdcdfnbkfabaaDoor.Stride
