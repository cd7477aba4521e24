/- What an argument of type Frame is; the contract of FrameBytes for its row. -/
import Derived.Test.YtmpdcdfnbkfabaaDoorFrameB2
import Derived.Test.YtmpdcdfnbkfabaaDoorOpen
import Derived.OpenShut
namespace Go.Proofs.YtmpdcdfnbkfabaaDoor.Frame
open Go.RowKit Go.WideShapes Go.Proofs.YtmpdcdfnbkfabaaDoor.Mem Go.Proofs.YtmpdcdfnbkfabaaDoor.Num Go.Proofs.YtmpdcdfnbkfabaaDoor.Err Go.Proofs.YtmpdcdfnbkfabaaDoor.Open
set_option maxRecDepth 100000
set_option linter.unusedVariables false
def IsFrame (W : World) (v : Value) : Prop := ∃ (k : Int) (A : Option Addr) (n c : Nat) (l : List UInt8), v = frV k A n c ∧ Row eU8 W (.slice A n c) l
theorem isFrame {H : Type} {enc : TypeId × Value → H} {W : World} {base : Nat} {sp : Nat → Bool} {held : Bool} {v : Value} {d : DataW H} {ps : List MemPlace} (hv : Value.okWide Tryd.prog W .any base 50 v) (h : DataW.Trod enc Tryd.prog W 0 sp held 50 v d ps) : IsFrame W v := by
  obtain ⟨cs, rfl, hn⟩ := okWide_struct Tryd.underlying50 hv
  have hs := (Rd.of h).struct Tryd.underlying50
  have hci : Tryd.prog.cellsOf 3 = 1 := by kernel_rfl
  have hcs : Tryd.prog.cellsOf 27 = 1 := by kernel_rfl
  have hcu : Tryd.prog.cellsOf 5 = eU8.sz := by kernel_rfl
  obtain ⟨l⟩ := cs
  have h0 : Rd enc Tryd.prog W 3 ((l.drop 0).take (Tryd.prog.cellsOf 3)) := hs.2 0 _ rfl
  have h1 : Rd enc Tryd.prog W 27 ((l.drop 1).take (Tryd.prog.cellsOf 27)) := hs.2 1 _ rfl
  rw [hci] at h0
  rw [hcs] at h1
  obtain ⟨hl, _⟩ := hs
  have hc : Tryd.prog.cellsOf 50 = 2 := by kernel_rfl
  have hl2 : l.length = 2 := by rw [hc] at hl; exact hl
  match l, hl2 with
  | [a, b], _ =>
    obtain ⟨k, hk, _⟩ := h0.int Tryd.underlying3
    obtain ⟨v, xs, hv, hrow, _⟩ := h1.row (E := eU8) (Q := fun _ => True) Tryd.underlying27 hcu (fun ds h => by obtain ⟨x, hx⟩ := h.u8 Tryd.underlying5; exact ⟨x, hx, trivial⟩)
    cases hk; cases hv
    obtain ⟨A, c, rfl, h2, h3, h4, h5⟩ := hrow
    exact ⟨k, A, xs.length, c, xs, rfl, A, c, rfl, h2, h3, h4, h5⟩
theorem framebytes_row (W : World) (es : List Addr) (el : es.length = 18) (en : es.Nodup) (eh : ∀ (k g : Nat) (a : Addr), gl[k]? = some g → es[k]? = some a → Holds W g a) (v : Value) (hv : IsFrame W v) (u : Value) (hu : IsFrame W u) :
    Calls Tryd.prog 6 #[v, u] W fun e W' => e = .returned (.bool true) ∧ Below W.heap.size W W' := by
  obtain ⟨k1, A, n1, c1, l, rfl, h1⟩ := hv
  obtain ⟨k2, B, n2, c2, m, rfl, h2⟩ := hu
  exact framebytes_calls k1 k2 A B n1 c1 n2 c2 l m W es (errs_of W es el en eh) h1 h2
end Go.Proofs.YtmpdcdfnbkfabaaDoor.Frame
