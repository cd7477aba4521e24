/- Package frame: Cut. -/
import Derived.Test.YtmpdcdfnbkfabaaDoorNum
import Derived.Test.YtmpdcdfnbkfabaaDoorClone
import Derived.Test.YtmpdcdfnbkfabaaDoorErrNum
import Derived.BigQuiet
import Derived.Deep.QuietTactic
import Derived.Shelf.RegionOpenPlain
import Derived.LoopTactic
import Derived.Lib.Hide
import Derived.Lib.LazyBuf
import Derived.Handy
namespace Go.Proofs.YtmpdcdfnbkfabaaDoor.Frame
open Go.RowKit Go.Proofs.YtmpdcdfnbkfabaaDoor.Mem Go.Proofs.YtmpdcdfnbkfabaaDoor.Num Go.Proofs.YtmpdcdfnbkfabaaDoor.Err Go.Proofs.YtmpdcdfnbkfabaaDoor.Clone
set_option linter.unusedVariables false
set_option linter.unusedSimpArgs false
set_option maxRecDepth 100000
theorem join8 (x y : UInt8) : bits .or .i64 ((x.toNat : Int) * 256) (y.toNat : Int) = (x.toNat : Int) * 256 + (y.toNat : Int) := by
  have h1 := x.toNat_lt
  have h2 := y.toNat_lt
  exact bits_join .i64 63 (by decide) (fun n h0 h1 => by rw [IntKind.wrap_i64]; omega) 8 _ _ (by omega) (by omega) (by omega) (by omega) (by omega) (by omega)
/-! The plain law. -/
def frLen (l : List UInt8) : Nat := (l.getD 0 0).toNat * 256 + (l.getD 1 0).toNat
def frKind (l : List UInt8) : UInt8 := l.getD 2 0
def frBody (l : List UInt8) : List UInt8 := (l.take (2 + frLen l)).drop 3
/-- The frames of bytes, how many are left, whether it breaks. -/
def cutF (l : List UInt8) : List (UInt8 × List UInt8) × Nat × Bool :=
  if l.length < 2 then ([], l.length, false)
  else if frLen l = 0 ∨ 1200 < frLen l then ([], 0, true)
  else if l.length < 2 + frLen l then ([], l.length, false)
  else
    let r := cutF (l.drop (2 + frLen l))
    ((frKind l, frBody l) :: r.1, r.2)
termination_by l.length
decreasing_by simp; omega
theorem ret2 {a a' : Int} {b b' : Bool} (ha : a = a') (hb : b = b') : Ending.returned (.tuple #[.int .i64 a, .bool b]) = .returned (.tuple #[.int .i64 a', .bool b']) := by rw [ha, hb]
theorem long_calls (v : Value) (l : List UInt8) (w : World) (hv : Row eU8 w v l) (hl : 2 ≤ l.length) :
    Calls Tryd.prog 61 #[v] w fun e w' => e = .returned (.tuple #[.int .i64 (frLen l : Int), .bool (decide (¬ (frLen l = 0 ∨ 1200 < frLen l)))]) ∧ ∃ n, w' = w.drewN n := by
  obtain ⟨A, c, rfl, hc, hm, hr⟩ := hv.parts
  clear hv
  obtain ⟨ad, rfl, h0⟩ := hr.atU8 (k := 0) (by omega)
  obtain ⟨ad', had, h1⟩ := hr.atU8 (k := 1) (by omega)
  cases had
  have h0' : w.cell? ad = some (.int .u8 (l[0].toNat : Int)) := by simpa [Addr.add] using h0
  have h1' : w.cell? ⟨ad.block, ad.off + 1, none⟩ = some (.int .u8 (l[1].toNat : Int)) := h1
  have e0 : l.getD 0 0 = l[0] := by rw [List.getD_eq_getElem?_getD, List.getElem?_eq_getElem (by omega)]; rfl
  have e1 : l.getD 1 0 = l[1] := by rw [List.getD_eq_getElem?_getD, List.getElem?_eq_getElem (by omega)]; rfl
  unfold frLen
  rw [e0, e1]
  clear e0 e1 hr h0 h1
  generalize l[0] = x at h0' ⊢
  generalize l[1] = y at h1' ⊢
  have hj := join8 x y
  have b1 := x.toNat_lt
  have b2 := y.toNat_lt
  have hb1 : (x.toNat : Int) < 256 := by omega
  have hb2 : (y.toNat : Int) < 256 := by omega
  clear b1 b2
  go_enter Tryd.func61, Tryd.ntmps61
  go_wp2
  go_quiet (fail)
  go_wp2
  all_goals
    go_ret2
    refine ⟨ret2 (by simp) ?_, _, rfl⟩
    first
      | exact decide_eq_decide.mpr (by omega)
      | exact (by have h : x.toNat = 0 ∧ y.toNat = 0 := by omega
                  simp [h.1, h.2])
end Go.Proofs.YtmpdcdfnbkfabaaDoor.Frame
