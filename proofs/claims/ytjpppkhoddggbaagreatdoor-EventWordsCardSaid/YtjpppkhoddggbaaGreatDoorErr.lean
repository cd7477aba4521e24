/- The package-level errors: what the variables hold, errors.Is of two of them, and linkboynum.Num. -/
import Derived.Test.YtjpppkhoddggbaaGreatDoorProg
import Derived.Test.YtjpppkhoddggbaaGreatDoorMem
import Derived.Handy
import Derived.LoopTactic
import Derived.LaidEql
import Derived.Stop.Asserts
import Derived.RowKitTokens
import Derived.KernelRfl
import Derived.Outline
namespace Go.Proofs.YtjpppkhoddggbaaGreatDoor.Err
open Go.RowKit Go.Extern.Stop Go.Stop Go.Extern Go.Proofs.YtjpppkhoddggbaaGreatDoor.Mem
set_option linter.unusedVariables false
set_option linter.unusedSimpArgs false

/-- An error's value. -/
def ev (a : Addr) : Value := .iface 152 (.pointer (some a))
/-- A pointer to an errors.errorString that lies in a block of its own. -/
def Lies (w : World) (a : Addr) : Prop := ∃ c t, w.heap[a.block]? = some (.cells c t (0, 0))
/-- Variable g holds the error at a. -/
def Holds (w : World) (g : Nat) (a : Addr) : Prop := w.cell? ⟨g, 0, none⟩ = some (ev a) ∧ Lies w a
theorem Lies.below {w w1 : World} {a : Addr} (h : Lies w a) (hb : Below w.heap.size w w1) : Lies w1 a := by
  obtain ⟨c, t, h⟩ := h
  exact ⟨c, t, (hb.block _ (Array.getElem?_eq_some_iff.1 h).1).trans h⟩
theorem Holds.below {w w1 : World} {g : Nat} {a : Addr} (h : Holds w g a) (hb : Below w.heap.size w w1) : Holds w1 g a :=
  ⟨cell_below hb h.1, h.2.below hb⟩

end Go.Proofs.YtjpppkhoddggbaaGreatDoor.Err
