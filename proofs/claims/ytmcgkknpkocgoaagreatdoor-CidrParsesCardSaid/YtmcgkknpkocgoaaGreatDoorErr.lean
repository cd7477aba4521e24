/- The package-level errors: what the variables hold, errors.Is of two of them, and linkboynum.Num. -/
import Derived.Test.YtmcgkknpkocgoaaGreatDoorProg
import Derived.Test.YtmcgkknpkocgoaaGreatDoorMem
import Derived.Handy
import Derived.LoopTactic
import Derived.LaidEql
import Derived.Stop.Asserts
import Derived.RowKitTokens
import Derived.KernelRfl
import Derived.Outline
namespace Go.Proofs.YtmcgkknpkocgoaaGreatDoor.Err
open Go.RowKit Go.Extern.Stop Go.Stop Go.Extern Go.Proofs.YtmcgkknpkocgoaaGreatDoor.Mem
set_option linter.unusedVariables false
set_option linter.unusedSimpArgs false

/-- An error's value. -/
def ev (a : Addr) : Value := .iface 226 (.pointer (some a))
/-- A pointer to an errors.errorString that lies in a block of its own. -/
def Lies (w : World) (a : Addr) : Prop := ∃ c t, w.heap[a.block]? = some (.cells c t (0, 0))
/-- Variable g holds the error at a. -/
def Holds (w : World) (g : Nat) (a : Addr) : Prop := w.cell? ⟨g, 0, none⟩ = some (ev a) ∧ Lies w a
theorem Lies.below {w w1 : World} {a : Addr} (h : Lies w a) (hb : Below w.heap.size w w1) : Lies w1 a := by
  obtain ⟨c, t, h⟩ := h
  exact ⟨c, t, (hb.block _ (Array.getElem?_eq_some_iff.1 h).1).trans h⟩
theorem Holds.below {w w1 : World} {g : Nat} {a : Addr} (h : Holds w g a) (hb : Below w.heap.size w w1) : Holds w1 g a :=
  ⟨cell_below hb h.1, h.2.below hb⟩

theorem isTypeOf (v : Value) (w : World) : (Extern.ReflectliteType.typeOf #[.iface 226 v]).run Tryz.prog w = .ok (.iface 170 (.agg #[.pointer (some ⟨27, 226, none⟩)])) w := by kernel_rfl
def cmpM : Array Value → Sem Value := Extern.ReflectliteType.method fun t => do Rtype.noPackHeld "Comparable" t; pure (.bool (← typeInfo t).comparable)
theorem isComparable (w : World) : (cmpM #[.agg #[.pointer (some ⟨27, 226, none⟩)]]).run Tryz.prog w = .ok (.bool true) w := by kernel_rfl
theorem isMethodComparable (v : Value) (w : World) : (Go.method Tryz.prog.depth 170 v "Comparable").run Tryz.prog w = .ok (259, v) w := by kernel_rfl
theorem isComp : (Tryz.prog.info? 226).map (·.comparable) = some true := by kernel_rfl
theorem isSize : (Tryz.prog.info? 228).map (·.size) = some 1 := by kernel_rfl
theorem noIsE (v : Value) (xT : TypeId) (w : World) : (Instr.typeAssert (.iface 226 v) xT 172 true).run Tryz.prog w = .ok (.tuple #[.nilIface, .bool false]) w := run_typeAssert_lacksB Tryz.underlying172 (by kernel_rfl) (by kernel_rfl) v xT w
theorem noUnwrapE (v : Value) (xT : TypeId) (w : World) : (Instr.typeAssert (.iface 226 v) xT 175 true).run Tryz.prog w = .ok (.tuple #[.nilIface, .bool false]) w := run_typeAssert_lacksB Tryz.underlying175 (by kernel_rfl) (by kernel_rfl) v xT w
theorem noUnwrapsE (v : Value) (xT : TypeId) (w : World) : (Instr.typeAssert (.iface 226 v) xT 176 true).run Tryz.prog w = .ok (.tuple #[.nilIface, .bool false]) w := run_typeAssert_lacksB Tryz.underlying176 (by kernel_rfl) (by kernel_rfl) v xT w
theorem is_same (a : Addr) (w : World) :
    Calls Tryz.prog 93 #[.iface 226 (.pointer (some a)), .iface 226 (.pointer (some a))] w fun e w' => e = .returned (.bool true) ∧ w = w' := by
  obtain ⟨i, hi, hcmp⟩ := Option.map_eq_some_iff.1 isComp
  obtain ⟨j, hj, hjs⟩ := Option.map_eq_some_iff.1 isSize
  have h8 := @run_callFunc_extern Tryz.prog 140 _ Extern.ReflectliteType.typeOf Tryz.func140 (by kernel_rfl) (by kernel_rfl) (by kernel_rfl) (by kernel_rfl)
  have h32 := @run_callFunc_extern Tryz.prog 259 _ cmpM Tryz.func259 (by kernel_rfl) (by kernel_rfl) (by kernel_rfl) (by kernel_rfl)
  have tT := isTypeOf
  have cT := isComparable
  have mR := isMethodComparable
  have heq := run_eql_iface_ptr_same (P := Tryz.prog) w a Tryz.underlying29 Tryz.underlying226 hi hcmp hj
  go_enter Tryz.func93, Tryz.ntmps93
  go_wp2
  refine wp_loop_rounds 1 ?_
  rw [rounds_succ]
  go_wp2
  go_ret
  exact ⟨rfl, rfl⟩
theorem is_other (a b : Addr) (w : World) (hne : a ≠ b) (ha : Lies w a) (hb : Lies w b) :
    Calls Tryz.prog 93 #[.iface 226 (.pointer (some a)), .iface 226 (.pointer (some b))] w fun e w' => e = .returned (.bool false) ∧ w = w' := by
  obtain ⟨ca, ta, ha⟩ := ha
  obtain ⟨cb, tb, hb⟩ := hb
  obtain ⟨i, hi, hcmp⟩ := Option.map_eq_some_iff.1 isComp
  obtain ⟨j, hj, hjs⟩ := Option.map_eq_some_iff.1 isSize
  have h8 := @run_callFunc_extern Tryz.prog 140 _ Extern.ReflectliteType.typeOf Tryz.func140 (by kernel_rfl) (by kernel_rfl) (by kernel_rfl) (by kernel_rfl)
  have h32 := @run_callFunc_extern Tryz.prog 259 _ cmpM Tryz.func259 (by kernel_rfl) (by kernel_rfl) (by kernel_rfl) (by kernel_rfl)
  have tT := isTypeOf
  have cT := isComparable
  have mR := isMethodComparable
  have nE := noIsE
  have uE := noUnwrapE
  have vE := noUnwrapsE
  have heq := run_eql_iface_ptr_other (P := Tryz.prog) w Tryz.underlying29 Tryz.underlying226 hi hcmp hj (by rw [hjs]; decide) hne ha hb
  clear ha hb
  go_enter Tryz.func93, Tryz.ntmps93
  go_wp2
  refine wp_loop_rounds 1 ?_
  rw [rounds_succ]
  go_wp2
  go_ret
  exact ⟨rfl, rfl⟩
end Go.Proofs.YtmcgkknpkocgoaaGreatDoor.Err
