/- Slices in memory, read as lists: the predicates that the contracts speak of, and how they last. -/
import Derived.WalkKit
import Derived.ProofKit
import Derived.Deep.Draws
import Derived.Below
namespace Go.Proofs.Ytgldlpfhebncgaa.Mem
open Go.RowKit

/-- v is a slice that reads, in w, as the list xs of elements of one cell. -/
def Row {α : Type} (enc : α → Value) (w : World) (v : Value) (xs : List α) : Prop :=
  ∃ A c, v = .slice A xs.length c ∧ xs.length ≤ c ∧ c ≤ maxLen ∧ ∀ j x, xs[j]? = some x → ∃ ad, A = some ad ∧ w.cell? (ad.add j) = some (enc x)

theorem Row.nil {α : Type} (enc : α → Value) (w : World) : Row enc w (.slice none 0 0) [] :=
  ⟨none, 0, rfl, Nat.le_refl _, by unfold maxLen; omega, fun j x h => by simp at h⟩

theorem cell_below {w w1 : World} (h : Below w.heap.size w w1) {a : Addr} {v : Value} (hc : w.cell? a = some v) : w1.cell? a = some v :=
  (h.cell (World.block_lt_of_cell? w a hc)).trans hc

theorem Row.below {α : Type} {enc : α → Value} {w w1 : World} {v : Value} {xs : List α} (h : Row enc w v xs) (hb : Below w.heap.size w w1) : Row enc w1 v xs := by
  obtain ⟨A, c, rfl, h1, h2, h3⟩ := h
  refine ⟨A, c, rfl, h1, h2, fun j x hx => ?_⟩
  obtain ⟨ad, ha, hc⟩ := h3 j x hx
  exact ⟨ad, ha, cell_below hb hc⟩

theorem Row.drewN {α : Type} {enc : α → Value} {w : World} {v : Value} {xs : List α} (h : Row enc w v xs) (n : Nat) : Row enc (w.drewN n) v xs := h

/-- A byte as a value. -/
def u8 (x : UInt8) : Value := .int .u8 (x.toNat : Int)
/-- An int as a value. -/
def i64 (x : Int) : Value := .int .i64 x

/-- Out of a row: its parts, as a walk wants them. -/
theorem Row.parts {α : Type} {enc : α → Value} {w : World} {v : Value} {xs : List α} (h : Row enc w v xs) :
    ∃ A c, v = .slice A xs.length c ∧ xs.length ≤ c ∧ xs.length ≤ 9223372036854775807 ∧ Row enc w (.slice A xs.length c) xs := by
  obtain ⟨A, c, rfl, h1, h2, h3⟩ := h
  exact ⟨A, c, rfl, h1, by unfold maxLen at h2; omega, A, c, rfl, h1, h2, h3⟩
theorem Row.at {α : Type} {enc : α → Value} {w : World} {A : Option Addr} {n c : Nat} {xs : List α} (h : Row enc w (.slice A n c) xs) {k : Nat} (hk : k < xs.length) :
    ∃ ad, A = some ad ∧ w.cell? (ad.add k) = some (enc xs[k]) := by
  obtain ⟨A', c', he, h1, h2, h3⟩ := h
  cases he
  exact h3 k _ (List.getElem?_eq_getElem hk)

end Go.Proofs.Ytgldlpfhebncgaa.Mem
