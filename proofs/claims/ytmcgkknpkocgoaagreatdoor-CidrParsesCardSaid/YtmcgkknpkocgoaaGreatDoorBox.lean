/- Boxes: blocks of a call's own, their cells, and what regions that draw keep of them. -/
import Derived.Test.YtmcgkknpkocgoaaGreatDoorMem
import Derived.RangeFuncRecord
namespace Go.Proofs.YtmcgkknpkocgoaaGreatDoor.Mem
open Go.RowKit
set_option linter.unusedVariables false
theorem below_allocd {w w1 : World} {o : Obj} (h : Below (w.alloc o).heap.size (w.alloc o) w1) : Below w.heap.size w w1 := ((Below.refl _ _).alloc (Nat.le_refl _) o).trans (h.mono (by simp))
theorem below_drewd {w w1 : World} (h : Below w.drew.heap.size w.drew w1) : Below w.heap.size w w1 := ⟨h.os, h.tape, h.output, h.size, h.block⟩
theorem below_own_alloc (w : World) (o : Obj) : Below w.heap.size w (w.alloc o) := (Below.refl _ _).alloc (Nat.le_refl _) o
theorem below_own_drew (w : World) : Below w.heap.size w w.drew := ⟨rfl, rfl, rfl, Nat.le_refl _, fun _ _ => rfl⟩
/-- Block b holds these cells, and may be written. -/
structure Box (b : Nat) (cs : Array Value) (W : World) : Prop where
  cell : ∀ (i : Nat) (v : Value), cs[i]? = some v → W.cell? ⟨b, i, none⟩ = some v
  free : ∀ i : Nat, W.frozen? ⟨b, i, none⟩ = false
  lt : b < W.heap.size
theorem Box.below {b : Nat} {cs : Array Value} {w w1 : World} (h : Box b cs w) (hb : Below w.heap.size w w1) : Box b cs w1 :=
  ⟨fun i v hv => cell_below hb (h.cell i v hv), fun i => by rw [← h.free i]; exact hb.frozen (p := ⟨b, i, none⟩) h.lt, Nat.lt_of_lt_of_le h.lt hb.size⟩
theorem Box.new (w : World) (cs : Array Value) (t : TypeId) (b : Nat) (hb : w.heap.size = b) : Box b cs (w.alloc (.cells cs t)) := by
  subst hb
  have e := World.alloc_heap_new w (.cells cs t)
  refine ⟨fun i v h => ?_, fun i => ?_, by simp⟩
  · unfold World.cell?; rw [e]; exact h
  · unfold World.frozen?; simp only [e]; simp
theorem Box.alloc {b : Nat} {cs : Array Value} {w : World} (h : Box b cs w) (o : Obj) : Box b cs (w.alloc o) := h.below (below_own_alloc w o)
theorem Box.drew {b : Nat} {cs : Array Value} {w : World} (h : Box b cs w) : Box b cs w.drew := h.below (below_own_drew w)
/-- .. that was made right before a call. -/
theorem boxAlloc {w w1 : World} {cs : Array Value} {t : TypeId} (hb : Below (w.alloc (.cells cs t)).heap.size (w.alloc (.cells cs t)) w1) : Box w.heap.size cs w1 := (Box.new w cs t _ rfl).below hb
theorem boxAllocE {w w1 : World} {cs : Array Value} {t : TypeId} (b : Nat) (hw : w.heap.size = b) (hb : Below (w.alloc (.cells cs t)).heap.size (w.alloc (.cells cs t)) w1) : Box b cs w1 := (Box.new w cs t b hw).below hb
theorem boxAlloc3 {w w1 : World} {o1 o2 : Obj} {cs : Array Value} {t : TypeId} (hb : Below (((w.alloc o1).alloc o2).alloc (.cells cs t)).drew.heap.size (((w.alloc o1).alloc o2).alloc (.cells cs t)).drew w1) : Box (w.heap.size + 1 + 1) cs w1 := boxAllocE _ (by simp) (below_drewd hb)
/-- These cells may be written. -/
def Live (b n : Nat) (W : World) : Prop := ∀ i, i < n → (∃ v, W.cell? ⟨b, i, none⟩ = some v) ∧ W.frozen? ⟨b, i, none⟩ = false
theorem Live.lt {b n : Nat} {W : World} (h : Live b (n + 1) W) : b < W.heap.size := by
  obtain ⟨⟨v, hv⟩, _⟩ := h 0 (by omega)
  exact World.block_lt_of_cell? W _ hv
theorem Live.below {b n : Nat} {w w1 : World} (h : Live b n w) (hb : Below w.heap.size w w1) : Live b n w1 := fun i hi => by
  obtain ⟨⟨v, hv⟩, hf⟩ := h i hi
  refine ⟨⟨v, cell_below hb hv⟩, ?_⟩
  rw [← hf]; exact hb.frozen (p := ⟨b, i, none⟩) (World.block_lt_of_cell? w _ hv)
theorem Live.set {b n : Nat} {w : World} (h : Live b n w) (a : Addr) (x : Value) : Live b n (w.setCell a x) := fun i hi => by
  obtain ⟨⟨v, hv⟩, hf⟩ := h i hi
  refine ⟨?_, by rw [World.frozen?_setCell]; exact hf⟩
  obtain ⟨v', hv'⟩ := RowKit.cell?_setCell_some (w := w) (p := a) (x := x) (q := ⟨b, i, none⟩) (v := v) hv
  exact ⟨v', hv'⟩
theorem Box.live {b n : Nat} {cs : Array Value} {w : World} (h : Box b cs w) (hn : n = cs.size) : Live b n w := fun i hi => ⟨⟨cs[i]'(by omega), h.cell i _ (Array.getElem?_eq_getElem (by omega))⟩, h.free i⟩
theorem Box.set {b : Nat} {cs : Array Value} {w : World} (h : Box b cs w) (i : Nat) (v : Value) (hi : i < cs.size) : Box b (cs.set i v hi) (w.setCell ⟨b, i, none⟩ v) := by
  refine ⟨fun j u hu => ?_, fun j => by rw [World.frozen?_setCell]; exact h.free j, by have := h.lt; simpa using this⟩
  by_cases hj : j = i
  · subst hj
    have hv : u = v := by simpa [Array.getElem?_set] using hu.symm
    subst hv
    exact World.cell?_setCell_same' w ⟨b, j, none⟩ u (by rw [h.cell j _ (Array.getElem?_eq_getElem hi)]; rfl)
  · rw [World.cell?_setCell_other _ _ _ _ (by simp only [ne_eq, Addr.mk.injEq]; omega)]
    refine h.cell j u ?_
    rw [Array.getElem?_set] at hu
    rwa [if_neg (fun e => hj e.symm)] at hu
theorem Box.set3 {b : Nat} {a0 a1 a2 : Value} {w : World} (h : Box b #[a0, a1, a2] w) (v0 v1 v2 : Value) : Box b #[v0, v1, v2] (((w.setCell ⟨b, 0, none⟩ v0).setCell ⟨b, 1, none⟩ v1).setCell ⟨b, 2, none⟩ v2) :=
  ((h.set 0 v0 (show 0 < 3 by decide)).set 1 v1 (show 1 < 3 by decide)).set 2 v2 (show 2 < 3 by decide)
theorem Box.set4 {b : Nat} {a0 a1 a2 a3 : Value} {w : World} (h : Box b #[a0, a1, a2, a3] w) (v0 v1 v2 v3 : Value) : Box b #[v0, v1, v2, v3] ((((w.setCell ⟨b, 0, none⟩ v0).setCell ⟨b, 1, none⟩ v1).setCell ⟨b, 2, none⟩ v2).setCell ⟨b, 3, none⟩ v3) :=
  (((h.set 0 v0 (show 0 < 4 by decide)).set 1 v1 (show 1 < 4 by decide)).set 2 v2 (show 2 < 4 by decide)).set 3 v3 (show 3 < 4 by decide)
theorem Box.c1 {b : Nat} {a0 : Value} {w : World} (h : Box b #[a0] w) : w.cell? ⟨b, 0, none⟩ = some a0 := h.cell 0 _ rfl
theorem Box.c2 {b : Nat} {a0 a1 : Value} {w : World} (h : Box b #[a0, a1] w) : w.cell? ⟨b, 0, none⟩ = some a0 ∧ w.cell? ⟨b, 1, none⟩ = some a1 := ⟨h.cell 0 _ rfl, h.cell 1 _ rfl⟩
theorem Box.c3 {b : Nat} {a0 a1 a2 : Value} {w : World} (h : Box b #[a0, a1, a2] w) : w.cell? ⟨b, 0, none⟩ = some a0 ∧ w.cell? ⟨b, 1, none⟩ = some a1 ∧ w.cell? ⟨b, 2, none⟩ = some a2 := ⟨h.cell 0 _ rfl, h.cell 1 _ rfl, h.cell 2 _ rfl⟩
theorem Box.c4 {b : Nat} {a0 a1 a2 a3 : Value} {w : World} (h : Box b #[a0, a1, a2, a3] w) : w.cell? ⟨b, 0, none⟩ = some a0 ∧ w.cell? ⟨b, 1, none⟩ = some a1 ∧ w.cell? ⟨b, 2, none⟩ = some a2 ∧ w.cell? ⟨b, 3, none⟩ = some a3 := ⟨h.cell 0 _ rfl, h.cell 1 _ rfl, h.cell 2 _ rfl, h.cell 3 _ rfl⟩
theorem Box.f4 {b : Nat} {cs : Array Value} {w : World} (h : Box b cs w) : w.frozen? ⟨b, 0, none⟩ = false ∧ w.frozen? ⟨b, 1, none⟩ = false ∧ w.frozen? ⟨b, 2, none⟩ = false ∧ w.frozen? ⟨b, 3, none⟩ = false := ⟨h.free 0, h.free 1, h.free 2, h.free 3⟩
theorem box4 {w w1 : World} {a b c d : Value} {t : TypeId} (h : Below (w.alloc (.cells #[a, b, c, d] t)).heap.size (w.alloc (.cells #[a, b, c, d] t)) w1) :
    (w1.cell? ⟨w.heap.size, 0, none⟩ = some a ∧ w1.cell? ⟨w.heap.size, 1, none⟩ = some b ∧ w1.cell? ⟨w.heap.size, 2, none⟩ = some c ∧ w1.cell? ⟨w.heap.size, 3, none⟩ = some d) ∧
    w1.frozen? ⟨w.heap.size, 0, none⟩ = false ∧ w1.frozen? ⟨w.heap.size, 1, none⟩ = false ∧ w1.frozen? ⟨w.heap.size, 2, none⟩ = false ∧ w1.frozen? ⟨w.heap.size, 3, none⟩ = false :=
  ⟨(boxAlloc h).c4, (boxAlloc h).f4⟩
end Go.Proofs.YtmcgkknpkocgoaaGreatDoor.Mem
