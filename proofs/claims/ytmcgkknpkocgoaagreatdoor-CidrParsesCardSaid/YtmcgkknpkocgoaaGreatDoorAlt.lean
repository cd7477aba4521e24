/- Worlds that differ in some blocks alone. -/
import Derived.Test.YtmcgkknpkocgoaaGreatDoorBox
namespace Go.Proofs.YtmcgkknpkocgoaaGreatDoor.Mem
open Go.RowKit
set_option linter.unusedVariables false
/-- w' is w, but in the blocks of which R is so, and new ones. -/
structure Alt (R : Nat → Prop) (w w' : World) : Prop where
  os : w'.os = w.os
  tape : w'.tape = w.tape
  output : w'.output = w.output
  size : w.heap.size ≤ w'.heap.size
  block : ∀ k, k < w.heap.size → ¬ R k → w'.heap[k]? = w.heap[k]?
section
variable {R S : Nat → Prop} {w w1 w2 : World}
theorem Alt.refl (R : Nat → Prop) (w : World) : Alt R w w := ⟨rfl, rfl, rfl, Nat.le_refl _, fun _ _ _ => rfl⟩
theorem Alt.of_below (h : Below w.heap.size w w1) : Alt R w w1 := ⟨h.os, h.tape, h.output, h.size, fun k hk _ => h.block k hk⟩
theorem Alt.of_grown {r : Option Nat} (h : w.grownBy w1 r) (hr : ∀ k, r = some k → R k) : Alt R w w1 := ⟨h.os, h.tape, h.output, h.size, fun k hk hn => h.block k hk (fun e => hn (hr k e.symm))⟩
theorem Alt.trans (h : Alt R w w1) (h2 : Alt R w1 w2) : Alt R w w2 :=
  ⟨h2.os.trans h.os, h2.tape.trans h.tape, h2.output.trans h.output, Nat.le_trans h.size h2.size, fun k hk hn => (h2.block k (Nat.lt_of_lt_of_le hk h.size) hn).trans (h.block k hk hn)⟩
theorem Alt.mono (h : Alt R w w1) (hs : ∀ k, k < w.heap.size → R k → S k) : Alt S w w1 := ⟨h.os, h.tape, h.output, h.size, fun k hk hn => h.block k hk (fun hr => hn (hs k hk hr))⟩
theorem Alt.set {a : Addr} (v : Value) (ha : R a.block) : Alt R w (w.setCell a v) := by
  refine ⟨rfl, rfl, rfl, by simp, fun k hk hn => ?_⟩
  have hne : a.block ≠ k := fun e => hn (e ▸ ha)
  exact Below.heap_setCell _ _ _ _ (fun e => hn (by rw [e]; exact ha))
theorem Alt.drewN (h : Alt R w w1) (n : Nat) : Alt R w (w1.drewN n) := ⟨h.os, h.tape, h.output, h.size, h.block⟩
theorem below_alt {B : Nat} {w0 : World} (h : Below B w0 w) (ha : Alt R w w1) (hB : B ≤ w.heap.size) (hR : ∀ k, R k → B ≤ k) : Below B w0 w1 :=
  ⟨ha.os.trans h.os, ha.tape.trans h.tape, ha.output.trans h.output, Nat.le_trans h.size ha.size, fun k hk => (ha.block k (Nat.lt_of_lt_of_le hk hB) (fun hr => absurd (hR k hr) (by omega))).trans (h.block k hk)⟩
theorem Own.alt {α : Type} {E : Enc α} {e : TypeId} {base : Nat} {v : Value} {xs : List α} (h : Own E e base w v xs) (ha : Alt R w w1) (hn : ∀ k, v.ownBlock = some k → ¬ R k) : Own E e base w1 v xs := by
  obtain ⟨h1, h2⟩ := h
  refine ⟨h1, ?_⟩
  rcases h2 with h2 | ⟨g, cap, cur, rfl, hg, hh, h3⟩
  · exact .inl h2
  · exact .inr ⟨g, cap, cur, rfl, hg, (ha.block g (Array.getElem?_eq_some_iff.1 hh).1 (hn g rfl)).trans hh, h3⟩
theorem Box.alt {b : Nat} {cs : Array Value} (h : Box b cs w) (ha : Alt R w w1) (hn : ¬ R b) : Box b cs w1 := by
  have hb := ha.block b h.lt hn
  refine ⟨fun i v hv => ?_, fun i => ?_, Nat.lt_of_lt_of_le h.lt ha.size⟩
  · rw [← h.cell i v hv]; exact World.cell?_of_block (a := ⟨b, i, none⟩) hb
  · rw [← h.free i]; exact World.frozen?_of_block (a := ⟨b, i, none⟩) hb
theorem Row.alt {α : Type} {E : Enc α} {A : Option Addr} {n c : Nat} {xs : List α} (h : Row E w (.slice A n c) xs) (ha : Alt R w w1) (hn : ∀ ad, A = some ad → ¬ R ad.block) : Row E w1 (.slice A n c) xs := by
  obtain ⟨A', c', he, h1, h2, h3, h4⟩ := h
  cases he
  refine ⟨A, c, rfl, h1, h2, h3, fun ad had j u hu => ?_⟩
  have hc := h4 ad had j u hu
  have hbk : (ad.add j).block = ad.block := by unfold Addr.add; split <;> rfl
  have hl : ad.block < w.heap.size := by rw [← hbk]; exact World.block_lt_of_cell? w _ hc
  rw [← hc]
  exact World.cell?_of_block (a := ad.add j) (by rw [hbk]; exact ha.block _ hl (hn ad had))
end
end Go.Proofs.YtmcgkknpkocgoaaGreatDoor.Mem
