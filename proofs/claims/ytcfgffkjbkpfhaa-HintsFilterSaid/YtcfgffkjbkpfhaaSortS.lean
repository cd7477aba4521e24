/- Texts sorted and compacted: the library's contracts in the words of Row and Own. -/
import Derived.Test.YtcfgffkjbkpfhaaMem
import Derived.Sort.OwnSorted
import Derived.Lib.SlicesCompact
import Derived.Lib.OwnBridge
namespace Go.Proofs.Ytcfgffkjbkpfhaa.SortS
open Go.RowKit Go.Sort Go.Proofs.Ytcfgffkjbkpfhaa.Mem
set_option linter.unusedVariables false
set_option linter.unusedSimpArgs false
def bts (zs : List ByteArray) : List (List UInt8) := zs.map (·.data.toList)
def txt (ss : List (List UInt8)) : List ByteArray := ss.map fun b => ⟨b.toArray⟩
theorem txt_bts (zs : List ByteArray) : txt (bts zs) = zs := by
  unfold txt bts
  rw [List.map_map]
  conv => rhs; rw [← List.map_id zs]
  apply List.map_congr_left
  intro x _
  simp
theorem bts_txt (ss : List (List UInt8)) : bts (txt ss) = ss := by
  unfold txt bts
  rw [List.map_map]
  conv => rhs; rw [← List.map_id ss]
  apply List.map_congr_left
  intro x _
  simp
theorem txt_len (ss : List (List UInt8)) : (txt ss).length = ss.length := by simp [txt]
theorem bts_len (zs : List ByteArray) : (bts zs).length = zs.length := by simp [bts]
theorem eStr_all (zs : List ByteArray) : eStr.all zs = (bts zs).map encStr := by
  rw [show eStr.all zs = zs.map Value.string from all_one1 _ _ _]
  exact (Lib.map_encStr zs).symm
abbrev leB : List UInt8 → List UInt8 → Bool := fun x y => decide (x ≤ y)
def sortL (zs : List ByteArray) : List ByteArray := txt ((bts zs).mergeSort leB)
def compL (zs : List ByteArray) : List ByteArray := txt (Lib.compact (bts zs))
theorem sortL_len (zs : List ByteArray) : (sortL zs).length = zs.length := by unfold sortL; rw [txt_len, List.length_mergeSort, bts_len]
theorem compact_le {α : Type} [Inhabited α] [DecidableEq α] (zs : List α) : (Lib.compact zs).length ≤ zs.length := by
  unfold Lib.compact Lib.compactUpTo
  rw [List.length_map]
  exact Nat.le_trans (List.length_filter_le _ _) (by simp)
theorem compL_len (zs : List ByteArray) : (compL zs).length ≤ zs.length := by
  unfold compL
  rw [txt_len, ← bts_len zs]
  exact compact_le _
theorem own_iff {e : TypeId} {base : Nat} {w : World} {v : Value} {zs : List ByteArray} : Own eStr e base w v zs ↔ w.ownsRow base e 1 v zs.length ((bts zs).map encStr) := by
  unfold Own
  rw [eStr_all]
  exact Iff.rfl
theorem grown_put {w : World} {g n : Nat} (d : Array (List UInt8)) : w.grownBy (putRow encStr (Sort.ahead w n) g 0 d) (some g) := by
  have := grownBy_sorted (w := w) (g := g) (n := n) (os := #[]) d
  rwa [grow_empty] at this
/-! What is in them. -/
theorem mem_compact {α : Type} [Inhabited α] [DecidableEq α] (zs : List α) (x : α) : x ∈ Lib.compact zs ↔ x ∈ zs := by
  unfold Lib.compact Lib.compactUpTo
  rw [List.mem_map]
  constructor
  · rintro ⟨j, hj, rfl⟩
    have hj' : j < zs.length := List.mem_range.1 (List.mem_filter.1 hj).1
    rw [getElem!_pos zs.toArray j (by simpa using hj')]
    simp
  · intro hx
    obtain ⟨j, hj, rfl⟩ := List.getElem_of_mem hx
    have key : ∀ j, j < zs.length → ∃ i, i ∈ (List.range zs.length).filter (Lib.keeps zs.toArray) ∧ zs.toArray[i]! = zs.toArray[j]! := by
      intro j
      induction j with
      | zero => intro h; exact ⟨0, List.mem_filter.2 ⟨List.mem_range.2 h, by simp [Lib.keeps]⟩, rfl⟩
      | succ j ih =>
        intro h
        by_cases hk : Lib.keeps zs.toArray (j + 1) = true
        · exact ⟨j + 1, List.mem_filter.2 ⟨List.mem_range.2 h, hk⟩, rfl⟩
        · obtain ⟨i, h1, h2⟩ := ih (by omega)
          refine ⟨i, h1, h2.trans ?_⟩
          unfold Lib.keeps at hk
          simp only [decide_eq_true_eq, not_or, ne_eq, Classical.not_not] at hk
          exact hk.2.symm
    obtain ⟨i, h1, h2⟩ := key j hj
    refine ⟨i, h1, h2.trans ?_⟩
    rw [getElem!_pos zs.toArray j (by simpa using hj)]
    simp
theorem mem_txt {ss : List (List UInt8)} {s : ByteArray} : s ∈ txt ss ↔ s.data.toList ∈ ss := by
  unfold txt
  rw [List.mem_map]
  constructor
  · rintro ⟨b, hb, rfl⟩; simpa using hb
  · intro h; exact ⟨_, h, by simp⟩
theorem mem_bts {zs : List ByteArray} {s : ByteArray} : s.data.toList ∈ bts zs ↔ s ∈ zs := by
  rw [← mem_txt, txt_bts]
theorem mem_zones (zs : List ByteArray) (s : ByteArray) : s ∈ compL (sortL zs) ↔ s ∈ zs := by
  unfold compL
  rw [mem_txt, mem_compact, mem_bts]
  unfold sortL
  rw [mem_txt, (List.mergeSort_perm _ _).mem_iff, mem_bts]
end Go.Proofs.Ytcfgffkjbkpfhaa.SortS
