/- Texts in order, each once: what the library sorts and compacts, and what an insertion does. Plain. -/
import Derived.Test.YtcfgffkjbkpfhaaSortS
namespace Go.Proofs.Ytcfgffkjbkpfhaa.SortS
open Go.RowKit Go.Sort Go.Proofs.Ytcfgffkjbkpfhaa.Mem
set_option linter.unusedVariables false
set_option linter.unusedSimpArgs false
def ltS (a b : ByteArray) : Prop := a.data.toList < b.data.toList
theorem ltS_irrefl (a : ByteArray) : ¬ ltS a a := List.lt_irrefl _
theorem ltS_trans {a b c : ByteArray} (h : ltS a b) (k : ltS b c) : ltS a c := List.lt_trans h k
theorem ltS_tri (a b : ByteArray) : ltS a b ∨ a = b ∨ ltS b a := by
  by_cases h : a.data.toList < b.data.toList
  · exact .inl h
  · by_cases k : b.data.toList < a.data.toList
    · exact .inr (.inr k)
    · refine .inr (.inl ?_)
      have e := List.le_antisymm (List.not_lt.1 k) (List.not_lt.1 h)
      obtain ⟨⟨a⟩⟩ := a
      obtain ⟨⟨b⟩⟩ := b
      simp at e
      rw [e]
/-- Rising, each once. -/
def Rises (l : List ByteArray) : Prop := l.Pairwise ltS
theorem rises_unique : ∀ {l r : List ByteArray}, Rises l → Rises r → (∀ s, s ∈ l ↔ s ∈ r) → l = r
  | [], [], _, _, _ => rfl
  | [], b :: r, _, _, h => by have := (h b).2 (by simp); cases this
  | a :: l, [], _, _, h => by have := (h a).1 (by simp); cases this
  | a :: l, b :: r, h1, h2, h => by
    have h1' := List.pairwise_cons.1 h1
    have h2' := List.pairwise_cons.1 h2
    have hab : a = b := by
      rcases List.mem_cons.1 ((h a).1 (by simp)) with e | ha
      · exact e
      · rcases List.mem_cons.1 ((h b).2 (by simp)) with e | hb
        · exact e.symm
        · exact absurd (ltS_trans (h1'.1 b hb) (h2'.1 a ha)) (ltS_irrefl _)
    subst hab
    congr 1
    refine rises_unique h1'.2 h2'.2 fun s => ⟨fun hs => ?_, fun hs => ?_⟩
    · rcases List.mem_cons.1 ((h s).1 (by simp [hs])) with e | hh
      · exact absurd (e ▸ h1'.1 s hs) (ltS_irrefl _)
      · exact hh
    · rcases List.mem_cons.1 ((h s).2 (by simp [hs])) with e | hh
      · exact absurd (e ▸ h2'.1 s hs) (ltS_irrefl _)
      · exact hh
theorem leB_trans (a b c : List UInt8) (h : leB a b = true) (k : leB b c = true) : leB a c = true := by
  simp only [leB, decide_eq_true_eq] at *
  exact List.le_trans h k
theorem leB_total (a b : List UInt8) : (leB a b || leB b a) = true := by
  simp only [leB, Bool.or_eq_true, decide_eq_true_eq]
  exact List.le_total a b
/-- What is sorted and compacted rises. -/
theorem rises_zones (zs : List ByteArray) : Rises (compL (sortL zs)) := by
  have hs : ((bts zs).mergeSort leB).Pairwise (fun a b => leB a b = true) := List.pairwise_mergeSort leB_trans leB_total _
  unfold Rises compL sortL
  rw [bts_txt]
  generalize (bts zs).mergeSort leB = d at hs
  unfold txt
  rw [List.pairwise_map]
  show (Lib.compact d).Pairwise (fun a b => (⟨a.toArray⟩ : ByteArray).data.toList < (⟨b.toArray⟩ : ByteArray).data.toList)
  simp only [List.toList_toArray]
  unfold Lib.compact Lib.compactUpTo
  rw [List.pairwise_map]
  have hr : ((List.range d.length).filter (Lib.keeps d.toArray)).Pairwise (fun i j => i < j) := (List.pairwise_lt_range).filter _
  refine (List.Pairwise.and_mem.1 hr).imp ?_
  rintro i j ⟨hi, hj, hij⟩
  have hj1 := List.mem_filter.1 hj
  have hjl : j < d.length := List.mem_range.1 hj1.1
  have hk := hj1.2
  unfold Lib.keeps at hk
  rw [decide_eq_true_eq] at hk
  have hne : d.toArray[j]! ≠ d.toArray[j - 1]! := by
    rcases hk with h | h
    · omega
    · exact h
  have hg := List.pairwise_iff_getElem.1 hs
  have e1 : ∀ k (hk : k < d.length), d.toArray[k]! = d[k] := fun k hk => by
    rw [getElem!_pos d.toArray k (by simpa using hk)]; simp
  rw [e1 j hjl, e1 (j - 1) (by omega)] at hne
  rw [e1 j hjl, e1 i (by omega)]
  have h1 : d[j - 1] ≤ d[j] := by have := hg (j - 1) j (by omega) hjl (by omega); simpa [leB] using this
  have h2 : d[i] ≤ d[j - 1] := by
    by_cases e : i = j - 1
    · subst e; exact List.le_refl _
    · have := hg i (j - 1) (by omega) (by omega) (by omega); simpa [leB] using this
  have h3 : d[i] ≤ d[j] := List.le_trans h2 h1
  by_cases hlt : d[i] < d[j]
  · exact hlt
  · exact absurd (List.le_antisymm h1 (List.le_trans (List.not_lt.1 hlt) h2)).symm hne
/-- s put in at its place. -/
theorem rises_insert {l : List ByteArray} {s : ByteArray} {k : Nat} (h : Rises l) (hk : k ≤ l.length) (h1 : ∀ (j : Nat) (hj : j < l.length), k ≤ j → ltS s l[j]) (h2 : ∀ (hk0 : 0 < k), ltS (l[k - 1]'(by omega)) s) :
    Rises (l.take k ++ [s] ++ l.drop k) ∧ ∀ x, x ∈ l.take k ++ [s] ++ l.drop k ↔ x ∈ l ∨ x = s := by
  have hg := List.pairwise_iff_getElem.1 h
  have hT : ∀ a ∈ l.take k, ltS a s := fun a ha => by
    obtain ⟨i, hi, rfl⟩ := List.getElem_of_mem ha
    rw [List.length_take] at hi
    rw [List.getElem_take]
    by_cases e : i = k - 1
    · subst e; exact h2 (by omega)
    · exact ltS_trans (hg i (k - 1) (by omega) (by omega) (by omega)) (h2 (by omega))
  have hD : ∀ b ∈ l.drop k, ltS s b := fun b hb => by
    obtain ⟨i, hi, rfl⟩ := List.getElem_of_mem hb
    rw [List.length_drop] at hi
    rw [List.getElem_drop]
    exact h1 (k + i) (by omega) (by omega)
  refine ⟨?_, fun x => ?_⟩
  · unfold Rises
    rw [List.append_assoc, List.pairwise_append]
    refine ⟨h.sublist (List.take_sublist _ _), ?_, fun a ha b hb => ?_⟩
    · rw [List.singleton_append, List.pairwise_cons]
      exact ⟨hD, h.sublist (List.drop_sublist _ _)⟩
    · rcases List.mem_append.1 hb with hb | hb
      · rw [List.mem_singleton.1 hb]; exact hT a ha
      · exact ltS_trans (hT a ha) (hD b hb)
  · rw [List.mem_append, List.mem_append, List.mem_singleton]
    constructor
    · rintro ((h | h) | h)
      · exact .inl (List.mem_of_mem_take h)
      · exact .inr h
      · exact .inl (List.mem_of_mem_drop h)
    · rintro (h | h)
      · rw [← List.take_append_drop k l] at h
        rcases List.mem_append.1 h with h | h
        · exact .inl (.inl h)
        · exact .inr h
      · exact .inl (.inr h)
end Go.Proofs.Ytcfgffkjbkpfhaa.SortS
