/- The law PickRight: plain part, walk. -/
import Derived.Test.YtcfgffkjbkpfhaaCand10
namespace Go.Proofs.Ytcfgffkjbkpfhaa.Cand
open Go.RowKit Go.Proofs.Ytcfgffkjbkpfhaa.Mem Go.Proofs.Ytcfgffkjbkpfhaa.Num Go.Proofs.Ytcfgffkjbkpfhaa.Key
open Go.Proofs.Ytcfgffkjbkpfhaa.Addr hiding below_allocd
set_option linter.unusedVariables false
set_option linter.unusedSimpArgs false
set_option maxRecDepth 100000
attribute [-go_sem] Builtin.append_ loadCells loadCellsFrom storeCells run_eql_struct
/-- Is anyone ready of those that count? -/
def anyR (loc : Bool) (xs : List Cd) : Bool := xs.any (fun x => x.rdy && (x.loc || !loc))
theorem usable_mem {xs : List Cd} {x : Cd} (h : x ∈ usableL xs) : x ∈ xs ∧ (x.rdy = true ∨ (x.rdy = false ∧ rdyL xs = [] ∧ x.srv = true ∧ x.trm = true)) := by
  unfold usableL at h
  split at h
  · have := List.mem_filter.1 h
    exact ⟨this.1, .inl this.2⟩
  · rename_i h0
    have hn : rdyL xs = [] := List.eq_nil_of_length_eq_zero (by omega)
    have h1 := List.mem_filter.1 h
    simp only [Bool.and_eq_true] at h1
    refine ⟨h1.1, ?_⟩
    cases hr : x.rdy
    · exact .inr ⟨rfl, hn, h1.2⟩
    · exact .inl rfl
theorem rdy_nil {xs : List Cd} (h : rdyL xs = []) : xs.any (fun x => x.rdy) = false := by
  rw [List.any_eq_false]
  intro x hx hr
  have : x ∈ rdyL xs := List.mem_filter.2 ⟨hx, hr⟩
  rw [h] at this
  cases this
theorem filterL_mem {s : ByteArray} {z : Cd → List ByteArray} {xs : List Cd} {x : Cd} (h : x ∈ filterL s z xs) : x ∈ xs ∧ x.rdy = true := by
  unfold filterL at h
  split at h
  · exact List.mem_filter.1 (List.mem_filter.1 h).1
  · exact List.mem_filter.1 h
/-- What is said of each that is chosen. -/
theorem choose_each {loc hint : Bool} {zone : ByteArray} {z : Cd → List ByteArray} {xs : List Cd} {x : Cd} (h : x ∈ chooseL loc hint zone z xs) :
    x ∈ xs ∧ (loc = true → x.loc = true) ∧ (x.rdy = true ∨ (x.rdy = false ∧ anyR loc xs = false ∧ x.srv = true ∧ x.trm = true)) := by
  unfold chooseL at h
  split at h
  · rename_i hl
    obtain ⟨h1, h2⟩ := usable_mem h
    have h3 := List.mem_filter.1 h1
    refine ⟨h3.1, fun _ => h3.2, ?_⟩
    rcases h2 with h2 | ⟨h2, h4, h5⟩
    · exact .inl h2
    · refine .inr ⟨h2, ?_, h5⟩
      have := rdy_nil h4
      unfold anyR
      rw [hl, List.any_eq_false]
      intro y hy hr
      simp only [Bool.not_true, Bool.or_false, Bool.and_eq_true] at hr
      rw [List.any_eq_false] at this
      exact this y (List.mem_filter.2 ⟨hy, hr.2⟩) hr.1
  · rename_i hl
    split at h
    · obtain ⟨h1, h2⟩ := filterL_mem h
      exact ⟨h1, fun e => absurd e hl, .inl h2⟩
    · obtain ⟨h1, h2⟩ := usable_mem h
      refine ⟨h1, fun e => absurd e hl, ?_⟩
      rcases h2 with h2 | ⟨h2, h4, h5⟩
      · exact .inl h2
      · refine .inr ⟨h2, ?_, h5⟩
        have := rdy_nil h4
        unfold anyR
        rw [Bool.eq_false_iff.2 hl]
        simpa using this
theorem count_some {s : ByteArray} {z : Cd → List ByteArray} {xs : List Cd} (h : countB s z xs = true) : (rdyL xs).filter (fun x => memS s (z x)) ≠ [] := by
  unfold countB at h
  simp only [Bool.and_eq_true, List.any_eq_true] at h
  obtain ⟨_, _, x, hx, hm⟩ := h
  intro e
  have : x ∈ (rdyL xs).filter (fun x => memS s (z x)) := List.mem_filter.2 ⟨hx, hm⟩
  rw [e] at this
  cases this
theorem filterL_some {s : ByteArray} {z : Cd → List ByteArray} {xs : List Cd} (h : rdyL xs ≠ []) : filterL s z xs ≠ [] := by
  unfold filterL
  split
  · exact count_some (by assumption)
  · exact h
theorem usable_some {xs : List Cd} (h : rdyL xs ≠ []) : usableL xs ≠ [] := by
  unfold usableL
  rw [if_pos (List.length_pos_iff.2 h)]
  exact h
theorem choose_some {loc hint : Bool} {zone : ByteArray} {z : Cd → List ByteArray} {xs : List Cd} (h : anyR loc xs = true) : chooseL loc hint zone z xs ≠ [] := by
  unfold anyR at h
  rw [List.any_eq_true] at h
  obtain ⟨x, hx, hr⟩ := h
  simp only [Bool.and_eq_true] at hr
  have hm : ∀ ys : List Cd, x ∈ ys → rdyL ys ≠ [] := fun ys hy e => by
    have : x ∈ rdyL ys := List.mem_filter.2 ⟨hy, hr.1⟩
    rw [e] at this
    cases this
  unfold chooseL
  split
  · rename_i hl
    have h2 := hr.2
    rw [hl] at h2
    exact usable_some (hm _ (List.mem_filter.2 ⟨hx, by simpa using h2⟩))
  · split
    · exact filterL_some (hm _ hx)
    · exact usable_some (hm _ hx)
theorem choose_len (loc hint : Bool) (zone : ByteArray) (z : Cd → List ByteArray) (xs : List Cd) : (chooseL loc hint zone z xs).length ≤ xs.length := by
  have hu : ∀ ys : List Cd, (usableL ys).length ≤ ys.length := fun ys => by
    unfold usableL
    split <;> exact List.length_filter_le _ _
  unfold chooseL
  split
  · exact Nat.le_trans (hu _) (List.length_filter_le _ _)
  · split
    · unfold filterL
      split
      · exact Nat.le_trans (List.length_filter_le _ _) (List.length_filter_le _ _)
      · exact List.length_filter_le _ _
    · exact hu _
theorem same_refl (x : Cd) (l : List ByteArray) : sameB x x l l = true := by
  unfold sameB flagB ptB
  rw [eqS_refl]
  simp
end Go.Proofs.Ytcfgffkjbkpfhaa.Cand
