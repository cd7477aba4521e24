/- strings.ToLower ahead of the figures: at every text. -/
import Derived.Test.YtmcgkknpkocgoaaGreatDoorAdP
import Derived.Shelf.Strings.CaseAny
namespace Go.Proofs.YtmcgkknpkocgoaaGreatDoor.AdP
open Go.Lib
set_option linter.unusedVariables false
set_option linter.unusedSimpArgs false
theorem lookupIdx_spec (T : Array CaseRow) (r : Int) : ∀ (f lo hi i : Nat), lookupIdx T r f lo hi = some i → i < hi ∧ ((T.getD i (0, 0, 0, 0, 0)).1 : Int) ≤ r ∧ r ≤ ((T.getD i (0, 0, 0, 0, 0)).2.1 : Int)
  | 0, lo, hi, i, h => by simp [lookupIdx] at h
  | f + 1, lo, hi, i, h => by
    unfold lookupIdx at h
    by_cases h1 : lo < hi
    · rw [if_pos h1] at h
      by_cases h2 : ((T.getD ((lo + hi) / 2) (0, 0, 0, 0, 0)).1 : Int) ≤ r ∧ r ≤ ((T.getD ((lo + hi) / 2) (0, 0, 0, 0, 0)).2.1 : Int)
      · rw [if_pos h2] at h
        injection h with h
        subst h
        exact ⟨by omega, h2.1, h2.2⟩
      · rw [if_neg h2] at h
        by_cases h3 : r < ((T.getD ((lo + hi) / 2) (0, 0, 0, 0, 0)).1 : Int)
        · rw [if_pos h3] at h
          have := lookupIdx_spec T r f _ _ i h
          exact ⟨by omega, this.2⟩
        · rw [if_neg h3] at h
          exact lookupIdx_spec T r f _ _ i h
    · rw [if_neg h1] at h
      cases h
def rowFine (x : CaseRow) : Bool := decide (x.2.1 < 128) || (decide (1114111 < x.2.2.2.1) && decide (128 ≤ x.1)) || (decide (x.2.2.2.1 ≤ 1114111) && (decide (128 ≤ (x.1 : Int) + x.2.2.2.1) || (decide (x.1 = x.2.1) && (decide ((x.1 : Int) + x.2.2.2.1 = 105) || decide ((x.1 : Int) + x.2.2.2.1 = 107)))))
theorem rows_fine : caseT.all rowFine = true := by decide +kernel
/-- What stands behind a byte of a letter that isn't among the first 128. -/
def Bad (x : Int) : Prop := 128 ≤ x ∨ x = 105 ∨ x = 107
theorem lower_bad (r : Nat) (h : 128 ≤ r) : Bad (toLowerU r) := by
  unfold toLowerU
  rw [if_neg (by omega)]
  unfold toR lookupGo
  cases hl : lookupIdx caseA (r : Int) (caseA.size + 1) 0 caseA.size with
  | none => exact .inl (by simp; omega)
  | some i =>
    simp only [Option.map_some]
    obtain ⟨hi, h1, h2⟩ := lookupIdx_spec _ _ _ _ _ _ hl
    have hm : caseA.getD i (0, 0, 0, 0, 0) ∈ caseT := by
      have : caseA.getD i (0, 0, 0, 0, 0) = caseT[i]'(by simpa [caseA] using hi) := by
        rw [Array.getD_eq_getD_getElem?, Array.getElem?_eq_getElem hi]; simp [caseA]
      rw [this]; exact List.getElem_mem _
    have hf := List.all_eq_true.1 rows_fine _ hm
    generalize caseA.getD i (0, 0, 0, 0, 0) = x at h1 h2 hf
    unfold rowFine at hf
    simp only [Bool.or_eq_true, Bool.and_eq_true, decide_eq_true_eq] at hf
    unfold convertR CaseRow.delta Bad
    simp only
    split
    · have hm : 0 ≤ ((r : Int) - x.1) % 2 ∧ ((r : Int) - x.1) % 2 < 2 := ⟨Int.emod_nonneg _ (by decide), Int.emod_lt_of_pos _ (by decide)⟩
      omega
    · omega
theorem enc_bad (x : Int) (h : Bad x) : ∃ c ∈ encodeRune x, hx c < 0 := by
  have hb : ∀ n : Nat, 128 ≤ n → n < 256 → hx (n.toUInt8) < 0 := by
    intro n h1 h2
    rw [hx_eq]
    have : n.toUInt8.toNat = n := UInt8.toNat_ofNat_of_lt' (by simpa using h2)
    unfold fig
    rw [this]
    simp
    omega
  rcases h with h | rfl | rfl
  · have h3 := encodeRuneZ_byte x
    unfold encodeRune
    have hne : encodeRuneZ x ≠ [] := by have := encodeRuneZ_length x; intro e; simp [e] at this
    have hall : ∀ y ∈ encodeRuneZ x, 128 ≤ y := by
      unfold encodeRuneZ
      rw [if_neg (by omega)]
      split
      · intro y hy; simp at hy; omega
      · split
        · intro y hy; simp at hy; omega
        · split
          · intro y hy; simp at hy; omega
          · intro y hy; simp at hy; omega
    cases he : encodeRuneZ x with
    | nil => exact absurd he hne
    | cons y r =>
      have h4 := h3 y (by rw [he]; simp)
      have h5 := hall y (by rw [he]; simp)
      exact ⟨y.toNat.toUInt8, by simp, hb _ (by omega) (by omega)⟩
  · exact ⟨105, by decide, by decide⟩
  · exact ⟨107, by decide, by decide⟩
theorem decode_high (l : List UInt8) (b : UInt8) (h : 128 ≤ b.toNat) : 128 ≤ (decodeL (b :: l)).1 := by
  rw [decodeL_N]
  unfold decodeN
  simp only [List.getD_cons_zero, List.getElem_cons_zero, List.head?_cons, Option.getD_some]
  rw [if_neg (by simpa using h)]
  repeat' split
  all_goals first | omega | simp
theorem map_bad : ∀ (n : Nat) (l : List UInt8), l.length ≤ n → (∃ b ∈ l, 128 ≤ b.toNat) → ∃ c ∈ mapD toLowerU l, hx c < 0
  | 0, l, hl, h => by
    have : l = [] := List.eq_nil_of_length_eq_zero (by omega)
    subst this
    simp at h
  | n + 1, [], hl, h => by simp at h
  | n + 1, b :: l, hl, h => by
    rw [mapD_step toLowerU (b :: l) (by simp)]
    by_cases hb : b.toNat < 128
    · rw [decodeL_ascii b l hb]
      obtain ⟨c, hc, h⟩ := h
      rcases List.mem_cons.1 hc with rfl | hc
      · omega
      · obtain ⟨d, hd, h2⟩ := map_bad n l (by simpa using hl) ⟨c, hc, h⟩
        exact ⟨d, by simp [hd], h2⟩
    · have h1 := lower_bad (decodeL (b :: l)).1 (decode_high l b (by omega))
      rw [if_pos (by unfold Bad at h1; omega)]
      obtain ⟨c, hc, h2⟩ := enc_bad _ h1
      exact ⟨c, by simp [hc], h2⟩
theorem fig_high (c : UInt8) (h : 128 ≤ c.toNat) : fig c < 0 := by
  unfold fig
  rw [if_neg (by omega), if_neg (by omega), if_neg (by omega)]
  decide
theorem hexL_lower (s : List UInt8) : hexL 0 (toLowerD s) = numL 16 0 s := by
  by_cases h : ∀ b ∈ s, b.toNat < 128
  · rw [toLowerD_ascii s h]; exact hexL_low s 0
  · have h : ∃ b ∈ s, 128 ≤ b.toNat := by
      obtain ⟨b, hb⟩ := Classical.not_forall.1 h
      obtain ⟨h1, h2⟩ := Classical.not_imp.1 hb
      exact ⟨b, h1, by omega⟩
    unfold toLowerD
    rw [numL_bad 16 s 0 (by obtain ⟨b, h1, h2⟩ := h; exact ⟨b, h1, .inl (fig_high b h2)⟩), hexL_bad _ _ (map_bad s.length s (Nat.le_refl _) h)]
theorem enc_bad0 (x : Int) (h : Bad x) : ∃ c, (encodeRune x)[0]? = some c ∧ hx c < 0 := by
  rcases h with h | rfl | rfl
  · have h3 := encodeRuneZ_byte x
    unfold encodeRune
    have hne : encodeRuneZ x ≠ [] := by have := encodeRuneZ_length x; intro e; simp [e] at this
    have hall : ∀ y ∈ encodeRuneZ x, 128 ≤ y := by
      unfold encodeRuneZ
      rw [if_neg (by omega)]
      split
      · intro y hy; simp at hy; omega
      · split
        · intro y hy; simp at hy; omega
        · split
          · intro y hy; simp at hy; omega
          · intro y hy; simp at hy; omega
    cases he : encodeRuneZ x with
    | nil => exact absurd he hne
    | cons y r =>
      have h4 := h3 y (by rw [he]; simp)
      have h5 := hall y (by rw [he]; simp)
      refine ⟨y.toNat.toUInt8, by simp, ?_⟩
      rw [hx_eq]
      have : y.toNat.toUInt8.toNat = y.toNat := UInt8.toNat_ofNat_of_lt' (by show y.toNat < 256; omega)
      unfold fig
      rw [this]
      simp
      omega
  · exact ⟨105, by decide, by decide⟩
  · exact ⟨107, by decide, by decide⟩
/-- .. and it comes no later than the first such byte of the text. -/
theorem map_bad_at : ∀ (n : Nat) (l : List UInt8), l.length ≤ n → (∃ b ∈ l, 128 ≤ b.toNat) → ∃ (j : Nat) (c : UInt8), j < l.length ∧ (mapD toLowerU l)[j]? = some c ∧ hx c < 0
  | 0, l, hl, h => by
    have : l = [] := List.eq_nil_of_length_eq_zero (by omega)
    subst this
    simp at h
  | n + 1, [], hl, h => by simp at h
  | n + 1, b :: l, hl, h => by
    rw [mapD_step toLowerU (b :: l) (by simp)]
    by_cases hb : b.toNat < 128
    · rw [decodeL_ascii b l hb]
      obtain ⟨c, hc, h⟩ := h
      rcases List.mem_cons.1 hc with rfl | hc
      · omega
      · obtain ⟨j, d, hj, hd, h2⟩ := map_bad_at n l (by simpa using hl) ⟨c, hc, h⟩
        have hr : 0 ≤ toLowerU (b.toNat : Int) ∧ toLowerU (b.toNat : Int) ≤ 127 := by
          unfold toLowerU
          rw [if_pos (by omega)]
          split <;> omega
        have he : (encodeRune (toLowerU (b.toNat : Int))).length = 1 := by unfold encodeRune; rw [encodeRuneZ_one hr.1 hr.2]; rfl
        refine ⟨j + 1, d, by simp; omega, ?_, h2⟩
        rw [if_pos (by simpa using hr.1), List.getElem?_append_right (by simp [he]), show ∀ x : List UInt8, x.length = 1 → j + 1 - x.length = j by omega]
        · simpa using hd
        · exact he
    · have h1 := lower_bad (decodeL (b :: l)).1 (decode_high l b (by omega))
      rw [if_pos (by unfold Bad at h1; omega)]
      obtain ⟨c, hc, h2⟩ := enc_bad0 _ h1
      exact ⟨0, c, by simp, by rw [List.getElem?_append_left (by exact (List.getElem?_eq_some_iff.1 hc).1)]; exact hc, h2⟩
/-- Of a text of four bytes no more than four figures are read, whatever it becomes. -/
theorem lower_short (s : List UInt8) (k : Nat) (hk : k ≤ (toLowerD s).length) (h : ∀ (j : Nat) (c : UInt8), j < k → (toLowerD s)[j]? = some c → 0 ≤ hx c) : k ≤ s.length := by
  by_cases ha : ∀ b ∈ s, b.toNat < 128
  · rw [toLowerD_ascii s ha] at hk
    simpa [toLowerA] using hk
  · have ha : ∃ b ∈ s, 128 ≤ b.toNat := by
      obtain ⟨b, hb⟩ := Classical.not_forall.1 ha
      obtain ⟨h1, h2⟩ := Classical.not_imp.1 hb
      exact ⟨b, h1, by omega⟩
    obtain ⟨j, c, h1, h2, h3⟩ := map_bad_at s.length s (Nat.le_refl _) ha
    by_cases hjk : j < k
    · have := h j c hjk h2; omega
    · omega
end Go.Proofs.YtmcgkknpkocgoaaGreatDoor.AdP
