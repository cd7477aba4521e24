/- Addresses' texts, plainly: parts between a byte, figures, groups, rows; what the library's words come to. -/
import Derived.Lib.SplitLaws
import Derived.Lib.MapLaws
import Derived.Lib.TrimAscii
import Derived.Lib.Case
import Derived.Lib.CutLaws
import Derived.Lib.RuneBytes
namespace Go.Proofs.YtmcgkknpkocgoaaGreatDoor.AdP
open Go.Lib
set_option linter.unusedVariables false
set_option linter.unusedSimpArgs false
/-- The parts between a byte. -/
def parts (c : UInt8) : List UInt8 → List (List UInt8)
  | [] => [[]]
  | b :: l => if b = c then [] :: parts c l else match parts c l with
    | [] => [[b]]
    | x :: r => (b :: x) :: r
theorem parts_pos (c : UInt8) (l : List UInt8) : 0 < (parts c l).length := by
  cases l with
  | nil => simp [parts]
  | cons b l =>
    unfold parts
    split
    · simp
    · split <;> simp
theorem parts_ne (c : UInt8) (l : List UInt8) : parts c l ≠ [] := fun h => by
  have := parts_pos c l
  simp [h] at this
/-- A byte behind the last part. -/
def grow : List (List UInt8) → UInt8 → List (List UInt8)
  | [], b => [[b]]
  | [x], b => [x ++ [b]]
  | x :: y :: r, b => x :: grow (y :: r) b
theorem grow_cons (x : List UInt8) (l : List (List UInt8)) (b : UInt8) (h : l ≠ []) : grow (x :: l) b = x :: grow l b := by
  cases l with
  | nil => exact absurd rfl h
  | cons y r => rfl
theorem grow_ne (l : List (List UInt8)) (b : UInt8) : grow l b ≠ [] := by
  cases l with
  | nil => simp [grow]
  | cons x l => cases l <;> simp [grow]
theorem parts_snoc (c b : UInt8) (l : List UInt8) : parts c (l ++ [b]) = if b = c then parts c l ++ [[]] else grow (parts c l) b := by
  induction l with
  | nil => simp only [List.nil_append, parts]; split <;> rfl
  | cons a l ih =>
    rw [List.cons_append, parts, ih]
    by_cases ha : a = c
    · rw [if_pos ha]
      conv => rhs; rw [show parts c (a :: l) = [] :: parts c l by rw [parts, if_pos ha]]
      split
      · rfl
      · rw [grow_cons _ _ _ (parts_ne c l)]
    · rw [if_neg ha]
      have e : parts c (a :: l) = match parts c l with | [] => [[a]] | x :: r => (a :: x) :: r := by rw [parts, if_neg ha]
      rw [e]
      have hp := parts_ne c l
      cases hpl : parts c l with
      | nil => exact absurd hpl hp
      | cons x r =>
        dsimp only
        by_cases hb : b = c
        · rw [if_pos hb, if_pos hb]; rfl
        · rw [if_neg hb, if_neg hb]
          cases r with
          | nil => rfl
          | cons y r => rfl
theorem index_cons_one (c b : UInt8) (l : List UInt8) : index (b :: l) [c] = if c = b then 0 else if index l [c] = -1 then -1 else index l [c] + 1 := by
  rw [index]
  by_cases h : c = b
  · simp [List.isPrefixOf, h]
  · simp [List.isPrefixOf, h]
/-- strings.Split at one byte. -/
theorem split_one (c : UInt8) (l : List UInt8) : split l [c] = parts c l := by
  unfold split
  induction l with
  | nil => rw [count_one]; rfl
  | cons b l ih =>
    rw [count_one] at ih ⊢
    by_cases h : b = c
    · subst h
      have hi : index (b :: l) [b] = 0 := by rw [index_cons_one, if_pos rfl]
      rw [List.count_cons_self, splitK, hi]
      simp only [parts, if_pos rfl]
      simp [ih]
    · have hbc : ¬ c = b := fun e => h e.symm
      rw [List.count_cons_of_ne (by simpa using h)]
      have e : parts c (b :: l) = match parts c l with | [] => [[b]] | x :: r => (b :: x) :: r := by rw [parts, if_neg h]
      rw [e, ← ih]
      cases hk : l.count c with
      | zero => rfl
      | succ k =>
        rw [splitK, splitK, index_cons_one, if_neg hbc]
        have hge := index_ge l [c]
        by_cases hm : index l [c] = -1
        · simp [hm]
        · have hm1 : ¬ index l [c] + 1 = -1 := by omega
          simp only [hm, hm1, if_false, beq_iff_eq]
          have ht : (index l [c] + 1).toNat = (index l [c]).toNat + 1 := by omega
          simp [ht, Nat.add_assoc]
/-- A figure's number. -/
def fig (c : UInt8) : Int := if 48 ≤ c.toNat ∧ c.toNat ≤ 57 then (c.toNat : Int) - 48 else if 97 ≤ c.toNat ∧ c.toNat ≤ 102 then (c.toNat : Int) - 97 + 10 else if 65 ≤ c.toNat ∧ c.toNat ≤ 70 then (c.toNat : Int) - 65 + 10 else -1
theorem fig_range (c : UInt8) : -1 ≤ fig c ∧ fig c < 16 := by
  unfold fig
  split
  · omega
  · split
    · omega
    · split <;> omega
def numL (base : Int) : Int → List UInt8 → Int
  | n, [] => n
  | n, c :: l => if fig c < 0 ∨ base ≤ fig c then -1 else numL base (n * base + fig c) l
/-- A number to a base, of so many figures at most. -/
def number (s : List UInt8) (base : Int) (most : Nat) : Int := if s.length < 1 ∨ most < s.length then -1 else numL base 0 s
theorem numL_snoc (base : Int) (l : List UInt8) (c : UInt8) : ∀ n, 0 ≤ n → 0 ≤ base → numL base n l = -1 ∧ numL base n (l ++ [c]) = -1 ∨ 0 ≤ numL base n l ∧ numL base n (l ++ [c]) = if fig c < 0 ∨ base ≤ fig c then -1 else numL base n l * base + fig c := by
  induction l with
  | nil => intro n hn hb; exact .inr ⟨hn, by simp [numL]⟩
  | cons a l ih =>
    intro n hn hb
    rw [List.cons_append]
    simp only [numL]
    by_cases h : fig a < 0 ∨ base ≤ fig a
    · rw [if_pos h, if_pos h]; exact .inl ⟨rfl, rfl⟩
    · rw [if_neg h, if_neg h]
      exact ih _ (Int.add_nonneg (Int.mul_nonneg hn hb) (by omega)) hb
theorem numL_bad (base : Int) : ∀ (l : List UInt8) (n : Int), (∃ c ∈ l, fig c < 0 ∨ base ≤ fig c) → numL base n l = -1
  | [], n, h => by simp at h
  | c :: l, n, h => by
    unfold numL
    by_cases hc : fig c < 0 ∨ base ≤ fig c
    · rw [if_pos hc]
    · rw [if_neg hc]
      obtain ⟨d, hd, h⟩ := h
      rcases List.mem_cons.1 hd with rfl | hd
      · exact absurd h hc
      · exact numL_bad base l _ ⟨d, hd, h⟩
/-- The figures of the code: small letters alone. -/
def hexes : List UInt8 := [48, 49, 50, 51, 52, 53, 54, 55, 56, 57, 97, 98, 99, 100, 101, 102]
def hx (c : UInt8) : Int := indexByte hexes c
def hexL : Int → List UInt8 → Int
  | n, [] => n
  | n, c :: l => if hx c < 0 then -1 else hexL (n * 16 + hx c) l
theorem hx_fig : ∀ n : Fin 256, hx (UInt8.ofNat n.1) = if 65 ≤ n.1 ∧ n.1 ≤ 90 then -1 else fig (UInt8.ofNat n.1) := by decide +kernel
theorem hx_eq (c : UInt8) : hx c = if 65 ≤ c.toNat ∧ c.toNat ≤ 90 then -1 else fig c := by
  have := hx_fig ⟨c.toNat, c.toNat_lt⟩
  simpa using this
theorem hx_range (c : UInt8) : -1 ≤ hx c ∧ hx c < 16 := by
  rw [hx_eq]; have := fig_range c; split <;> omega
theorem hexL_bad : ∀ (l : List UInt8) (n : Int), (∃ c ∈ l, hx c < 0) → hexL n l = -1
  | [], n, h => by simp at h
  | c :: l, n, h => by
    unfold hexL
    by_cases hc : hx c < 0
    · rw [if_pos hc]
    · rw [if_neg hc]
      obtain ⟨d, hd, h⟩ := h
      rcases List.mem_cons.1 hd with rfl | hd
      · exact absurd h hc
      · exact hexL_bad l _ ⟨d, hd, h⟩
abbrev low (c : UInt8) : UInt8 := lowerB c
theorem low_fig : ∀ n : Fin 256, hx (low (UInt8.ofNat n.1)) = fig (UInt8.ofNat n.1) := by decide +kernel
theorem low_eq (c : UInt8) : hx (low c) = fig c := by
  have := low_fig ⟨c.toNat, c.toNat_lt⟩
  simpa using this
theorem hexL_low : ∀ (l : List UInt8) (n : Int), hexL n (l.map low) = numL 16 n l
  | [], n => rfl
  | c :: l, n => by
    have := fig_range c
    simp only [List.map_cons, hexL, numL, low_eq, hexL_low l]
    by_cases h : fig c < 0
    · rw [if_pos h, if_pos (.inl h)]
    · rw [if_neg h, if_neg (by omega)]
end Go.Proofs.YtmcgkknpkocgoaaGreatDoor.AdP
