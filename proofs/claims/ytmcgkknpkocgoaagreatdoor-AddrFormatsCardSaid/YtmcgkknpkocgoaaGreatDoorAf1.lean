/- Addresses' texts, plainly: what is formatted is parsed as it was; the document's longest row of noughts. -/
import Derived.Test.YtmcgkknpkocgoaaGreatDoorAdY
import Derived.Test.YtmcgkknpkocgoaaGreatDoorAdM
namespace Go.Proofs.YtmcgkknpkocgoaaGreatDoor.Ad
open Go.RowKit Go.Proofs.YtmcgkknpkocgoaaGreatDoor.Mem Go.Proofs.YtmcgkknpkocgoaaGreatDoor.Num Go.Proofs.YtmcgkknpkocgoaaGreatDoor.Err Go.Proofs.YtmcgkknpkocgoaaGreatDoor.AdP
set_option linter.unusedVariables false
set_option linter.unusedSimpArgs false
set_option maxRecDepth 100000
theorem has_oneF (l : List UInt8) : Lib.contains l [58] = decide (58 ∈ l) := by
  unfold Lib.contains
  rw [Bool.eq_iff_iff, decide_eq_true_iff, decide_eq_true_iff]
  have key : ∀ j, Lib.occAt l [58] j = true ↔ l[j]? = some 58 := by
    intro j
    unfold Lib.occAt
    cases hd : l.drop j with
    | nil =>
      have : l[j]? = none := List.getElem?_eq_none (by have := congrArg List.length hd; rw [List.length_drop] at this; simp at this; omega)
      rw [this]; simp [List.isPrefixOf]
    | cons b r =>
      have : l[j]? = some b := by
        have h := congrArg List.head? hd
        rw [List.head?_drop] at h
        exact h
      rw [this]
      show ((58 : UInt8) == b && true) = true ↔ _
      rw [Bool.and_true, beq_iff_eq]
      exact ⟨fun h => by rw [h], fun h => (Option.some.inj h).symm⟩
  rcases Lib.index_spec l [58] with ⟨h1, h2⟩ | ⟨i, h1, h2, h3, _⟩
  · rw [h1]
    constructor
    · intro h; omega
    · intro h
      obtain ⟨j, hj, he⟩ := List.getElem_of_mem h
      have := (key j).2 (by rw [List.getElem?_eq_getElem hj, he])
      rw [h2 j (by omega)] at this
      cases this
  · rw [h1]
    constructor
    · intro _
      exact List.mem_of_getElem? ((key i).1 h3)
    · intro _; omega
theorem pre2F (x y : UInt8) (r : List UInt8) : ([58, 58] : List UInt8).isPrefixOf (x :: y :: r) = decide (x = 58 ∧ y = 58) := by
  show ((58 : UInt8) == x && ((58 : UInt8) == y && true)) = _
  by_cases hx : x = 58
  · subst hx
    by_cases hy : y = 58
    · subst hy; rfl
    · have e : ((58 : UInt8) == y) = false := beq_eq_false_iff_ne.mpr (fun h => hy h.symm)
      rw [e]; simp [hy]
  · have e : ((58 : UInt8) == x) = false := beq_eq_false_iff_ne.mpr (fun h => hx h.symm)
    rw [e]; simp [hx]
theorem dig_facts : ∀ d : Fin 16, fig (dig d) = (d : Int) ∧ dig d ≠ 58 ∧ dig d ≠ 46 := by decide
theorem dig_fig (d : Nat) (h : d < 16) : fig (dig d) = (d : Int) := (dig_facts ⟨d, h⟩).1
theorem numb_ne (b : Nat) : ∀ (f n : Nat), numb b f n ≠ []
  | 0, n => by simp [numb]
  | f + 1, n => by unfold numb; split <;> simp
theorem numb_mem (b : Nat) (hb : b ≤ 16) (hb0 : 0 < b) : ∀ (f n : Nat), n < b ^ (f + 1) → ∀ c ∈ numb b f n, c ≠ 58 ∧ c ≠ 46
  | 0, n, hn, c, hc => by
    simp only [numb, List.mem_singleton] at hc
    subst hc
    exact (dig_facts ⟨n, by simp at hn; omega⟩).2
  | f + 1, n, hn, c, hc => by
    unfold numb at hc
    split at hc
    · simp only [List.mem_singleton] at hc
      subst hc
      exact (dig_facts ⟨n, by omega⟩).2
    · rcases List.mem_append.1 hc with h | h
      · exact numb_mem b hb hb0 f (n / b) (by rw [Nat.div_lt_iff_lt_mul hb0]; rw [Nat.pow_succ] at hn; exact hn) c h
      · simp only [List.mem_singleton] at h
        subst h
        have := Nat.mod_lt n hb0
        exact (dig_facts ⟨n % b, by omega⟩).2
theorem numb_short (b : Nat) (hb0 : 1 < b) : ∀ (f n k : Nat), n < b ^ (k + 1) → (numb b f n).length ≤ k + 1
  | 0, n, k, h => by simp [numb]
  | f + 1, n, k, h => by
    unfold numb
    split
    · simp
    · rename_i hn
      cases k with
      | zero => simp at h; omega
      | succ k =>
        have := numb_short b hb0 f (n / b) k (by rw [Nat.div_lt_iff_lt_mul (by omega)]; rw [Nat.pow_succ] at h; exact h)
        simp; omega
theorem numb_numL (b : Nat) (hb : b ≤ 16) (hb0 : 1 < b) : ∀ (f n : Nat), n < b ^ (f + 1) → numL (b : Int) 0 (numb b f n) = (n : Int)
  | 0, n, hn => by
    have h : n < b := by simpa using hn
    simp only [numb, numL]
    rw [dig_fig n (by omega), if_neg (by omega)]; omega
  | f + 1, n, hn => by
    unfold numb
    split
    · rename_i h
      simp only [numL]
      rw [dig_fig n (by omega), if_neg (by omega)]; omega
    · have hr := Nat.mod_lt n (show 0 < b by omega)
      have ih := numb_numL b hb hb0 f (n / b) (by rw [Nat.div_lt_iff_lt_mul (by omega)]; rw [Nat.pow_succ] at hn; exact hn)
      rcases numL_snoc (b : Int) (numb b f (n / b)) (dig (n % b)) 0 (by omega) (by omega) with ⟨h1, _⟩ | ⟨_, h2⟩
      · rw [ih] at h1
        have h9 := Int.natCast_nonneg (n / b)
        rw [h1] at h9
        exact absurd h9 (by decide)
      · rw [h2, ih, dig_fig (n % b) (by omega), if_neg (by omega)]
        have hdm : (b : Int) * ((n / b : Nat) : Int) + ((n % b : Nat) : Int) = (n : Int) := by exact_mod_cast Nat.div_add_mod n b
        rw [Int.mul_comm]; exact hdm
theorem parts_self (c : UInt8) : ∀ x : List UInt8, c ∉ x → parts c x = [x]
  | [], _ => rfl
  | a :: x, h => by
    have h1 : a ≠ c := fun e => h (by simp [e])
    rw [parts, if_neg h1, parts_self c x (fun e => h (by simp [e]))]
theorem parts_app (c : UInt8) (l : List UInt8) : ∀ x : List UInt8, c ∉ x → parts c (x ++ c :: l) = x :: parts c l
  | [], _ => by rw [List.nil_append, parts, if_pos rfl]
  | a :: x, h => by
    have h1 : a ≠ c := fun e => h (by simp [e])
    rw [List.cons_append, parts, if_neg h1, parts_app c l x (fun e => h (by simp [e]))]
theorem join_two (x y : List UInt8) (r : List (List UInt8)) (c : UInt8) : Lib.join (x :: y :: r) [c] = x ++ c :: Lib.join (y :: r) [c] := by
  rw [Lib.join_cons x, Lib.join_cons y]
  simp [Lib.joinTail]
theorem parts_join (c : UInt8) : ∀ (xs : List (List UInt8)), xs ≠ [] → (∀ x ∈ xs, c ∉ x) → parts c (Lib.join xs [c]) = xs
  | [], h, _ => absurd rfl h
  | [x], _, h => by rw [Lib.join_one]; exact parts_self c x (h x (by simp))
  | x :: y :: r, _, h => by
    rw [join_two, parts_app c _ x (h x (by simp)), parts_join c (y :: r) (by simp) (fun z hz => h z (by simp at hz ⊢; right; exact hz))]
/-- Of two colons. -/
theorem ix_cons (a : UInt8) (l : List UInt8) : Lib.index (a :: l) [58, 58] = if a = 58 ∧ l.head? = some 58 then 0 else if Lib.index l [58, 58] = -1 then -1 else Lib.index l [58, 58] + 1 := by
  have e : Lib.index (a :: l) [58, 58] = if ([58, 58] : List UInt8).isPrefixOf (a :: l) then 0 else if Lib.index l [58, 58] == -1 then -1 else Lib.index l [58, 58] + 1 := rfl
  rw [e]
  have hp : ([58, 58] : List UInt8).isPrefixOf (a :: l) = decide (a = 58 ∧ l.head? = some 58) := by
    cases l with
    | nil => show ((58 : UInt8) == a && false) = _; simp
    | cons y r => rw [pre2F]; simp
  rw [hp]
  by_cases hc : a = 58 ∧ l.head? = some 58
  · rw [if_pos hc, decide_eq_true hc, if_pos rfl]
  · rw [if_neg hc, decide_eq_false hc]
    simp
theorem ix_not (l r : List UInt8) (h : Lib.index r [58, 58] = -1) : ∀ x : List UInt8, 58 ∉ x → Lib.index (x ++ r) [58, 58] = -1
  | [], _ => h
  | a :: x, hx => by
    have h1 : a ≠ 58 := fun e => hx (by simp [e])
    rw [List.cons_append, ix_cons, if_neg (fun e => h1 e.1), if_pos (ix_not l r h x (fun e => hx (by simp [e])))]
theorem ix_join : ∀ xs : List (List UInt8), (∀ x ∈ xs, 58 ∉ x ∧ x ≠ []) → Lib.index (Lib.join xs [58] ++ [58]) [58, 58] = -1
  | [], _ => by rw [Lib.join_nil]; rfl
  | [x], h => by rw [Lib.join_one]; exact ix_not [] [58] rfl x (h x (by simp)).1
  | x :: y :: r, h => by
    rw [join_two, List.append_assoc]
    refine ix_not [] _ ?_ x (h x (by simp)).1
    have ih := ix_join (y :: r) (fun z hz => h z (by simp at hz ⊢; right; exact hz))
    rw [List.cons_append, ix_cons, if_neg ?_, if_pos ih]
    intro hc
    have hy := h y (by simp)
    cases y with
    | nil => exact hy.2 rfl
    | cons a y =>
      have hh := hc.2
      rw [Lib.join_cons] at hh
      simp at hh
      exact hy.1 (by simp [hh])
theorem ix_less : ∀ l : List UInt8, Lib.index (l ++ [58]) [58, 58] = -1 → Lib.index l [58, 58] = -1
  | [], _ => rfl
  | a :: l, h => by
    rw [List.cons_append, ix_cons] at h
    have hg := Lib.index_ge (l ++ [58]) [58, 58]
    by_cases hc : a = 58 ∧ (l ++ [58]).head? = some 58
    · rw [if_pos hc] at h; omega
    · rw [if_neg hc] at h
      have h2 : Lib.index (l ++ [58]) [58, 58] = -1 := by
        by_cases h3 : Lib.index (l ++ [58]) [58, 58] = -1
        · exact h3
        · rw [if_neg h3] at h; omega
      rw [ix_cons, if_neg ?_, if_pos (ix_less l h2)]
      intro h4
      apply hc
      refine ⟨h4.1, ?_⟩
      cases l with
      | nil => simp
      | cons b l => simpa using h4.2
theorem ix_hole (B : List UInt8) : ∀ A : List UInt8, Lib.index (A ++ [58]) [58, 58] = -1 → Lib.index (A ++ 58 :: 58 :: B) [58, 58] = (A.length : Int)
  | [], _ => by rw [List.nil_append, ix_cons, if_pos ⟨rfl, rfl⟩]; rfl
  | a :: A, h => by
    rw [List.cons_append, ix_cons] at h
    have hg := Lib.index_ge (A ++ [58]) [58, 58]
    by_cases hc : a = 58 ∧ (A ++ [58]).head? = some 58
    · rw [if_pos hc] at h; omega
    · rw [if_neg hc] at h
      have h2 : Lib.index (A ++ [58]) [58, 58] = -1 := by
        by_cases h3 : Lib.index (A ++ [58]) [58, 58] = -1
        · exact h3
        · rw [if_neg h3] at h; omega
      have ih := ix_hole B A h2
      rw [List.cons_append, ix_cons, if_neg ?_, ih, if_neg (by omega)]
      · simp
      · intro h4
        apply hc
        refine ⟨h4.1, ?_⟩
        cases A with
        | nil => simp
        | cons b A => simpa using h4.2
/-- The groups' texts. -/
theorem gtxt_ok (b : List UInt8) (i : Nat) : 58 ∉ gtxt b i ∧ gtxt b i ≠ [] := by
  have hl : grp b i < 16 ^ (20 + 1) := Nat.lt_trans (grp_lt b i) (by decide)
  exact ⟨fun h => (numb_mem 16 (by omega) (by omega) 20 _ hl 58 h).1 rfl, numb_ne _ _ _⟩
theorem gtxt_number (b : List UInt8) (i : Nat) : number (gtxt b i) 16 4 = (grp b i : Int) := by
  have hl : grp b i < 16 ^ (20 + 1) := Nat.lt_trans (grp_lt b i) (by decide)
  have h4 : (gtxt b i).length ≤ 3 + 1 := numb_short 16 (by omega) 20 _ 3 (grp_lt b i)
  have h1 : 0 < (gtxt b i).length := List.length_pos_iff.2 (numb_ne _ _ _)
  unfold number
  rw [if_neg (by omega)]
  exact numb_numL 16 (by omega) (by omega) 20 _ hl
theorem getD_lt (b : List UInt8) (i : Nat) (h : i < b.length) : b.getD i 0 = b[i] := by
  rw [List.getD_eq_getElem?_getD, List.getElem?_eq_getElem h]; rfl
theorem two_grp (b : List UInt8) (i : Nat) : two (grp b i) = [b.getD (2 * i) 0, b.getD (2 * i + 1) 0] := by
  have h1 := (b.getD (2 * i) 0).toNat_lt
  have h2 := (b.getD (2 * i + 1) 0).toNat_lt
  unfold two grp
  have e1 : (((b.getD (2 * i) 0).toNat * 256 + (b.getD (2 * i + 1) 0).toNat : Nat) : Int).toNat / 256 = (b.getD (2 * i) 0).toNat := by omega
  have e2 : (((b.getD (2 * i) 0).toNat * 256 + (b.getD (2 * i + 1) 0).toNat : Nat) : Int).toNat % 256 = (b.getD (2 * i + 1) 0).toNat := by omega
  rw [e1, e2]
  simp
theorem rowL_gtxt (b : List UInt8) : ∀ (k lo : Nat), 2 * (lo + k) ≤ b.length → rowL ((List.range' lo k).map (gtxt b)) = some ((b.drop (2 * lo)).take (2 * k))
  | 0, lo, h => by simp [rowL]
  | k + 1, lo, h => by
    rw [List.range'_succ, List.map_cons, rowL, gtxt_number, if_neg (by omega), rowL_gtxt b k (lo + 1) (by omega), two_grp]
    have d1 : b.drop (2 * lo) = b.getD (2 * lo) 0 :: b.getD (2 * lo + 1) 0 :: b.drop (2 * (lo + 1)) := by
      rw [List.drop_eq_getElem_cons (show 2 * lo < b.length by omega), List.drop_eq_getElem_cons (show 2 * lo + 1 < b.length by omega)]
      rw [getD_lt _ _ (by omega), getD_lt _ _ (by omega)]
      rfl
    rw [d1, show 2 * (k + 1) = 2 * k + 1 + 1 by omega]
    simp
theorem row_texts (b : List UInt8) (lo hi : Nat) (h : 2 * hi ≤ b.length) (hlh : lo ≤ hi) : row (textsL b lo hi) = some ((b.drop (2 * lo)).take (2 * (hi - lo))) := by
  unfold row textsL
  by_cases hk : hi - lo = 0
  · rw [hk]; simp [Lib.join_nil]
  · have hne : (List.range' lo (hi - lo)).map (gtxt b) ≠ [] := by
      intro e
      have := congrArg List.length e
      simp at this; omega
    have hmem : ∀ x ∈ (List.range' lo (hi - lo)).map (gtxt b), 58 ∉ x ∧ x ≠ [] := by
      intro x hx
      obtain ⟨i, _, rfl⟩ := List.mem_map.1 hx
      exact gtxt_ok b i
    rw [if_neg ?_, parts_join 58 _ hne (fun x hx => (hmem x hx).1)]
    · exact rowL_gtxt b (hi - lo) lo (by omega)
    · intro e
      cases hl : (List.range' lo (hi - lo)).map (gtxt b) with
      | nil => exact hne hl
      | cons x r =>
        rw [hl, Lib.join_cons] at e
        have := (hmem x (by rw [hl]; simp)).2
        simp at e
        exact this e.1
theorem texts_ix (b : List UInt8) (lo hi : Nat) : Lib.index (textsL b lo hi ++ [58]) [58, 58] = -1 := by
  refine ix_join _ (fun x hx => ?_)
  obtain ⟨i, _, rfl⟩ := List.mem_map.1 hx
  exact gtxt_ok b i
/-- Rows of noughts. -/
theorem nz_zero (b : List UInt8) : ∀ i, (nz b i).2.2 ≤ i ∧ (nz b i).1 + (nz b i).2.1 ≤ i ∧ (∀ j, i - (nz b i).2.2 ≤ j → j < i → grp b j = 0) ∧ (∀ j, (nz b i).1 ≤ j → j < (nz b i).1 + (nz b i).2.1 → grp b j = 0)
  | 0 => by simp [nz]
  | i + 1 => by
    obtain ⟨h1, h2, h3, h4⟩ := nz_zero b i
    unfold nz
    by_cases hg : grp b i = 0
    · simp only [if_pos hg]
      have hr : ∀ j, i + 1 - ((nz b i).2.2 + 1) ≤ j → j < i + 1 → grp b j = 0 := by
        intro j a c
        by_cases hj : j = i
        · rw [hj]; exact hg
        · exact h3 j (by omega) (by omega)
      split
      · exact ⟨by simp; omega, by simp; omega, hr, fun j a c => hr j (by simpa using a) (by simp at a c; omega)⟩
      · exact ⟨by simp; omega, by simp; omega, hr, h4⟩
    · simp only [if_neg hg]
      rw [if_neg (by omega)]
      exact ⟨by simp, by simp; omega, fun j a c => by simp at a; omega, h4⟩
theorem zero_pair (b : List UInt8) (j : Nat) (h : grp b j = 0) : b.getD (2 * j) 0 = 0 ∧ b.getD (2 * j + 1) 0 = 0 := by
  have t := two_grp b j
  rw [h] at t
  have e : two (0 : Nat) = [0, 0] := rfl
  rw [e] at t
  simp at t
  exact ⟨t.1.symm, t.2.symm⟩
theorem zeros_mid (b : List UInt8) (f m : Nat) (h : 2 * (f + m) ≤ b.length) (hz : ∀ j, f ≤ j → j < f + m → grp b j = 0) : (b.drop (2 * f)).take (2 * m) = List.replicate (2 * m) 0 := by
  apply List.ext_getElem
  · simp; omega
  · intro k h1 h2
    simp at h1
    rw [List.getElem_replicate, List.getElem_take, List.getElem_drop]
    have hj := zero_pair b (f + k / 2) (hz _ (by omega) (by omega))
    rcases Nat.mod_two_eq_zero_or_one k with hm | hm
    · have := hj.1
      rw [getD_lt _ _ (by omega)] at this
      rw [← this]; congr 1; omega
    · have := hj.2
      rw [getD_lt _ _ (by omega)] at this
      rw [← this]; congr 1; omega
theorem coloned_fmt6 (b : List UInt8) (hb : b.length = 16) : coloned (fmt6 b) = some b := by
  obtain ⟨-, hle, -, hz⟩ := nz_zero b 8
  unfold fmt6
  generalize (nz b 8).1 = f at *
  generalize (nz b 8).2.1 = m at *
  split
  · have hi := ix_less _ (texts_ix b 0 8)
    have hc : Lib.cut (textsL b 0 8) [58, 58] = (textsL b 0 8, [], false) := by unfold Lib.cut; rw [hi]; rfl
    have hr := row_texts b 0 8 (by omega) (by omega)
    have hr2 : row [] = some [] := if_pos rfl
    have hne : textsL b 0 8 ≠ [] := by
      intro e
      rw [e, hr2] at hr
      have := congrArg (fun o => (o.getD []).length) hr
      simp at this; omega
    unfold coloned
    rw [hc]
    dsimp only
    rw [hr, hr2]
    dsimp only
    have hlen : (((b.drop (2 * 0)).take (2 * (8 - 0))).length) = 16 := by simp; omega
    rw [if_neg ?_]
    · rw [hlen]
      simp
      exact List.take_of_length_le (by omega)
    · rw [hlen]; simp [hne]
  · rename_i hm
    have hi := ix_hole (textsL b (f + m) 8) (textsL b 0 f) (texts_ix b 0 f)
    have e : textsL b 0 f ++ [58, 58] ++ textsL b (f + m) 8 = textsL b 0 f ++ 58 :: 58 :: textsL b (f + m) 8 := by simp
    rw [e]
    have hc : Lib.cut (textsL b 0 f ++ 58 :: 58 :: textsL b (f + m) 8) [58, 58] = (textsL b 0 f, textsL b (f + m) 8, true) := by
      unfold Lib.cut
      rw [hi, if_pos (by omega)]
      simp
    have hr := row_texts b 0 f (by omega) (by omega)
    have hr2 := row_texts b (f + m) 8 (by omega) (by omega)
    unfold coloned
    rw [hc]
    dsimp only
    rw [hr, hr2]
    dsimp only
    have hl1 : (((b.drop (2 * 0)).take (2 * (f - 0))).length) = 2 * f := by simp; omega
    have hl2 : (((b.drop (2 * (f + m))).take (2 * (8 - (f + m)))).length) = 16 - 2 * (f + m) := by simp; omega
    rw [if_neg ?_]
    · rw [hl1, hl2, show 16 - 2 * f - (16 - 2 * (f + m)) = 2 * m by omega, ← zeros_mid b f m (by omega) hz]
      congr 1
      have e1 : (b.drop (2 * (f + m))).take (2 * (8 - (f + m))) = b.drop (2 * (f + m)) := List.take_of_length_le (by simp; omega)
      rw [e1]
      have e2 : b.drop (2 * (f + m)) = (b.drop (2 * f)).drop (2 * m) := by rw [List.drop_drop]; congr 1; omega
      rw [e2]
      simp only [Nat.mul_zero, List.drop_zero, Nat.sub_zero]
      rw [List.append_assoc, List.take_append_drop, List.take_append_drop]
    · rw [hl1, hl2]
      simp; omega
theorem colon_fmt6 (b : List UInt8) : 58 ∈ fmt6 b := by
  unfold fmt6
  split
  · unfold textsL
    rw [show List.range' 0 (8 - 0) = [0, 1, 2, 3, 4, 5, 6, 7] from rfl]
    rw [List.map_cons, List.map_cons, join_two]
    simp
  · simp
theorem parse_fmt6 (b : List UInt8) (hb : b.length = 16) : parseA (fmt6 b) = some (true, b) := by
  unfold parseA
  rw [if_pos (by rw [has_oneF]; exact decide_eq_true (colon_fmt6 b)), coloned_fmt6 b hb]
  rfl
/-- The text of an address of four bytes. -/
def txt4 (b : List UInt8) : List UInt8 := Lib.join ((b.take 4).map (fun x => numb 10 20 x.toNat)) [46]
theorem numb_dec : ∀ (f n : Nat), n < 10 ^ (f + 1) → numb 10 f n = Lib.decDigits n
  | 0, n, h => by
    have h1 : n < 10 := by simpa using h
    rw [numb, dd_small n h1, dig, if_pos h1]
  | f + 1, n, h => by
    unfold numb
    split
    · rename_i h1
      rw [dd_small n h1, dig, if_pos h1]
    · rename_i h1
      rw [dd_big n h1, numb_dec f (n / 10) (by rw [Nat.div_lt_iff_lt_mul (by decide)]; rw [Nat.pow_succ] at h; exact h), dig, if_pos (by omega)]
theorem decR_numb : ∀ k : Fin 256, decR (numb 10 20 k) = (k : Int) := by decide
theorem decP_numb (x : UInt8) : decP (numb 10 20 x.toNat) = (x.toNat : Int) := by
  rw [dec_eq]; exact decR_numb ⟨x.toNat, x.toNat_lt⟩
theorem dotP_numb : ∀ l : List UInt8, dotP (l.map (fun x => numb 10 20 x.toNat)) = some l
  | [] => rfl
  | x :: l => by
    rw [List.map_cons, dotP, decP_numb, if_neg (by omega), dotP_numb l]
    simp
theorem parse_fmt4 (b : List UInt8) (hb : b.length = 16) (hr : rightA false b = true) : parseA (txt4 b) = some (false, b) := by
  have hmem : ∀ y ∈ (b.take 4).map (fun x => numb 10 20 x.toNat), (∀ c ∈ y, c ≠ 58 ∧ c ≠ 46) := by
    intro y hy
    obtain ⟨x, _, rfl⟩ := List.mem_map.1 hy
    exact numb_mem 10 (by omega) (by omega) 20 _ (Nat.lt_trans x.toNat_lt (by decide))
  have hne : (b.take 4).map (fun x => numb 10 20 x.toNat) ≠ [] := by
    intro e
    have h9 := congrArg List.length e
    rw [List.length_map, List.length_take, hb] at h9
    exact absurd h9 (by decide)
  have hp : parts 46 (txt4 b) = (b.take 4).map (fun x => numb 10 20 x.toNat) := parts_join 46 _ hne (fun y hy h => ((hmem y hy) 46 h).2 rfl)
  have hnc : 58 ∉ txt4 b := by
    intro h
    have hj : ∀ xs : List (List UInt8), (∀ y ∈ xs, 58 ∉ y) → 58 ∉ Lib.join xs [46] := by
      intro xs
      induction xs with
      | nil => intro _; rw [Lib.join_nil]; simp
      | cons x r ih =>
        intro h
        cases r with
        | nil => rw [Lib.join_one]; exact h x (by simp)
        | cons y r =>
          rw [join_two]
          have := ih (fun z hz => h z (by simp at hz ⊢; right; exact hz))
          have hx := h x (by simp)
          simp [hx, this]
    exact hj _ (fun y hy h => ((hmem y hy) 58 h).1 rfl) h
  unfold parseA
  rw [if_neg (by rw [has_oneF]; simp [hnc])]
  unfold dotted
  rw [hp, if_pos (by simp; omega), dotP_numb]
  simp only [Option.map_some]
  congr 2
  have hz : ∀ x ∈ b.drop 4, x = 0 := by
    unfold rightA at hr
    simpa using hr
  have : b.drop 4 = List.replicate 12 0 := List.eq_replicate_iff.2 ⟨by simp; omega, hz⟩
  rw [← this, List.take_append_drop]
/-- Which groups are noughts. -/
def zs (b : List UInt8) : List Bool := (List.range 8).map (fun i => decide (grp b i = 0))
def zrB : List Bool → Nat
  | true :: l => zrB l + 1
  | _ => 0
/-- The document's longest row of noughts: over what is left, from a place, behind the best so far. -/
def blL : List Bool → Nat → Nat → Nat → Nat × Nat
  | [], _, f, m => (f, m)
  | z :: l, i, f, m => if m < zrB (z :: l) then blL l (i + 1) i (zrB (z :: l)) else blL l (i + 1) f m
def stepB (s : Nat × Nat × Nat × Nat) (z : Bool) : Nat × Nat × Nat × Nat :=
  if s.2.2.1 < (if z = true then s.2.2.2 + 1 else 0) then (s.1 + 1, s.1 + 1 - (if z = true then s.2.2.2 + 1 else 0), (if z = true then s.2.2.2 + 1 else 0), (if z = true then s.2.2.2 + 1 else 0))
  else (s.1 + 1, s.2.1, s.2.2.1, (if z = true then s.2.2.2 + 1 else 0))
theorem nz_fold (b : List UInt8) : ∀ i, ((List.range i).map (fun i => decide (grp b i = 0))).foldl stepB (0, 0, 0, 0) = (i, (nz b i).1, (nz b i).2.1, (nz b i).2.2)
  | 0 => rfl
  | i + 1 => by
    rw [List.range_succ, List.map_append, List.foldl_append, nz_fold b i]
    simp only [List.map_cons, List.map_nil, List.foldl_cons, List.foldl_nil, stepB, nz, decide_eq_true_eq]
    repeat (first | rfl | split)
theorem bl_bools : ∀ z0 z1 z2 z3 z4 z5 z6 z7 : Bool, blL [z0, z1, z2, z3, z4, z5, z6, z7] 0 0 1 =
    if ([z0, z1, z2, z3, z4, z5, z6, z7].foldl stepB (0, 0, 0, 0)).2.2.1 < 2 then (0, 1) else (([z0, z1, z2, z3, z4, z5, z6, z7].foldl stepB (0, 0, 0, 0)).2.1, ([z0, z1, z2, z3, z4, z5, z6, z7].foldl stepB (0, 0, 0, 0)).2.2.1) := by
  decide +kernel
theorem bl_nz (b : List UInt8) : blL (zs b) 0 0 1 = if (nz b 8).2.1 < 2 then (0, 1) else ((nz b 8).1, (nz b 8).2.1) := by
  have h := bl_bools (decide (grp b 0 = 0)) (decide (grp b 1 = 0)) (decide (grp b 2 = 0)) (decide (grp b 3 = 0)) (decide (grp b 4 = 0)) (decide (grp b 5 = 0)) (decide (grp b 6 = 0)) (decide (grp b 7 = 0))
  have e := nz_fold b 8
  have e2 : (List.range 8).map (fun i => decide (grp b i = 0)) = [decide (grp b 0 = 0), decide (grp b 1 = 0), decide (grp b 2 = 0), decide (grp b 3 = 0), decide (grp b 4 = 0), decide (grp b 5 = 0), decide (grp b 6 = 0), decide (grp b 7 = 0)] := rfl
  rw [e2] at e
  rw [e] at h
  unfold zs
  rw [e2]
  exact h
theorem zs_drop (b : List UInt8) (i : Nat) (h : i < 8) : (zs b).drop i = decide (grp b i = 0) :: (zs b).drop (i + 1) := by
  have hl : (zs b).length = 8 := by simp [zs]
  rw [List.drop_eq_getElem_cons (by omega)]
  congr 1
  simp [zs]
theorem zs_end (b : List UInt8) : (zs b).drop 8 = [] := List.drop_eq_nil_of_le (by simp [zs])
theorem zr_zero (b : List UInt8) (i : Nat) (h : i < 8) (hg : grp b i = 0) : zrB ((zs b).drop i) = zrB ((zs b).drop (i + 1)) + 1 := by
  rw [zs_drop b i h, decide_eq_true hg]; rfl
theorem zr_not (b : List UInt8) (i : Nat) (h : i < 8) (hg : ¬ grp b i = 0) : zrB ((zs b).drop i) = 0 := by
  rw [zs_drop b i h, decide_eq_false hg]; rfl
theorem zr_end (b : List UInt8) : zrB ((zs b).drop 8) = 0 := by rw [zs_end]; rfl
theorem bl_step (b : List UInt8) (i f m : Nat) (h : i < 8) : blL ((zs b).drop i) i f m = if m < zrB ((zs b).drop i) then blL ((zs b).drop (i + 1)) (i + 1) i (zrB ((zs b).drop i)) else blL ((zs b).drop (i + 1)) (i + 1) f m := by
  rw [zs_drop b i h]; rfl
theorem bl_end (b : List UInt8) (f m : Nat) : blL ((zs b).drop 8) 8 f m = (f, m) := by rw [zs_end]; rfl
/-- One more group. -/
theorem join_snoc (c : UInt8) (y : List UInt8) : ∀ xs : List (List UInt8), Lib.join (xs ++ [y]) [c] = if xs = [] then y else Lib.join xs [c] ++ [c] ++ y
  | [] => by rw [List.nil_append, Lib.join_one, if_pos rfl]
  | [x] => by rw [List.cons_append, List.nil_append, join_two, Lib.join_one, Lib.join_one, if_neg (by simp)]; simp
  | x :: z :: r => by
    rw [List.cons_append, List.cons_append, join_two, ← List.cons_append, join_snoc c y (z :: r), if_neg (by simp), if_neg (by simp), join_two]
    simp
theorem texts_same (b : List UInt8) (lo : Nat) : textsL b lo lo = [] := by unfold textsL; rw [Nat.sub_self]; rfl
theorem texts_succ (b : List UInt8) (lo i : Nat) (h : lo ≤ i) : textsL b lo (i + 1) = textsL b lo i ++ (if lo < i then [58] else []) ++ gtxt b i := by
  unfold textsL
  rw [show i + 1 - lo = (i - lo) + 1 by omega, List.range'_concat, List.map_append, List.map_cons, List.map_nil, join_snoc, Nat.one_mul, show lo + (i - lo) = i by omega]
  by_cases hl : lo < i
  · rw [if_pos hl, if_neg]
    intro e
    have := congrArg List.length e
    simp at this; omega
  · rw [if_neg hl, if_pos]
    · rw [show i - lo = 0 by omega]; rfl
    · rw [show i - lo = 0 by omega]; rfl
/-- The document's text behind so many groups, with a hole from f on, m long (none: m = 1). -/
def docT (b : List UInt8) (f m i : Nat) : List UInt8 := if 1 < m ∧ f < i then textsL b 0 f ++ [58, 58] ++ textsL b (f + m) i else textsL b 0 i
theorem docT_zero (b : List UInt8) (f m : Nat) : docT b f m 0 = [] := by unfold docT; rw [if_neg (by omega)]; exact texts_same b 0
theorem docT_hole (b : List UInt8) (f m : Nat) (h : 1 < m) : docT b f m (f + m) = docT b f m f ++ [58, 58] := by
  unfold docT
  rw [if_pos ⟨h, by omega⟩, if_neg (by omega), texts_same, List.append_nil]
theorem docT_step (b : List UInt8) (f m i : Nat) (h1 : ¬ (1 < m ∧ i = f)) (h2 : ¬ (1 < m ∧ f < i ∧ i < f + m)) : docT b f m (i + 1) = docT b f m i ++ (if 0 < i ∧ ¬ (1 < m ∧ i = f + m) then [58] else []) ++ gtxt b i := by
  unfold docT
  by_cases hm : 1 < m
  · by_cases hf : f < i
    · rw [if_pos ⟨hm, by omega⟩, if_pos ⟨hm, hf⟩, texts_succ b (f + m) i (by omega)]
      by_cases hi : i = f + m
      · rw [if_neg (by omega), if_neg (by omega)]; simp
      · rw [if_pos (by omega), if_pos (by omega)]; simp
    · rw [if_neg (by omega), if_neg (by omega), texts_succ b 0 i (by omega)]
      by_cases hi : 0 < i
      · rw [if_pos hi, if_pos (by omega)]
      · rw [if_neg hi, if_neg (by omega)]
  · rw [if_neg (by omega), if_neg (by omega), texts_succ b 0 i (by omega)]
    by_cases hi : 0 < i
    · rw [if_pos hi, if_pos (by omega)]
    · rw [if_neg hi, if_neg (by omega)]
theorem docT_end (b : List UInt8) : docT b (blL (zs b) 0 0 1).1 (blL (zs b) 0 0 1).2 8 = fmt6 b := by
  rw [bl_nz]
  unfold docT fmt6
  have hle := (nz_zero b 8).2.1
  by_cases h : (nz b 8).2.1 < 2
  · rw [if_pos h, if_pos h, if_neg (by simp)]
  · rw [if_neg h, if_neg h, if_pos (by simp; omega)]
theorem bl_range (b : List UInt8) : (blL (zs b) 0 0 1).1 + (blL (zs b) 0 0 1).2 ≤ 8 := by
  rw [bl_nz]
  have hle := (nz_zero b 8).2.1
  split
  · simp
  · exact hle
end Go.Proofs.YtmcgkknpkocgoaaGreatDoor.Ad
