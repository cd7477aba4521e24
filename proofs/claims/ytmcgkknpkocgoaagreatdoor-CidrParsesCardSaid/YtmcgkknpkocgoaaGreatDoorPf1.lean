/- Addresses' texts, plainly: what is formatted is parsed as it was; the document's longest row of noughts. -/
import Derived.Test.YtmcgkknpkocgoaaGreatDoorAdY
import Derived.Test.YtmcgkknpkocgoaaGreatDoorAdM
import Derived.BigQuiet
import Derived.Deep.QuietTactic
import Derived.Deep.DeepCutAuto
import Derived.Test.YtmcgkknpkocgoaaGreatDoorMemR
namespace Go.Proofs.YtmcgkknpkocgoaaGreatDoor.Ad
open Go.RowKit Go.Proofs.YtmcgkknpkocgoaaGreatDoor.Mem Go.Proofs.YtmcgkknpkocgoaaGreatDoor.Num Go.Proofs.YtmcgkknpkocgoaaGreatDoor.Err Go.Proofs.YtmcgkknpkocgoaaGreatDoor.AdP
set_option linter.unusedVariables false
set_option linter.unusedSimpArgs false
set_option maxRecDepth 100000
theorem has_oneF (l : List UInt8) : Lib.contains l [58] = decide (58 ∈ l) := by
  unfold Lib.contains
  rw [Bool.eq_iff_iff, decide_eq_true_iff, decide_eq_true_iff]
  have key : ∀ j, Lib.occAt l [58] j = true ↔ l[j]? = some 58 := by
    intro j
    unfold Lib.occAt
    cases hd : l.drop j with
    | nil =>
      have : l[j]? = none := List.getElem?_eq_none (by have := congrArg List.length hd; rw [List.length_drop] at this; simp at this; omega)
      rw [this]; simp [List.isPrefixOf]
    | cons b r =>
      have : l[j]? = some b := by
        have h := congrArg List.head? hd
        rw [List.head?_drop] at h
        exact h
      rw [this]
      show ((58 : UInt8) == b && true) = true ↔ _
      rw [Bool.and_true, beq_iff_eq]
      exact ⟨fun h => by rw [h], fun h => (Option.some.inj h).symm⟩
  rcases Lib.index_spec l [58] with ⟨h1, h2⟩ | ⟨i, h1, h2, h3, _⟩
  · rw [h1]
    constructor
    · intro h; omega
    · intro h
      obtain ⟨j, hj, he⟩ := List.getElem_of_mem h
      have := (key j).2 (by rw [List.getElem?_eq_getElem hj, he])
      rw [h2 j (by omega)] at this
      cases this
  · rw [h1]
    constructor
    · intro _
      exact List.mem_of_getElem? ((key i).1 h3)
    · intro _; omega
theorem pre2F (x y : UInt8) (r : List UInt8) : ([58, 58] : List UInt8).isPrefixOf (x :: y :: r) = decide (x = 58 ∧ y = 58) := by
  show ((58 : UInt8) == x && ((58 : UInt8) == y && true)) = _
  by_cases hx : x = 58
  · subst hx
    by_cases hy : y = 58
    · subst hy; rfl
    · have e : ((58 : UInt8) == y) = false := beq_eq_false_iff_ne.mpr (fun h => hy h.symm)
      rw [e]; simp [hy]
  · have e : ((58 : UInt8) == x) = false := beq_eq_false_iff_ne.mpr (fun h => hx h.symm)
    rw [e]; simp [hx]
theorem dig_facts : ∀ d : Fin 16, fig (dig d) = (d : Int) ∧ dig d ≠ 58 ∧ dig d ≠ 46 := by decide
theorem dig_fig (d : Nat) (h : d < 16) : fig (dig d) = (d : Int) := (dig_facts ⟨d, h⟩).1
theorem numb_ne (b : Nat) : ∀ (f n : Nat), numb b f n ≠ []
  | 0, n => by simp [numb]
  | f + 1, n => by unfold numb; split <;> simp
theorem numb_mem (b : Nat) (hb : b ≤ 16) (hb0 : 0 < b) : ∀ (f n : Nat), n < b ^ (f + 1) → ∀ c ∈ numb b f n, c ≠ 58 ∧ c ≠ 46
  | 0, n, hn, c, hc => by
    simp only [numb, List.mem_singleton] at hc
    subst hc
    exact (dig_facts ⟨n, by simp at hn; omega⟩).2
  | f + 1, n, hn, c, hc => by
    unfold numb at hc
    split at hc
    · simp only [List.mem_singleton] at hc
      subst hc
      exact (dig_facts ⟨n, by omega⟩).2
    · rcases List.mem_append.1 hc with h | h
      · exact numb_mem b hb hb0 f (n / b) (by rw [Nat.div_lt_iff_lt_mul hb0]; rw [Nat.pow_succ] at hn; exact hn) c h
      · simp only [List.mem_singleton] at h
        subst h
        have := Nat.mod_lt n hb0
        exact (dig_facts ⟨n % b, by omega⟩).2
theorem numb_short (b : Nat) (hb0 : 1 < b) : ∀ (f n k : Nat), n < b ^ (k + 1) → (numb b f n).length ≤ k + 1
  | 0, n, k, h => by simp [numb]
  | f + 1, n, k, h => by
    unfold numb
    split
    · simp
    · rename_i hn
      cases k with
      | zero => simp at h; omega
      | succ k =>
        have := numb_short b hb0 f (n / b) k (by rw [Nat.div_lt_iff_lt_mul (by omega)]; rw [Nat.pow_succ] at h; exact h)
        simp; omega
theorem numb_numL (b : Nat) (hb : b ≤ 16) (hb0 : 1 < b) : ∀ (f n : Nat), n < b ^ (f + 1) → numL (b : Int) 0 (numb b f n) = (n : Int)
  | 0, n, hn => by
    have h : n < b := by simpa using hn
    simp only [numb, numL]
    rw [dig_fig n (by omega), if_neg (by omega)]; omega
  | f + 1, n, hn => by
    unfold numb
    split
    · rename_i h
      simp only [numL]
      rw [dig_fig n (by omega), if_neg (by omega)]; omega
    · have hr := Nat.mod_lt n (show 0 < b by omega)
      have ih := numb_numL b hb hb0 f (n / b) (by rw [Nat.div_lt_iff_lt_mul (by omega)]; rw [Nat.pow_succ] at hn; exact hn)
      rcases numL_snoc (b : Int) (numb b f (n / b)) (dig (n % b)) 0 (by omega) (by omega) with ⟨h1, _⟩ | ⟨_, h2⟩
      · rw [ih] at h1
        have h9 := Int.natCast_nonneg (n / b)
        rw [h1] at h9
        exact absurd h9 (by decide)
      · rw [h2, ih, dig_fig (n % b) (by omega), if_neg (by omega)]
        have hdm : (b : Int) * ((n / b : Nat) : Int) + ((n % b : Nat) : Int) = (n : Int) := by exact_mod_cast Nat.div_add_mod n b
        rw [Int.mul_comm]; exact hdm
theorem parts_self (c : UInt8) : ∀ x : List UInt8, c ∉ x → parts c x = [x]
  | [], _ => rfl
  | a :: x, h => by
    have h1 : a ≠ c := fun e => h (by simp [e])
    rw [parts, if_neg h1, parts_self c x (fun e => h (by simp [e]))]
theorem parts_app (c : UInt8) (l : List UInt8) : ∀ x : List UInt8, c ∉ x → parts c (x ++ c :: l) = x :: parts c l
  | [], _ => by rw [List.nil_append, parts, if_pos rfl]
  | a :: x, h => by
    have h1 : a ≠ c := fun e => h (by simp [e])
    rw [List.cons_append, parts, if_neg h1, parts_app c l x (fun e => h (by simp [e]))]
theorem join_two (x y : List UInt8) (r : List (List UInt8)) (c : UInt8) : Lib.join (x :: y :: r) [c] = x ++ c :: Lib.join (y :: r) [c] := by
  rw [Lib.join_cons x, Lib.join_cons y]
  simp [Lib.joinTail]
theorem parts_join (c : UInt8) : ∀ (xs : List (List UInt8)), xs ≠ [] → (∀ x ∈ xs, c ∉ x) → parts c (Lib.join xs [c]) = xs
  | [], h, _ => absurd rfl h
  | [x], _, h => by rw [Lib.join_one]; exact parts_self c x (h x (by simp))
  | x :: y :: r, _, h => by
    rw [join_two, parts_app c _ x (h x (by simp)), parts_join c (y :: r) (by simp) (fun z hz => h z (by simp at hz ⊢; right; exact hz))]
/-- Of two colons. -/
theorem ix_cons (a : UInt8) (l : List UInt8) : Lib.index (a :: l) [58, 58] = if a = 58 ∧ l.head? = some 58 then 0 else if Lib.index l [58, 58] = -1 then -1 else Lib.index l [58, 58] + 1 := by
  have e : Lib.index (a :: l) [58, 58] = if ([58, 58] : List UInt8).isPrefixOf (a :: l) then 0 else if Lib.index l [58, 58] == -1 then -1 else Lib.index l [58, 58] + 1 := rfl
  rw [e]
  have hp : ([58, 58] : List UInt8).isPrefixOf (a :: l) = decide (a = 58 ∧ l.head? = some 58) := by
    cases l with
    | nil => show ((58 : UInt8) == a && false) = _; simp
    | cons y r => rw [pre2F]; simp
  rw [hp]
  by_cases hc : a = 58 ∧ l.head? = some 58
  · rw [if_pos hc, decide_eq_true hc, if_pos rfl]
  · rw [if_neg hc, decide_eq_false hc]
    simp
theorem ix_not (l r : List UInt8) (h : Lib.index r [58, 58] = -1) : ∀ x : List UInt8, 58 ∉ x → Lib.index (x ++ r) [58, 58] = -1
  | [], _ => h
  | a :: x, hx => by
    have h1 : a ≠ 58 := fun e => hx (by simp [e])
    rw [List.cons_append, ix_cons, if_neg (fun e => h1 e.1), if_pos (ix_not l r h x (fun e => hx (by simp [e])))]
theorem ix_join : ∀ xs : List (List UInt8), (∀ x ∈ xs, 58 ∉ x ∧ x ≠ []) → Lib.index (Lib.join xs [58] ++ [58]) [58, 58] = -1
  | [], _ => by rw [Lib.join_nil]; rfl
  | [x], h => by rw [Lib.join_one]; exact ix_not [] [58] rfl x (h x (by simp)).1
  | x :: y :: r, h => by
    rw [join_two, List.append_assoc]
    refine ix_not [] _ ?_ x (h x (by simp)).1
    have ih := ix_join (y :: r) (fun z hz => h z (by simp at hz ⊢; right; exact hz))
    rw [List.cons_append, ix_cons, if_neg ?_, if_pos ih]
    intro hc
    have hy := h y (by simp)
    cases y with
    | nil => exact hy.2 rfl
    | cons a y =>
      have hh := hc.2
      rw [Lib.join_cons] at hh
      simp at hh
      exact hy.1 (by simp [hh])
theorem ix_less : ∀ l : List UInt8, Lib.index (l ++ [58]) [58, 58] = -1 → Lib.index l [58, 58] = -1
  | [], _ => rfl
  | a :: l, h => by
    rw [List.cons_append, ix_cons] at h
    have hg := Lib.index_ge (l ++ [58]) [58, 58]
    by_cases hc : a = 58 ∧ (l ++ [58]).head? = some 58
    · rw [if_pos hc] at h; omega
    · rw [if_neg hc] at h
      have h2 : Lib.index (l ++ [58]) [58, 58] = -1 := by
        by_cases h3 : Lib.index (l ++ [58]) [58, 58] = -1
        · exact h3
        · rw [if_neg h3] at h; omega
      rw [ix_cons, if_neg ?_, if_pos (ix_less l h2)]
      intro h4
      apply hc
      refine ⟨h4.1, ?_⟩
      cases l with
      | nil => simp
      | cons b l => simpa using h4.2
theorem ix_hole (B : List UInt8) : ∀ A : List UInt8, Lib.index (A ++ [58]) [58, 58] = -1 → Lib.index (A ++ 58 :: 58 :: B) [58, 58] = (A.length : Int)
  | [], _ => by rw [List.nil_append, ix_cons, if_pos ⟨rfl, rfl⟩]; rfl
  | a :: A, h => by
    rw [List.cons_append, ix_cons] at h
    have hg := Lib.index_ge (A ++ [58]) [58, 58]
    by_cases hc : a = 58 ∧ (A ++ [58]).head? = some 58
    · rw [if_pos hc] at h; omega
    · rw [if_neg hc] at h
      have h2 : Lib.index (A ++ [58]) [58, 58] = -1 := by
        by_cases h3 : Lib.index (A ++ [58]) [58, 58] = -1
        · exact h3
        · rw [if_neg h3] at h; omega
      have ih := ix_hole B A h2
      rw [List.cons_append, ix_cons, if_neg ?_, ih, if_neg (by omega)]
      · simp
      · intro h4
        apply hc
        refine ⟨h4.1, ?_⟩
        cases A with
        | nil => simp
        | cons b A => simpa using h4.2
/-- The groups' texts. -/
theorem gtxt_ok (b : List UInt8) (i : Nat) : 58 ∉ gtxt b i ∧ gtxt b i ≠ [] := by
  have hl : grp b i < 16 ^ (20 + 1) := Nat.lt_trans (grp_lt b i) (by decide)
  exact ⟨fun h => (numb_mem 16 (by omega) (by omega) 20 _ hl 58 h).1 rfl, numb_ne _ _ _⟩
theorem gtxt_number (b : List UInt8) (i : Nat) : number (gtxt b i) 16 4 = (grp b i : Int) := by
  have hl : grp b i < 16 ^ (20 + 1) := Nat.lt_trans (grp_lt b i) (by decide)
  have h4 : (gtxt b i).length ≤ 3 + 1 := numb_short 16 (by omega) 20 _ 3 (grp_lt b i)
  have h1 : 0 < (gtxt b i).length := List.length_pos_iff.2 (numb_ne _ _ _)
  unfold number
  rw [if_neg (by omega)]
  exact numb_numL 16 (by omega) (by omega) 20 _ hl
theorem getD_lt (b : List UInt8) (i : Nat) (h : i < b.length) : b.getD i 0 = b[i] := by
  rw [List.getD_eq_getElem?_getD, List.getElem?_eq_getElem h]; rfl
theorem two_grp (b : List UInt8) (i : Nat) : two (grp b i) = [b.getD (2 * i) 0, b.getD (2 * i + 1) 0] := by
  have h1 := (b.getD (2 * i) 0).toNat_lt
  have h2 := (b.getD (2 * i + 1) 0).toNat_lt
  unfold two grp
  have e1 : (((b.getD (2 * i) 0).toNat * 256 + (b.getD (2 * i + 1) 0).toNat : Nat) : Int).toNat / 256 = (b.getD (2 * i) 0).toNat := by omega
  have e2 : (((b.getD (2 * i) 0).toNat * 256 + (b.getD (2 * i + 1) 0).toNat : Nat) : Int).toNat % 256 = (b.getD (2 * i + 1) 0).toNat := by omega
  rw [e1, e2]
  simp
theorem rowL_gtxt (b : List UInt8) : ∀ (k lo : Nat), 2 * (lo + k) ≤ b.length → rowL ((List.range' lo k).map (gtxt b)) = some ((b.drop (2 * lo)).take (2 * k))
  | 0, lo, h => by simp [rowL]
  | k + 1, lo, h => by
    rw [List.range'_succ, List.map_cons, rowL, gtxt_number, if_neg (by omega), rowL_gtxt b k (lo + 1) (by omega), two_grp]
    have d1 : b.drop (2 * lo) = b.getD (2 * lo) 0 :: b.getD (2 * lo + 1) 0 :: b.drop (2 * (lo + 1)) := by
      rw [List.drop_eq_getElem_cons (show 2 * lo < b.length by omega), List.drop_eq_getElem_cons (show 2 * lo + 1 < b.length by omega)]
      rw [getD_lt _ _ (by omega), getD_lt _ _ (by omega)]
      rfl
    rw [d1, show 2 * (k + 1) = 2 * k + 1 + 1 by omega]
    simp
theorem row_texts (b : List UInt8) (lo hi : Nat) (h : 2 * hi ≤ b.length) (hlh : lo ≤ hi) : row (textsL b lo hi) = some ((b.drop (2 * lo)).take (2 * (hi - lo))) := by
  unfold row textsL
  by_cases hk : hi - lo = 0
  · rw [hk]; simp [Lib.join_nil]
  · have hne : (List.range' lo (hi - lo)).map (gtxt b) ≠ [] := by
      intro e
      have := congrArg List.length e
      simp at this; omega
    have hmem : ∀ x ∈ (List.range' lo (hi - lo)).map (gtxt b), 58 ∉ x ∧ x ≠ [] := by
      intro x hx
      obtain ⟨i, _, rfl⟩ := List.mem_map.1 hx
      exact gtxt_ok b i
    rw [if_neg ?_, parts_join 58 _ hne (fun x hx => (hmem x hx).1)]
    · exact rowL_gtxt b (hi - lo) lo (by omega)
    · intro e
      cases hl : (List.range' lo (hi - lo)).map (gtxt b) with
      | nil => exact hne hl
      | cons x r =>
        rw [hl, Lib.join_cons] at e
        have := (hmem x (by rw [hl]; simp)).2
        simp at e
        exact this e.1
theorem texts_ix (b : List UInt8) (lo hi : Nat) : Lib.index (textsL b lo hi ++ [58]) [58, 58] = -1 := by
  refine ix_join _ (fun x hx => ?_)
  obtain ⟨i, _, rfl⟩ := List.mem_map.1 hx
  exact gtxt_ok b i
/-- Rows of noughts. -/
theorem nz_zero (b : List UInt8) : ∀ i, (nz b i).2.2 ≤ i ∧ (nz b i).1 + (nz b i).2.1 ≤ i ∧ (∀ j, i - (nz b i).2.2 ≤ j → j < i → grp b j = 0) ∧ (∀ j, (nz b i).1 ≤ j → j < (nz b i).1 + (nz b i).2.1 → grp b j = 0)
  | 0 => by simp [nz]
  | i + 1 => by
    obtain ⟨h1, h2, h3, h4⟩ := nz_zero b i
    unfold nz
    by_cases hg : grp b i = 0
    · simp only [if_pos hg]
      have hr : ∀ j, i + 1 - ((nz b i).2.2 + 1) ≤ j → j < i + 1 → grp b j = 0 := by
        intro j a c
        by_cases hj : j = i
        · rw [hj]; exact hg
        · exact h3 j (by omega) (by omega)
      split
      · exact ⟨by simp; omega, by simp; omega, hr, fun j a c => hr j (by simpa using a) (by simp at a c; omega)⟩
      · exact ⟨by simp; omega, by simp; omega, hr, h4⟩
    · simp only [if_neg hg]
      rw [if_neg (by omega)]
      exact ⟨by simp, by simp; omega, fun j a c => by simp at a; omega, h4⟩
theorem zero_pair (b : List UInt8) (j : Nat) (h : grp b j = 0) : b.getD (2 * j) 0 = 0 ∧ b.getD (2 * j + 1) 0 = 0 := by
  have t := two_grp b j
  rw [h] at t
  have e : two (0 : Nat) = [0, 0] := rfl
  rw [e] at t
  simp at t
  exact ⟨t.1.symm, t.2.symm⟩
theorem zeros_mid (b : List UInt8) (f m : Nat) (h : 2 * (f + m) ≤ b.length) (hz : ∀ j, f ≤ j → j < f + m → grp b j = 0) : (b.drop (2 * f)).take (2 * m) = List.replicate (2 * m) 0 := by
  apply List.ext_getElem
  · simp; omega
  · intro k h1 h2
    simp at h1
    rw [List.getElem_replicate, List.getElem_take, List.getElem_drop]
    have hj := zero_pair b (f + k / 2) (hz _ (by omega) (by omega))
    rcases Nat.mod_two_eq_zero_or_one k with hm | hm
    · have := hj.1
      rw [getD_lt _ _ (by omega)] at this
      rw [← this]; congr 1; omega
    · have := hj.2
      rw [getD_lt _ _ (by omega)] at this
      rw [← this]; congr 1; omega
theorem coloned_fmt6 (b : List UInt8) (hb : b.length = 16) : coloned (fmt6 b) = some b := by
  obtain ⟨-, hle, -, hz⟩ := nz_zero b 8
  unfold fmt6
  generalize (nz b 8).1 = f at *
  generalize (nz b 8).2.1 = m at *
  split
  · have hi := ix_less _ (texts_ix b 0 8)
    have hc : Lib.cut (textsL b 0 8) [58, 58] = (textsL b 0 8, [], false) := by unfold Lib.cut; rw [hi]; rfl
    have hr := row_texts b 0 8 (by omega) (by omega)
    have hr2 : row [] = some [] := if_pos rfl
    have hne : textsL b 0 8 ≠ [] := by
      intro e
      rw [e, hr2] at hr
      have := congrArg (fun o => (o.getD []).length) hr
      simp at this; omega
    unfold coloned
    rw [hc]
    dsimp only
    rw [hr, hr2]
    dsimp only
    have hlen : (((b.drop (2 * 0)).take (2 * (8 - 0))).length) = 16 := by simp; omega
    rw [if_neg ?_]
    · rw [hlen]
      simp
      exact List.take_of_length_le (by omega)
    · rw [hlen]; simp [hne]
  · rename_i hm
    have hi := ix_hole (textsL b (f + m) 8) (textsL b 0 f) (texts_ix b 0 f)
    have e : textsL b 0 f ++ [58, 58] ++ textsL b (f + m) 8 = textsL b 0 f ++ 58 :: 58 :: textsL b (f + m) 8 := by simp
    rw [e]
    have hc : Lib.cut (textsL b 0 f ++ 58 :: 58 :: textsL b (f + m) 8) [58, 58] = (textsL b 0 f, textsL b (f + m) 8, true) := by
      unfold Lib.cut
      rw [hi, if_pos (by omega)]
      simp
    have hr := row_texts b 0 f (by omega) (by omega)
    have hr2 := row_texts b (f + m) 8 (by omega) (by omega)
    unfold coloned
    rw [hc]
    dsimp only
    rw [hr, hr2]
    dsimp only
    have hl1 : (((b.drop (2 * 0)).take (2 * (f - 0))).length) = 2 * f := by simp; omega
    have hl2 : (((b.drop (2 * (f + m))).take (2 * (8 - (f + m)))).length) = 16 - 2 * (f + m) := by simp; omega
    rw [if_neg ?_]
    · rw [hl1, hl2, show 16 - 2 * f - (16 - 2 * (f + m)) = 2 * m by omega, ← zeros_mid b f m (by omega) hz]
      congr 1
      have e1 : (b.drop (2 * (f + m))).take (2 * (8 - (f + m))) = b.drop (2 * (f + m)) := List.take_of_length_le (by simp; omega)
      rw [e1]
      have e2 : b.drop (2 * (f + m)) = (b.drop (2 * f)).drop (2 * m) := by rw [List.drop_drop]; congr 1; omega
      rw [e2]
      simp only [Nat.mul_zero, List.drop_zero, Nat.sub_zero]
      rw [List.append_assoc, List.take_append_drop, List.take_append_drop]
    · rw [hl1, hl2]
      simp; omega
theorem colon_fmt6 (b : List UInt8) : 58 ∈ fmt6 b := by
  unfold fmt6
  split
  · unfold textsL
    rw [show List.range' 0 (8 - 0) = [0, 1, 2, 3, 4, 5, 6, 7] from rfl]
    rw [List.map_cons, List.map_cons, join_two]
    simp
  · simp
theorem parse_fmt6 (b : List UInt8) (hb : b.length = 16) : parseA (fmt6 b) = some (true, b) := by
  unfold parseA
  rw [if_pos (by rw [has_oneF]; exact decide_eq_true (colon_fmt6 b)), coloned_fmt6 b hb]
  rfl
/-- The text of an address of four bytes. -/
def txt4 (b : List UInt8) : List UInt8 := Lib.join ((b.take 4).map (fun x => numb 10 20 x.toNat)) [46]
theorem numb_dec : ∀ (f n : Nat), n < 10 ^ (f + 1) → numb 10 f n = Lib.decDigits n
  | 0, n, h => by
    have h1 : n < 10 := by simpa using h
    rw [numb, dd_small n h1, dig, if_pos h1]
  | f + 1, n, h => by
    unfold numb
    split
    · rename_i h1
      rw [dd_small n h1, dig, if_pos h1]
    · rename_i h1
      rw [dd_big n h1, numb_dec f (n / 10) (by rw [Nat.div_lt_iff_lt_mul (by decide)]; rw [Nat.pow_succ] at h; exact h), dig, if_pos (by omega)]
theorem decR_numb : ∀ k : Fin 256, decR (numb 10 20 k) = (k : Int) := by decide
theorem decP_numb (x : UInt8) : decP (numb 10 20 x.toNat) = (x.toNat : Int) := by
  rw [dec_eq]; exact decR_numb ⟨x.toNat, x.toNat_lt⟩
theorem dotP_numb : ∀ l : List UInt8, dotP (l.map (fun x => numb 10 20 x.toNat)) = some l
  | [] => rfl
  | x :: l => by
    rw [List.map_cons, dotP, decP_numb, if_neg (by omega), dotP_numb l]
    simp
theorem parse_fmt4 (b : List UInt8) (hb : b.length = 16) (hr : rightA false b = true) : parseA (txt4 b) = some (false, b) := by
  have hmem : ∀ y ∈ (b.take 4).map (fun x => numb 10 20 x.toNat), (∀ c ∈ y, c ≠ 58 ∧ c ≠ 46) := by
    intro y hy
    obtain ⟨x, _, rfl⟩ := List.mem_map.1 hy
    exact numb_mem 10 (by omega) (by omega) 20 _ (Nat.lt_trans x.toNat_lt (by decide))
  have hne : (b.take 4).map (fun x => numb 10 20 x.toNat) ≠ [] := by
    intro e
    have h9 := congrArg List.length e
    rw [List.length_map, List.length_take, hb] at h9
    exact absurd h9 (by decide)
  have hp : parts 46 (txt4 b) = (b.take 4).map (fun x => numb 10 20 x.toNat) := parts_join 46 _ hne (fun y hy h => ((hmem y hy) 46 h).2 rfl)
  have hnc : 58 ∉ txt4 b := by
    intro h
    have hj : ∀ xs : List (List UInt8), (∀ y ∈ xs, 58 ∉ y) → 58 ∉ Lib.join xs [46] := by
      intro xs
      induction xs with
      | nil => intro _; rw [Lib.join_nil]; simp
      | cons x r ih =>
        intro h
        cases r with
        | nil => rw [Lib.join_one]; exact h x (by simp)
        | cons y r =>
          rw [join_two]
          have := ih (fun z hz => h z (by simp at hz ⊢; right; exact hz))
          have hx := h x (by simp)
          simp [hx, this]
    exact hj _ (fun y hy h => ((hmem y hy) 58 h).1 rfl) h
  unfold parseA
  rw [if_neg (by rw [has_oneF]; simp [hnc])]
  unfold dotted
  rw [hp, if_pos (by simp; omega), dotP_numb]
  simp only [Option.map_some]
  congr 2
  have hz : ∀ x ∈ b.drop 4, x = 0 := by
    unfold rightA at hr
    simpa using hr
  have : b.drop 4 = List.replicate 12 0 := List.eq_replicate_iff.2 ⟨by simp; omega, hz⟩
  rw [← this, List.take_append_drop]
/-- Which groups are noughts. -/
def zs (b : List UInt8) : List Bool := (List.range 8).map (fun i => decide (grp b i = 0))
def zrB : List Bool → Nat
  | true :: l => zrB l + 1
  | _ => 0
/-- The document's longest row of noughts: over what is left, from a place, behind the best so far. -/
def blL : List Bool → Nat → Nat → Nat → Nat × Nat
  | [], _, f, m => (f, m)
  | z :: l, i, f, m => if m < zrB (z :: l) then blL l (i + 1) i (zrB (z :: l)) else blL l (i + 1) f m
def stepB (s : Nat × Nat × Nat × Nat) (z : Bool) : Nat × Nat × Nat × Nat :=
  if s.2.2.1 < (if z = true then s.2.2.2 + 1 else 0) then (s.1 + 1, s.1 + 1 - (if z = true then s.2.2.2 + 1 else 0), (if z = true then s.2.2.2 + 1 else 0), (if z = true then s.2.2.2 + 1 else 0))
  else (s.1 + 1, s.2.1, s.2.2.1, (if z = true then s.2.2.2 + 1 else 0))
theorem nz_fold (b : List UInt8) : ∀ i, ((List.range i).map (fun i => decide (grp b i = 0))).foldl stepB (0, 0, 0, 0) = (i, (nz b i).1, (nz b i).2.1, (nz b i).2.2)
  | 0 => rfl
  | i + 1 => by
    rw [List.range_succ, List.map_append, List.foldl_append, nz_fold b i]
    simp only [List.map_cons, List.map_nil, List.foldl_cons, List.foldl_nil, stepB, nz, decide_eq_true_eq]
    repeat (first | rfl | split)
theorem bl_bools : ∀ z0 z1 z2 z3 z4 z5 z6 z7 : Bool, blL [z0, z1, z2, z3, z4, z5, z6, z7] 0 0 1 =
    if ([z0, z1, z2, z3, z4, z5, z6, z7].foldl stepB (0, 0, 0, 0)).2.2.1 < 2 then (0, 1) else (([z0, z1, z2, z3, z4, z5, z6, z7].foldl stepB (0, 0, 0, 0)).2.1, ([z0, z1, z2, z3, z4, z5, z6, z7].foldl stepB (0, 0, 0, 0)).2.2.1) := by
  decide +kernel
theorem bl_nz (b : List UInt8) : blL (zs b) 0 0 1 = if (nz b 8).2.1 < 2 then (0, 1) else ((nz b 8).1, (nz b 8).2.1) := by
  have h := bl_bools (decide (grp b 0 = 0)) (decide (grp b 1 = 0)) (decide (grp b 2 = 0)) (decide (grp b 3 = 0)) (decide (grp b 4 = 0)) (decide (grp b 5 = 0)) (decide (grp b 6 = 0)) (decide (grp b 7 = 0))
  have e := nz_fold b 8
  have e2 : (List.range 8).map (fun i => decide (grp b i = 0)) = [decide (grp b 0 = 0), decide (grp b 1 = 0), decide (grp b 2 = 0), decide (grp b 3 = 0), decide (grp b 4 = 0), decide (grp b 5 = 0), decide (grp b 6 = 0), decide (grp b 7 = 0)] := rfl
  rw [e2] at e
  rw [e] at h
  unfold zs
  rw [e2]
  exact h
theorem zs_drop (b : List UInt8) (i : Nat) (h : i < 8) : (zs b).drop i = decide (grp b i = 0) :: (zs b).drop (i + 1) := by
  have hl : (zs b).length = 8 := by simp [zs]
  rw [List.drop_eq_getElem_cons (by omega)]
  congr 1
  simp [zs]
theorem zs_end (b : List UInt8) : (zs b).drop 8 = [] := List.drop_eq_nil_of_le (by simp [zs])
theorem zr_zero (b : List UInt8) (i : Nat) (h : i < 8) (hg : grp b i = 0) : zrB ((zs b).drop i) = zrB ((zs b).drop (i + 1)) + 1 := by
  rw [zs_drop b i h, decide_eq_true hg]; rfl
theorem zr_not (b : List UInt8) (i : Nat) (h : i < 8) (hg : ¬ grp b i = 0) : zrB ((zs b).drop i) = 0 := by
  rw [zs_drop b i h, decide_eq_false hg]; rfl
theorem zr_end (b : List UInt8) : zrB ((zs b).drop 8) = 0 := by rw [zs_end]; rfl
theorem bl_step (b : List UInt8) (i f m : Nat) (h : i < 8) : blL ((zs b).drop i) i f m = if m < zrB ((zs b).drop i) then blL ((zs b).drop (i + 1)) (i + 1) i (zrB ((zs b).drop i)) else blL ((zs b).drop (i + 1)) (i + 1) f m := by
  rw [zs_drop b i h]; rfl
theorem bl_end (b : List UInt8) (f m : Nat) : blL ((zs b).drop 8) 8 f m = (f, m) := by rw [zs_end]; rfl
/-- One more group. -/
theorem join_snoc (c : UInt8) (y : List UInt8) : ∀ xs : List (List UInt8), Lib.join (xs ++ [y]) [c] = if xs = [] then y else Lib.join xs [c] ++ [c] ++ y
  | [] => by rw [List.nil_append, Lib.join_one, if_pos rfl]
  | [x] => by rw [List.cons_append, List.nil_append, join_two, Lib.join_one, Lib.join_one, if_neg (by simp)]; simp
  | x :: z :: r => by
    rw [List.cons_append, List.cons_append, join_two, ← List.cons_append, join_snoc c y (z :: r), if_neg (by simp), if_neg (by simp), join_two]
    simp
theorem texts_same (b : List UInt8) (lo : Nat) : textsL b lo lo = [] := by unfold textsL; rw [Nat.sub_self]; rfl
theorem texts_succ (b : List UInt8) (lo i : Nat) (h : lo ≤ i) : textsL b lo (i + 1) = textsL b lo i ++ (if lo < i then [58] else []) ++ gtxt b i := by
  unfold textsL
  rw [show i + 1 - lo = (i - lo) + 1 by omega, List.range'_concat, List.map_append, List.map_cons, List.map_nil, join_snoc, Nat.one_mul, show lo + (i - lo) = i by omega]
  by_cases hl : lo < i
  · rw [if_pos hl, if_neg]
    intro e
    have := congrArg List.length e
    simp at this; omega
  · rw [if_neg hl, if_pos]
    · rw [show i - lo = 0 by omega]; rfl
    · rw [show i - lo = 0 by omega]; rfl
/-- The document's text behind so many groups, with a hole from f on, m long (none: m = 1). -/
def docT (b : List UInt8) (f m i : Nat) : List UInt8 := if 1 < m ∧ f < i then textsL b 0 f ++ [58, 58] ++ textsL b (f + m) i else textsL b 0 i
theorem docT_zero (b : List UInt8) (f m : Nat) : docT b f m 0 = [] := by unfold docT; rw [if_neg (by omega)]; exact texts_same b 0
theorem docT_hole (b : List UInt8) (f m : Nat) (h : 1 < m) : docT b f m (f + m) = docT b f m f ++ [58, 58] := by
  unfold docT
  rw [if_pos ⟨h, by omega⟩, if_neg (by omega), texts_same, List.append_nil]
theorem docT_step (b : List UInt8) (f m i : Nat) (h1 : ¬ (1 < m ∧ i = f)) (h2 : ¬ (1 < m ∧ f < i ∧ i < f + m)) : docT b f m (i + 1) = docT b f m i ++ (if 0 < i ∧ ¬ (1 < m ∧ i = f + m) then [58] else []) ++ gtxt b i := by
  unfold docT
  by_cases hm : 1 < m
  · by_cases hf : f < i
    · rw [if_pos ⟨hm, by omega⟩, if_pos ⟨hm, hf⟩, texts_succ b (f + m) i (by omega)]
      by_cases hi : i = f + m
      · rw [if_neg (by omega), if_neg (by omega)]; simp
      · rw [if_pos (by omega), if_pos (by omega)]; simp
    · rw [if_neg (by omega), if_neg (by omega), texts_succ b 0 i (by omega)]
      by_cases hi : 0 < i
      · rw [if_pos hi, if_pos (by omega)]
      · rw [if_neg hi, if_neg (by omega)]
  · rw [if_neg (by omega), if_neg (by omega), texts_succ b 0 i (by omega)]
    by_cases hi : 0 < i
    · rw [if_pos hi, if_pos (by omega)]
    · rw [if_neg hi, if_neg (by omega)]
theorem docT_end (b : List UInt8) : docT b (blL (zs b) 0 0 1).1 (blL (zs b) 0 0 1).2 8 = fmt6 b := by
  rw [bl_nz]
  unfold docT fmt6
  have hle := (nz_zero b 8).2.1
  by_cases h : (nz b 8).2.1 < 2
  · rw [if_pos h, if_pos h, if_neg (by simp)]
  · rw [if_neg h, if_neg h, if_pos (by simp; omega)]
theorem bl_range (b : List UInt8) : (blL (zs b) 0 0 1).1 + (blL (zs b) 0 0 1).2 ≤ 8 := by
  rw [bl_nz]
  have hle := (nz_zero b 8).2.1
  split
  · simp
  · exact hle
end Go.Proofs.YtmcgkknpkocgoaaGreatDoor.Ad

/- addr.Format of every address; addr.Bits. -/
namespace Go.Proofs.YtmcgkknpkocgoaaGreatDoor.Ad
open Go.RowKit Go.Proofs.YtmcgkknpkocgoaaGreatDoor.Mem Go.Proofs.YtmcgkknpkocgoaaGreatDoor.Num Go.Proofs.YtmcgkknpkocgoaaGreatDoor.Err Go.Proofs.YtmcgkknpkocgoaaGreatDoor.AdP
open Go.Proofs.YtmcgkknpkocgoaaGreatDoor.Head (pad pad_len adCells_one adCells_len infoAd splice_ad)
open Go.Proofs.YtmcgkknpkocgoaaGreatDoor.Addr (adV adA adCells adA_size cell_box load_box cell_six)
set_option linter.unusedVariables false
set_option linter.unusedSimpArgs false
set_option maxRecDepth 100000
attribute [-go_sem] Builtin.append_ loadCells loadCellsFrom storeCells
theorem cell_byte (six : Bool) (b : List UInt8) (hb : b.length = 16) (w W : World) (h : Below (w.alloc (.cells (adA six b) 24)).heap.size (w.alloc (.cells (adA six b) 24)) W) (i : Nat) (hi : i < 16) :
    W.cell? ⟨w.heap.size, 1 + i, none⟩ = some (.int .u8 ((b[i]'(by omega)).toNat : Int)) := by
  refine cell_box w _ (adCells six b) 24 h (1 + i) _ ?_
  unfold adCells
  rw [Nat.add_comm, List.getElem?_cons_succ, List.getElem?_map, List.getElem?_eq_getElem (by omega)]
  rfl
theorem load_ad (six : Bool) (b : List UInt8) (hb : b.length = 16) (w W : World) (h : Below (w.alloc (.cells (adA six b) 24)).heap.size (w.alloc (.cells (adA six b) 24)) W) :
    (loadCells ⟨w.heap.size, 0, none⟩ 17).run Tryz.prog W = .ok (adA six b) W :=
  load_box w W (adCells six b) (adCells six b) 24 0 17 (by rw [List.drop_zero, List.take_of_length_le (by rw [adCells_len _ _ hb]; omega)]) (adCells_len _ _ hb) h
theorem format_not (six : Bool) (b : List UInt8) (hb : b.length = 16) (hr : rightA six b = false) (w : World) :
    Calls Tryz.prog 15 #[adV six b] w fun e w' => e = .returned (.string ByteArray.empty) ∧ Below w.heap.size w w' := by
  have KR := Lib.hid (fun W => right_calls' six b hb W)
  rw [hr] at KR
  have hl0 := load_ad six b hb w _ (Below.refl _ _)
  have hsz := adA_size six b hb
  change Hid (∀ W, Calls Tryz.prog 16 #[.agg (adA six b)] W fun e w' => e = .returned (.bool false) ∧ Below W.heap.size W w') at KR
  show Calls Tryz.prog 15 #[.agg (adA six b)] w fun e w' => e = .returned (.string ByteArray.empty) ∧ Below w.heap.size w w'
  generalize adA six b = ca at *
  go_enter Tryz.func15, Tryz.ntmps15
  go_wp2_with (go_at_call 16; ((with_reducible refine (KR.out _).mono ?_); rintro e w1 ⟨rfl, hb1⟩; have HB1 := Lib.hid (below_allocd hb1); clear hb1))
  go_ret
  exact ⟨rfl, HB1.out⟩
theorem join_len' (c : UInt8) (xs : List (List UInt8)) (m : Nat) (h : ∀ x ∈ xs, x.length ≤ m) : (Lib.join xs [c]).length ≤ xs.length * (m + 1) := by
  induction xs with
  | nil => simp [Lib.join_nil]
  | cons x xs ih =>
    cases xs with
    | nil => rw [Lib.join_one]; have := h x (by simp); simp; omega
    | cons y r =>
      have h1 := ih (fun z hz => h z (by simp at hz ⊢; right; exact hz))
      have h2 := h x (by simp)
      rw [join_two]
      simp only [List.length_append, List.length_cons, List.length_nil] at h1 ⊢
      have : (r.length + 1 + 1) * (m + 1) = (r.length + 1) * (m + 1) + (m + 1) := by rw [Nat.succ_mul]
      omega
set_option maxHeartbeats 1000000 in
theorem format_four (ea : Addr) (b : List UInt8) (hb : b.length = 16) (hr : rightA false b = true) (w : World) (hE : Env ea w) :
    Calls Tryz.prog 15 #[adV false b] w fun e w' => e = .returned (.string (str (txt4 b))) ∧ Below w.heap.size w w' := by
  have KR := Lib.hid (fun W => right_calls' false b hb W)
  rw [hr] at KR
  have HC := Lib.hid (fun W h i hi => cell_byte false b hb w W h i hi)
  have H6 := Lib.hid (fun W h => cell_six w W false b 24 h)
  have hl0 := load_ad false b hb w _ (Below.refl _ _)
  have hsz := adA_size false b hb
  have KI := Lib.hid (fun (x : UInt8) W hE => itoa_calls ea x.toNat (by have := x.toNat_lt; omega) W hE)
  have hEa := hE.alloc (.cells (adA false b) 24)
  have HE := Lib.hid (fun W (h : Below (w.alloc (.cells (adA false b) 24)).heap.size (w.alloc (.cells (adA false b) 24)) W) => hEa.below h)
  have HBD : Hid (∀ W, Below (w.alloc (.cells (adA false b) 24)).heap.size (w.alloc (.cells (adA false b) 24)) W → Below w.heap.size w W) := Lib.hid (fun W h => below_allocd h)
  have HL := Lib.hid hb
  change Hid (∀ W, Calls Tryz.prog 16 #[.agg (adA false b)] W fun e w' => e = .returned (.bool true) ∧ Below W.heap.size W w') at KR
  clear hE hEa hr
  show Calls Tryz.prog 15 #[.agg (adA false b)] w fun e w' => e = .returned (.string (str (txt4 b))) ∧ Below w.heap.size w w'
  generalize adA false b = ca at *
  go_enter Tryz.func15, Tryz.ntmps15
  go_wp2_with (go_at_call 16; ((with_reducible refine (KR.out _).mono ?_); rintro e w1 ⟨rfl, hb1⟩; have c6 := H6.out _ hb1; have HB1 := Lib.hid hb1; clear hb1))
  clear c6
  go_loopw [3, 5, 19] (fun v xv iv wr => ∃ (i : Nat) (xs : List ByteArray), iv = .int .i64 (i : Int) ∧ i ≤ 4 ∧ Own eStr 9 w1.heap.size wr v xs ∧ Hid (xs = (b.take i).map (fun x => str (numb 10 20 x.toNat))) ∧ Below w1.heap.size w1 wr) (fun _ _ iv _ => 4 - (intOf iv).toNat)
  case atStart => exact ⟨0, [], rfl, by omega, Own.nil _ _ _ _, Lib.hid rfl, Below.refl _ _⟩
  case round =>
    obtain ⟨i, xs, rfl, hi4, ho, HX, hb2⟩ := hrel
    have HO := Lib.hid ho
    have HB := Lib.hid (HB1.out.trans (hb2.mono HB1.out.size))
    have HBW := Lib.hid hb2
    clear ho hb2
    have HXL := Lib.hid (show xs.length = i by rw [HX.out]; have := HL.out; simp; omega)
    by_cases hlt : i < 4
    · have hc := HC.out wr HB.out i (by omega)
      have KI1 := Lib.hid (KI.out (b[i]'(by have := HL.out; omega)))
      have HX2 := Lib.hid (show xs ++ [str (Lib.decDigits (b[i]'(by have := HL.out; omega)).toNat)] = (b.take (i + 1)).map (fun x => str (numb 10 20 x.toNat)) by
        rw [List.take_add_one, List.getElem?_eq_getElem (by have := HL.out; omega), List.map_append, ← HX.out]
        simp only [Option.toList_some, List.map_cons, List.map_nil]
        rw [numb_dec 20 _ (Nat.lt_trans (UInt8.toNat_lt _) (by decide))])
      have hx0 : (0 : Int) ≤ ((b[i]'(by have := HL.out; omega)).toNat : Int) := by omega
      have hx1 := (b[i]'(by have := HL.out; omega)).toNat_lt
      have hx2 : ((b[i]'(by have := HL.out; omega)).toNat : Int) < 256 := by omega
      clear hx1
      have hii : (i : Int) < 4 := by omega
      clear HX
      generalize str (Lib.decDigits (b[i]'(by have := HL.out; omega)).toNat) = s at *
      generalize (b[i]'(by have := HL.out; omega)).toNat = X at *
      go_wp2_with (first
        | (go_at_call 79; ((with_reducible refine (KI1.out _ (HE.out _ HB.out)).mono ?_); rintro e w3 ⟨rfl, hb3⟩; have HO3 := Lib.hid (HO.out.below hb3); have HB3 := Lib.hid (HBW.out.trans (hb3.mono HBW.out.size)); clear hb3))
        | (at_builtin; refine wp_append (E := eStr) w1.heap.size rfl (.tmp 23) (.tmp 27) 96 9 _ 16 rfl Tryz.underlying96 infoStr rfl (by decide) _ _ xs [s] rfl rfl (HO3.out.alloc _) (Own.lit w3 0 eStr 9 [s] 1 rfl _ (one_str _) (Nat.zero_le _) (by simp)).row (size_alloc_le HB3.out _) (by have := HXL.out; simp; omega) ?_; intro v1 w4 ho4 hg4 hat4))
      go_roundw
      case rel => exact ⟨i + 1, xs ++ [s], by go_num, by omega, ho4, HX2, below_app (HB3.out.alloc HB3.out.size _) (size_alloc_le HB3.out _) (HO3.out.alloc _) hg4⟩
      case measure => simp [intOf]; omega
    · obtain rfl : i = 4 := by omega
      have hmap : xs.map (·.data.toList) = (b.take 4).map (fun x => numb 10 20 x.toNat) := by
        rw [HX.out, List.map_map]; rfl
      have KJ := Lib.hid (fun v W (h : Own eStr 9 w1.heap.size W v xs) => join_calls w1.heap.size v xs ⟨#[46]⟩ W h (by
        rw [hmap]
        refine Nat.le_trans (join_len' 46 _ 21 (fun x hx => ?_)) ?_
        · obtain ⟨j, _, rfl⟩ := List.mem_map.1 hx
          exact numb_len _ _ _
        · rw [List.length_map, List.length_take]; omega) (by have := HXL.out; omega))
      rw [hmap] at KJ
      change Hid (∀ v W, Own eStr 9 w1.heap.size W v xs → Calls Tryz.prog 80 #[v, .string ⟨#[46]⟩] W fun e w' => e = .returned (.string (str (txt4 b))) ∧ Below W.heap.size W w') at KJ
      clear hmap
      generalize hs : str (txt4 b) = s at KJ
      have HS := Lib.hid hs
      clear hs
      go_wp2_with (go_at_call 80; ((with_reducible refine (KJ.out _ _ HO.out).mono ?_); rintro e w2 ⟨rfl, hb2⟩; have HB2 := Lib.hid (HB.out.trans (hb2.mono HB.out.size)); clear hb2))
      go_ret
      exact ⟨by rw [HS.out]; rfl, HBD.out _ HB2.out⟩
/-- The text of an address. -/
def txtA (six : Bool) (b : List UInt8) : List UInt8 := if rightA six b = true then (if six = true then fmt6 b else txt4 b) else []
theorem format_calls (ea : Addr) (six : Bool) (b : List UInt8) (hb : b.length = 16) (w : World) (hE : Env ea w) :
    Calls Tryz.prog 15 #[adV six b] w fun e w' => e = .returned (.string (str (txtA six b))) ∧ Below w.heap.size w w' := by
  unfold txtA
  by_cases hr : rightA six b = true
  · rw [if_pos hr]
    cases six with
    | true => exact format_six ea b hb w hE
    | false => exact format_four ea b hb hr w hE
  · rw [if_neg hr]
    exact format_not six b hb (by simpa using hr) w
theorem parse_txt (six : Bool) (b : List UInt8) (hb : b.length = 16) (hr : rightA six b = true) : parseA (txtA six b) = some (six, b) := by
  unfold txtA
  rw [if_pos hr]
  cases six with
  | true => exact parse_fmt6 b hb
  | false => exact parse_fmt4 b hb hr
theorem txtA_len (six : Bool) (b : List UInt8) : (txtA six b).length ≤ 500 := by
  unfold txtA
  split
  · cases six with
    | true =>
      show (fmt6 b).length ≤ 500
      have hn := nz_le b 8
      unfold fmt6
      split
      · exact Nat.le_trans (textsL_len b 0 8 (by omega)) (by omega)
      · have q1 := textsL_len b 0 (nz b 8).1 (by omega)
        have q2 := textsL_len b ((nz b 8).1 + (nz b 8).2.1) 8 (by omega)
        simp; omega
    | false =>
      show (txt4 b).length ≤ 500
      unfold txt4
      refine Nat.le_trans (join_len' 46 _ 21 (fun x hx => ?_)) ?_
      · obtain ⟨j, _, rfl⟩ := List.mem_map.1 hx
        exact numb_len _ _ _
      · rw [List.length_map, List.length_take]; omega
  · simp
theorem bits_calls (six : Bool) (b : List UInt8) (hb : b.length = 16) (w : World) :
    Calls Tryz.prog 20 #[adV six b] w fun e w' => e = .returned (.int .i64 (if six = true then 128 else 32)) ∧ Below w.heap.size w w' := by
  have KS : Hid (∀ W, Calls Tryz.prog 88 #[.agg (adA six b)] W fun e w' => e = .returned (.int .i64 (if six = true then 16 else 4)) ∧ Below W.heap.size W w') := Lib.hid (fun W => by
    have c0 := cell_six W (W.alloc (.cells (adA six b) 24)) six b 24 (Below.refl _ _)
    have hsz := adA_size six b hb
    generalize adA six b = ca at *
    have HB := Lib.hid ((Below.refl W.heap.size W).alloc (Nat.le_refl _) (.cells ca 24))
    cases six with
    | true =>
      go_enter Tryz.func88, Tryz.ntmps88
      go_wp2
      go_ret
      exact ⟨rfl, HB.out⟩
    | false =>
      go_enter Tryz.func88, Tryz.ntmps88
      go_wp2
      go_ret
      exact ⟨rfl, HB.out⟩)
  have hsz := adA_size six b hb
  have hl0 := load_ad six b hb w _ (Below.refl _ _)
  show Calls Tryz.prog 20 #[.agg (adA six b)] w fun e w' => e = .returned (.int .i64 (if six = true then 128 else 32)) ∧ Below w.heap.size w w'
  generalize adA six b = ca at *
  cases six with
  | true =>
    go_enter Tryz.func20, Tryz.ntmps20
    go_wp2_with (go_at_call 88; ((with_reducible refine (KS.out _).mono ?_); rintro e w1 ⟨rfl, hb1⟩; have HB1 := Lib.hid hb1; clear hb1))
    go_ret
    first | exact ⟨rfl, HB1.out⟩ | exact ⟨rfl, below_allocd HB1.out⟩
  | false =>
    go_enter Tryz.func20, Tryz.ntmps20
    go_wp2_with (go_at_call 88; ((with_reducible refine (KS.out _).mono ?_); rintro e w1 ⟨rfl, hb1⟩; have HB1 := Lib.hid hb1; clear hb1))
    go_ret
    first | exact ⟨rfl, HB1.out⟩ | exact ⟨rfl, below_allocd HB1.out⟩
end Go.Proofs.YtmcgkknpkocgoaaGreatDoor.Ad

/- linkboyref02.numeral. -/
namespace Go.Proofs.YtmcgkknpkocgoaaGreatDoor.Ad
open Go.RowKit Go.Proofs.YtmcgkknpkocgoaaGreatDoor.Mem Go.Proofs.YtmcgkknpkocgoaaGreatDoor.Num Go.Proofs.YtmcgkknpkocgoaaGreatDoor.Err Go.Proofs.YtmcgkknpkocgoaaGreatDoor.AdP
set_option linter.unusedVariables false
set_option linter.unusedSimpArgs false
set_option maxRecDepth 100000
/-- The figures. -/
abbrev figs : ByteArray := ⟨#[48, 49, 50, 51, 52, 53, 54, 55, 56, 57, 97, 98, 99, 100, 101, 102]⟩
theorem figs_cut : ∀ n : Nat, n < 16 → figs.extract n (n + 1) = str [dig n] := by
  intro n h
  have key : ∀ k : Fin 16, (figs.extract k (k + 1)).data = (str [dig k]).data := by decide
  exact ByteArray.ext (key ⟨n, h⟩)
theorem cut_fig (r : Nat) (h : r < 16) (W : World) : (Instr.slice 9 (.string figs) (some (.int .i64 (r : Int))) (some (.int .i64 ((r : Int) + 1))) none).run Tryz.prog W = .ok (.string (str [dig r])) W := by
  rcases (show r = 0 ∨ r = 1 ∨ r = 2 ∨ r = 3 ∨ r = 4 ∨ r = 5 ∨ r = 6 ∨ r = 7 ∨ r = 8 ∨ r = 9 ∨ r = 10 ∨ r = 11 ∨ r = 12 ∨ r = 13 ∨ r = 14 ∨ r = 15 by omega) with rfl | rfl | rfl | rfl | rfl | rfl | rfl | rfl | rfl | rfl | rfl | rfl | rfl | rfl | rfl | rfl
  all_goals kernel_rfl
theorem div_letter (n b q : Nat) (hb : 0 < b) (hb2 : b ≤ 16) (hn : n < 65536) (hq : q = n / b) (W : World) : (binOp .quo 3 (.int .i64 (n : Int)) (.int .i64 (b : Int))).run Tryz.prog W = .ok (.int .i64 (q : Int)) W := by
  have h0 : (b : Int) ≠ 0 := by omega
  have h1 : ((n : Int).tdiv (b : Int)) = (q : Int) := by rw [Int.tdiv_eq_ediv_of_nonneg (by omega), hq]; rfl
  have hq2 : q < 65536 := by rw [hq]; exact Nat.lt_of_le_of_lt (Nat.div_le_self _ _) hn
  have h2 : IntKind.i64.wrap (q : Int) = (q : Int) := by rw [IntKind.wrap_i64]; omega
  have h3 : ¬ b = 0 := by omega
  simp [go_sem, h0, h1, h2, h3]
theorem mod_letter (n b r : Nat) (hb : 0 < b) (hb2 : b ≤ 16) (hn : n < 65536) (hr : r = n % b) (W : World) : (binOp .rem 3 (.int .i64 (n : Int)) (.int .i64 (b : Int))).run Tryz.prog W = .ok (.int .i64 (r : Int)) W := by
  have h0 : (b : Int) ≠ 0 := by omega
  have h1 : ((n : Int).tmod (b : Int)) = (r : Int) := by rw [Int.tmod_eq_emod_of_nonneg (by omega), hr]; rfl
  have hr2 : r < 65536 := by rw [hr]; exact Nat.lt_of_le_of_lt (Nat.mod_le _ _) hn
  have h2 : IntKind.i64.wrap (r : Int) = (r : Int) := by rw [IntKind.wrap_i64]; omega
  have h3 : ¬ b = 0 := by omega
  simp [go_sem, h0, h1, h2, h3]
set_option maxHeartbeats 2000000 in
theorem numeral_calls (bb : Nat) (hbb : bb = 10 ∨ bb = 16) : ∀ (f n : Nat), f ≤ 50 → n < 65536 → n < bb ^ (f + 1) → ∀ W, Calls Tryz.prog 84 #[.int .i64 (n : Int), .int .i64 (bb : Int)] W fun e w' => e = .returned (.string (str (numb bb f n))) ∧ ∃ m, w' = W.drewN m
  | f, n, hf5, hn, hf, W => by
    have hni : (n : Int) < 65536 := by omega
    have hb0 : 0 < bb := by omega
    have hb16 : bb ≤ 16 := by omega
    by_cases hs : n < bb
    · rw [numb_small _ _ _ hs, ← figs_cut n (by omega)]
      have hsi : (n : Int) < (bb : Int) := by omega
      have hsj : (n : Int) < 16 := by omega
      clear hn hf hs hbb
      go_enter Tryz.func84, Tryz.ntmps84
      go_wp2
      go_ret
      exact ⟨rfl, 0, rfl⟩
    · obtain ⟨f, rfl⟩ : ∃ g, f = g + 1 := by
        cases f with
        | zero => exact absurd hf (by simpa using hs)
        | succ f => exact ⟨f, rfl⟩
      have hq : n / bb < bb ^ (f + 1) := by
        rw [Nat.div_lt_iff_lt_mul hb0]
        rw [Nat.pow_succ] at hf
        exact hf
      have hq1 : n / bb < 65536 := Nat.lt_of_le_of_lt (Nat.div_le_self _ _) hn
      have hr1 : n % bb < bb := Nat.mod_lt _ hb0
      have IH := numeral_calls bb hbb f (n / bb) (by omega) hq1 hq
      rw [numb_big _ _ _ hs]
      have hxl := numb_len bb f (n / bb)
      have hd := fun W => div_letter n bb (n / bb) hb0 hb16 hn rfl W
      have hm := fun W => mod_letter n bb (n % bb) hb0 hb16 hn rfl W
      have h0 : ¬ bb = 0 := by omega
      have h1 : ((n : Int).tdiv (bb : Int)) = ((n / bb : Nat) : Int) := by rw [Int.tdiv_eq_ediv_of_nonneg (by omega)]; rfl
      have h2 : ((n : Int).tmod (bb : Int)) = ((n % bb : Nat) : Int) := by rw [Int.tmod_eq_emod_of_nonneg (by omega)]; rfl
      obtain ⟨q, hqq⟩ : ∃ q : Nat, q = n / bb := ⟨_, rfl⟩
      obtain ⟨r, hrr⟩ : ∃ r : Nat, r = n % bb := ⟨_, rfl⟩
      rw [← hqq] at IH hxl hd h1 hq1 ⊢
      rw [← hrr] at hm h2 hr1 ⊢
      have hc := fun W => cut_fig r (by omega) W
      unfold figs at hc
      have hri : (r : Int) < 16 := by omega
      have hqi : (q : Int) < 65536 := by omega
      have hsi : (bb : Int) ≤ (n : Int) := by omega
      have hbi : (bb : Int) ≤ 16 := by omega
      have hw : IntKind.i64.wrap ((r : Int) + 1) = (r : Int) + 1 := by rw [IntKind.wrap_i64]; omega
      have hwq : IntKind.i64.wrap (q : Int) = (q : Int) := by rw [IntKind.wrap_i64]; omega
      have hwr : IntKind.i64.wrap (r : Int) = (r : Int) := by rw [IntKind.wrap_i64]; omega
      have hA := add_str (str (numb bb f q)) (str [dig r]) (by rw [sz, sz]; simp; omega)
      have hz : ¬ 9223372036854775807 < (str (numb bb f q)).size + (str [dig r]).size := by rw [sz, sz]; simp; omega
      have HSE := Lib.hid (show str (numb bb f q) ++ str [dig r] = str (numb bb f q ++ [dig r]) from str_cat _ _)
      have HI := Lib.hid IH
      clear hxl IH hq hf hn hqq hrr hbb hr1 hq1 hf5 hd hm
      have HC := Lib.hid hc
      have HA := Lib.hid hA
      clear hc hA
      generalize str (numb bb f q ++ [dig r]) = S at *
      generalize str (numb bb f q) = x at *
      generalize str [dig r] = y at *
      go_enter Tryz.func84, Tryz.ntmps84
      go_upto_region 4 with (fail)
      generalize hF : (ByteArray.mk #[48, 49, 50, 51, 52, 53, 54, 55, 56, 57, 97, 98, 99, 100, 101, 102]) = F at *
      have hc := HC.out
      have hA := HA.out
      go_quiet ((go_at_call 84; exact Calls.quiet_of (HI.out _)))
      all_goals go_wp2
      all_goals (go_ret; exact ⟨by rw [HSE.out]; rfl, _, rfl⟩)
end Go.Proofs.YtmcgkknpkocgoaaGreatDoor.Ad

/- linkboyref02.Format: the text of eight groups. -/
namespace Go.Proofs.YtmcgkknpkocgoaaGreatDoor.Ad
open Go.RowKit Go.Proofs.YtmcgkknpkocgoaaGreatDoor.Mem Go.Proofs.YtmcgkknpkocgoaaGreatDoor.Num Go.Proofs.YtmcgkknpkocgoaaGreatDoor.Err Go.Proofs.YtmcgkknpkocgoaaGreatDoor.AdP
open Go.Proofs.YtmcgkknpkocgoaaGreatDoor.Head (pad pad_len adCells_one adCells_len infoAd splice_ad)
open Go.Proofs.YtmcgkknpkocgoaaGreatDoor.Addr (adV adA adCells adA_size cell_box load_box cell_six)
set_option linter.unusedVariables false
set_option linter.unusedSimpArgs false
set_option maxRecDepth 100000
attribute [-go_sem] Builtin.append_ loadCells loadCellsFrom storeCells
def tailF : Nat → Code → Code
  | 0, c => c
  | n + 1, .seq _ b => tailF n b
  | _ + 1, c => c
/-- The document's format, from its n-th part on. -/
noncomputable def pF (n : Nat) : Code := tailF n (Tryz.f18.body.getD .skip)
/-- The groups, as numbers. -/
def grps (b : List UInt8) : List Int := (List.range 8).map (fun i => (grp b i : Int))
theorem grps_len (b : List UInt8) : (grps b).length = 8 := by simp [grps]
theorem grps_at (b : List UInt8) (i : Nat) (h : i < 8) : (grps b)[i]'(by rw [grps_len]; exact h) = (grp b i : Int) := by simp [grps]
theorem docT_len (b : List UInt8) (f m i : Nat) (h : f + m ≤ 8) (hi : i ≤ 8) : (docT b f m i).length ≤ 500 := by
  unfold docT
  have q1 := textsL_len b 0 f (by omega)
  have q2 := textsL_len b (f + m) i hi
  have q3 := textsL_len b 0 i hi
  split
  · simp; omega
  · omega
set_option maxHeartbeats 8000000 in
theorem fmt12 (b : List UInt8) (f m : Nat) (hfm : f + m ≤ 8) (hm1 : 1 ≤ m) (w wc : World) (gA : Option Addr) (gc : Nat) (hW : Below w.heap.size w wc) (hg : Row eInt wc (.slice gA 8 gc) (grps b))
    (u0 u1 u2 u4 u6 u9 u10 u11 u12 u13 u14 u15 u16 u17 u18 u19 u20 u21 u22 u23 u24 u25 u26 u27 u28 u29 u30 u31 u32 u33 u34 u35 u36 u37 u38 u39 u40 u41 u42 u43 u44 u45 u46 u47 u48 u49 u50 u51 u52 u53 u54 u55 u56 u57 u58 u59 u60 u61 u62 u63 u64 u65 u66 u67 u68 u69 u70 u71 u72 u73 u74 u75 u76 u77 u78 u79 u80 u81 u82 u83 u84 u85 u86 u87 u88 u89 u90 u91 u92 u93 u94 u95 u96 u97 u98 u99 u100 u101 u102 u103 u104 u105 u106 u107 u108 u109 u110 u111 u112 u113 u114 u115 u116 u117 u118 u119 u120 : Value) :
    Code.wp Tryz.prog (pF 8) (bodyPost Tryz.prog Tryz.f18 fun e w' => e = .returned (.string (str (docT b f m 8))) ∧ Below w.heap.size w w') ⟨#[u0, u1, u2, .string ByteArray.empty, u4, .slice gA 8 gc, u6, .int .i64 (f : Int), .int .i64 (m : Int), u9, u10, u11, u12, u13, u14, u15, u16, u17, u18, u19, u20, u21, u22, u23, u24, u25, u26, u27, u28, u29, u30, u31, u32, u33, u34, u35, u36, u37, u38, u39, u40, u41, u42, u43, u44, u45, u46, u47, u48, u49, u50, u51, u52, u53, u54, u55, u56, u57, u58, u59, u60, u61, u62, u63, u64, u65, u66, u67, u68, u69, u70, u71, u72, u73, u74, u75, u76, u77, u78, u79, u80, u81, u82, u83, u84, u85, u86, u87, u88, u89, u90, u91, u92, u93, u94, u95, u96, u97, u98, u99, u100, u101, u102, u103, u104, u105, u106, u107, u108, u109, u110, u111, u112, u113, u114, u115, u116, u117, u118, u119, u120], []⟩ wc := by
  have HG := Lib.hid hg
  have HW := Lib.hid hW
  have HM := Lib.hid hfm
  have HM1 := Lib.hid hm1
  have hgc := hg.cap
  have KN : Hid (∀ (n : Nat), n < 65536 → ∀ W, Calls Tryz.prog 84 #[.int .i64 (n : Int), .int .i64 16] W fun e w' => e = .returned (.string (str (numb 16 20 n))) ∧ ∃ m, w' = W.drewN m) := Lib.hid (fun n hn W => numeral_calls 16 (.inr rfl) 20 n (by omega) hn (Nat.lt_trans hn (by decide)) W)
  have hgc1 : (8 : Int) ≤ (gc : Int) := by have := hgc.1; rw [grps_len] at this; omega
  have hgc2 : (gc : Int) ≤ 9223372036854775807 := by have := hgc.2.1; unfold maxLen at this; omega
  clear hg hW hgc
  have hF0 : (0 : Int) ≤ (f : Int) := by omega
  have hM0 : (1 : Int) ≤ (m : Int) := by omega
  have hFM : (f : Int) + (m : Int) ≤ 8 := by omega
  clear hfm hm1
  obtain ⟨F, hF⟩ : ∃ F : Int, F = (f : Int) := ⟨_, rfl⟩
  obtain ⟨M, hM⟩ : ∃ M : Int, M = (m : Int) := ⟨_, rfl⟩
  rw [← hF] at hF0 hFM ⊢
  rw [← hM] at hM0 hFM ⊢
  have HF := Lib.hid hF
  have HMM := Lib.hid hM
  clear hF hM
  unfold pF
  conv => arg 2; whnf
  go_wp2
  go_loopw [3, 11] (fun sv iv wr => ∃ (i : Nat) (I : Int) (s : ByteArray), iv = .int .i64 I ∧ sv = .string s ∧ Hid (I = (i : Int)) ∧ Hid (s = str (docT b f m i)) ∧ Hid (i ≤ 8) ∧ Hid (¬ (1 < m ∧ f < i ∧ i < f + m)) ∧ Hid (Below wc.heap.size wc wr)) (fun _ iv _ => 8 - (intOf iv).toNat)
  case atStart => exact ⟨0, 0, _, rfl, rfl, Lib.hid rfl, Lib.hid (by rw [docT_zero]; rfl), Lib.hid (by omega), Lib.hid (by omega), Lib.hid (Below.refl _ _)⟩
  case round =>
    obtain ⟨i, I, s, rfl, rfl, HI, HS, HL8, HN, HB⟩ := hrel
    have hI0 : (0 : Int) ≤ I := by have := HI.out; omega
    have hI8 : I ≤ 8 := by have := HI.out; have := HL8.out; omega
    have hs1 : (s.size : Int) ≤ 500 := by rw [HS.out, sz]; have := docT_len b f m i HM.out HL8.out; omega
    have hzA : ¬ 9223372036854775807 < s.size + 2 := by omega
    have hzB : ¬ 9223372036854775807 < s.size + 1 := by omega
    by_cases hlt : I < 8
    · have hi8 : i < 8 := by have := HI.out; omega
      by_cases hh : 1 < m ∧ i = f
      · have h1M : 1 < M := by have := HMM.out; omega
        obtain rfl : I = F := by have := HI.out; have := HF.out; omega
        have HS2 := Lib.hid (show s ++ ⟨#[58, 58]⟩ = str (docT b f m (f + m)) by rw [docT_hole b f m hh.1, HS.out, hh.2, ← str_cat])
        have HIN := Lib.hid (show I + M = ((f + m : Nat) : Int) by have := HF.out; have := HMM.out; omega)
        clear hh hi8
        go_wp2
        go_roundw
        case rel => exact ⟨f + m, I + M, _, by (first | go_num | (congr 1; omega)), rfl, HIN, HS2, HM, Lib.hid (by omega), HB⟩
        case measure => simp [intOf]; omega
      · have hcell := (HG.out.below HB.out).atInt (k := i) (by rw [grps_len]; exact hi8)
        rw [grps_at b i hi8] at hcell
        obtain ⟨ad, rfl, hcell⟩ := hcell
        have hidx : I.toNat = i := by have := HI.out; omega
        replace hcell : wr.cell? (ad.add I.toNat) = some (.int .i64 (grp b i : Int)) := by rw [hidx]; exact hcell
        have KN1 := Lib.hid (KN.out (grp b i) (grp_lt b i))
        have hgl := numb_len 16 20 (grp b i)
        have hG0 : (0 : Int) ≤ (grp b i : Int) := by omega
        have hstep := docT_step b f m i hh HN.out
        have hhI : (1 < M ∧ I = F) → False := fun h => hh ⟨by have := HMM.out; omega, by have := HI.out; have := HF.out; omega⟩
        have HNX := Lib.hid (show ¬ (1 < m ∧ f < i + 1 ∧ i + 1 < f + m) by have := HN.out; omega)
        have HI2 := Lib.hid (show I + 1 = ((i + 1 : Nat) : Int) by have := HI.out; omega)
        have H82 : Hid (i + 1 ≤ 8) := Lib.hid (by omega)
        have hcol : (0 < i ∧ ¬ (1 < m ∧ i = f + m)) ↔ (0 < I ∧ ¬ (1 < M ∧ I = F + M)) := by
          have := HI.out; have := HF.out; have := HMM.out
          omega
        clear hidx hh hi8
        have hD1 : ((str (numb 16 20 (grp b i))).size : Int) ≤ 500 := by rw [sz]; omega
        by_cases hc : 0 < I ∧ ¬ (1 < M ∧ I = F + M)
        · rw [if_pos (hcol.2 hc)] at hstep
          have HST := Lib.hid (show s ++ ⟨#[58]⟩ ++ str (numb 16 20 (grp b i)) = str (docT b f m (i + 1)) by rw [hstep, HS.out, ← str_cat, ← str_cat]; rfl)
          have hzC : ¬ 9223372036854775807 < s.size + 1 + (str (numb 16 20 (grp b i))).size := by omega
          clear hstep hcol hgl
          generalize str (numb 16 20 (grp b i)) = D at *
          generalize grp b i = G at *
          have h0I := hc.1
          by_cases h1M : 1 < M
          · have hne : ¬ I = F := fun h => hhI ⟨h1M, h⟩
            have hne2 : ¬ I = F + M := fun h => hc.2 ⟨h1M, h⟩
            have hb1 : (I == F) = false := beq_eq_false_iff_ne.mpr hne
            have hb2 : (I == F + M) = false := beq_eq_false_iff_ne.mpr hne2
            clear hhI hc
            go_wp2_with (go_at_call 84; ((with_reducible refine (KN1.out _).mono ?_); rintro e w2 ⟨rfl, q, rfl⟩))
            go_roundw
            case rel => exact ⟨i + 1, I + 1, _, by (first | rfl | go_num), rfl, HI2, HST, H82, HNX, Lib.hid (below_drewN HB.out _)⟩
            case measure => simp [intOf]; omega
          · clear hhI hc
            have hM1 : M ≤ 1 := by omega
            go_wp2_with (go_at_call 84; ((with_reducible refine (KN1.out _).mono ?_); rintro e w2 ⟨rfl, q, rfl⟩))
            go_roundw
            case rel => exact ⟨i + 1, I + 1, _, by (first | rfl | go_num), rfl, HI2, HST, H82, HNX, Lib.hid (below_drewN HB.out _)⟩
            case measure => simp [intOf]; omega
        · rw [if_neg (fun h => hc (hcol.1 h))] at hstep
          have HST := Lib.hid (show s ++ str (numb 16 20 (grp b i)) = str (docT b f m (i + 1)) by rw [hstep, HS.out, List.append_nil, ← str_cat]; rfl)
          have hzC : ¬ 9223372036854775807 < s.size + (str (numb 16 20 (grp b i))).size := by omega
          clear hstep hcol hgl
          generalize str (numb 16 20 (grp b i)) = D at *
          generalize grp b i = G at *
          by_cases h0I : 0 < I
          · have h1M : 1 < M := by omega
            have hne : ¬ I = F := fun h => hhI ⟨h1M, h⟩
            obtain rfl : I = F + M := by omega
            have hb1 : (F + M == F) = false := beq_eq_false_iff_ne.mpr hne
            clear hhI hc
            go_wp2_with (go_at_call 84; ((with_reducible refine (KN1.out _).mono ?_); rintro e w2 ⟨rfl, q, rfl⟩))
            go_roundw
            case rel => exact ⟨i + 1, F + M + 1, _, by (first | rfl | go_num), rfl, HI2, HST, H82, HNX, Lib.hid (below_drewN HB.out _)⟩
            case measure => simp [intOf]; omega
          · by_cases h1M : 1 < M
            · have hne : ¬ I = F := fun h => hhI ⟨h1M, h⟩
              clear hhI hc
              go_wp2_with (go_at_call 84; ((with_reducible refine (KN1.out _).mono ?_); rintro e w2 ⟨rfl, q, rfl⟩))
              go_roundw
              case rel => exact ⟨i + 1, I + 1, _, by (first | rfl | go_num), rfl, HI2, HST, H82, HNX, Lib.hid (below_drewN HB.out _)⟩
              case measure => simp [intOf]; omega
            · clear hhI hc
              go_wp2_with (go_at_call 84; ((with_reducible refine (KN1.out _).mono ?_); rintro e w2 ⟨rfl, q, rfl⟩))
              go_roundw
              case rel => exact ⟨i + 1, I + 1, _, by (first | rfl | go_num), rfl, HI2, HST, H82, HNX, Lib.hid (below_drewN HB.out _)⟩
              case measure => simp [intOf]; omega
    · obtain rfl : I = 8 := by omega
      have hi8 : i = 8 := by have := HI.out; omega
      subst hi8
      go_wp2
      (first | exact bodyPost_ret (v := .string s) (by simp [results, Tryz.results18, go_sem]) rfl ⟨by rw [HS.out], HW.out.trans (HB.out.mono HW.out.size)⟩ | (go_step; exact bodyPost_ret (v := .string s) (by simp [results, Tryz.results18, go_sem]) rfl ⟨by rw [HS.out], HW.out.trans (HB.out.mono HW.out.size)⟩))
end Go.Proofs.YtmcgkknpkocgoaaGreatDoor.Ad

/- linkboyref02.Format: the longest row of noughts. -/
namespace Go.Proofs.YtmcgkknpkocgoaaGreatDoor.Ad
open Go.RowKit Go.Proofs.YtmcgkknpkocgoaaGreatDoor.Mem Go.Proofs.YtmcgkknpkocgoaaGreatDoor.Num Go.Proofs.YtmcgkknpkocgoaaGreatDoor.Err Go.Proofs.YtmcgkknpkocgoaaGreatDoor.AdP
open Go.Proofs.YtmcgkknpkocgoaaGreatDoor.Head (pad pad_len adCells_one adCells_len infoAd splice_ad)
open Go.Proofs.YtmcgkknpkocgoaaGreatDoor.Addr (adV adA adCells adA_size cell_box load_box cell_six)
set_option linter.unusedVariables false
set_option linter.unusedSimpArgs false
set_option maxRecDepth 100000
attribute [-go_sem] Builtin.append_ loadCells loadCellsFrom storeCells
theorem bl_pos (b : List UInt8) : 1 ≤ (blL (zs b) 0 0 1).2 := by
  rw [bl_nz]
  split
  · simp
  · simp; omega
set_option maxHeartbeats 8000000 in
theorem fmt6w (b : List UInt8) (w wc : World) (gA : Option Addr) (gc : Nat) (hW : Below w.heap.size w wc) (hg : Row eInt wc (.slice gA 8 gc) (grps b))
    (u0 u1 u2 u4 u6 u7 u8 u9 u10 u11 u12 u13 u14 u15 u16 u17 u18 u19 u20 u21 u22 u23 u24 u25 u26 u27 u28 u29 u30 u31 u32 u33 u34 u35 u36 u37 u38 u39 u40 u41 u42 u43 u44 u45 u46 u47 u48 u49 u50 u51 u52 u53 u54 u55 u56 u57 u58 u59 u60 u61 u62 u63 u64 u65 u66 u67 u68 u69 u70 u71 u72 u73 u74 u75 u76 u77 u78 u79 u80 u81 u82 u83 u84 u85 u86 u87 u88 u89 u90 u91 u92 u93 u94 u95 u96 u97 u98 u99 u100 u101 u102 u103 u104 u105 u106 u107 u108 u109 u110 u111 u112 u113 u114 u115 u116 u117 u118 u119 u120 : Value) :
    Code.wp Tryz.prog (pF 6) (bodyPost Tryz.prog Tryz.f18 fun e w' => e = .returned (.string (str (fmt6 b))) ∧ Below w.heap.size w w') ⟨#[u0, u1, u2, .string ByteArray.empty, u4, .slice gA 8 gc, u6, u7, u8, u9, u10, u11, u12, u13, u14, u15, u16, u17, u18, u19, u20, u21, u22, u23, u24, u25, u26, u27, u28, u29, u30, u31, u32, u33, u34, u35, u36, u37, u38, u39, u40, u41, u42, u43, u44, u45, u46, u47, u48, u49, u50, u51, u52, u53, u54, u55, u56, u57, u58, u59, u60, u61, u62, u63, u64, u65, u66, u67, u68, u69, u70, u71, u72, u73, u74, u75, u76, u77, u78, u79, u80, u81, u82, u83, u84, u85, u86, u87, u88, u89, u90, u91, u92, u93, u94, u95, u96, u97, u98, u99, u100, u101, u102, u103, u104, u105, u106, u107, u108, u109, u110, u111, u112, u113, u114, u115, u116, u117, u118, u119, u120], []⟩ wc := by
  have hgc := hg.cap
  have hgc1 : (8 : Int) ≤ (gc : Int) := by have := hgc.1; rw [grps_len] at this; omega
  have hgc2 : (gc : Int) ≤ 9223372036854775807 := by have := hgc.2.1; unfold maxLen at this; omega
  obtain ⟨ad, rfl, -⟩ := hg.atInt (k := 0) (by rw [grps_len]; omega)
  have HC : Hid (∀ j, j < 8 → wc.cell? (ad.add j) = some (.int .i64 (grp b j : Int))) := Lib.hid (fun j hj => by
    obtain ⟨ad', he, hc⟩ := hg.atInt (k := j) (by rw [grps_len]; exact hj)
    cases he
    rw [grps_at b j hj] at hc
    exact hc)
  have HG := Lib.hid hg
  have HW := Lib.hid hW
  clear hg hW hgc
  unfold pF
  conv => arg 2; whnf
  go_wp2
  go_loop [7, 8, 9, 10] (fun fv mv iv nv => ∃ (i f m : Nat) (I F M : Int), iv = .int .i64 I ∧ fv = .int .i64 F ∧ mv = .int .i64 M ∧ Hid (I = (i : Int)) ∧ Hid (F = (f : Int)) ∧ Hid (M = (m : Int)) ∧ Hid (i ≤ 8) ∧ Hid (blL ((zs b).drop i) i f m = blL (zs b) 0 0 1)) (fun _ _ iv _ => 8 - (intOf iv).toNat)
  case atStart => exact ⟨0, 0, 1, 0, 0, 1, rfl, rfl, rfl, Lib.hid rfl, Lib.hid rfl, Lib.hid rfl, Lib.hid (by omega), Lib.hid rfl⟩
  case round =>
    obtain ⟨i, f, m, I, F, M, rfl, rfl, rfl, HI, HF, HM, HL8, HB⟩ := hrel
    have hI0 : (0 : Int) ≤ I := by have := HI.out; omega
    have hI8 : I ≤ 8 := by have := HI.out; have := HL8.out; omega
    by_cases hlt : I < 8
    · have hi8 : i < 8 := by have := HI.out; omega
      have HBS := Lib.hid (bl_step b i f m hi8)
      have H82 : Hid (i + 1 ≤ 8) := Lib.hid (by omega)
      have HI2 := Lib.hid (show I + 1 = ((i + 1 : Nat) : Int) by have := HI.out; omega)
      clear hi8
      go_wp2
      go_loop [10] (fun nv => ∃ (n : Nat) (K : Int), nv = .int .i64 K ∧ Hid (K = (n : Int)) ∧ Hid (i + n ≤ 8) ∧ Hid (zrB ((zs b).drop i) = n + zrB ((zs b).drop (i + n)))) (fun nv => 8 - (intOf nv).toNat)
      case atStart => exact ⟨0, 0, rfl, Lib.hid rfl, Lib.hid (by have := H82.out; omega), Lib.hid (by simp)⟩
      case round =>
        obtain ⟨n, K, rfl, HK, HN8, HZ⟩ := hrel
        have hK0 : (0 : Int) ≤ K := by have := HK.out; omega
        have hIK8 : I + K ≤ 8 := by have := HK.out; have := HI.out; have := HN8.out; omega
        by_cases hin : I + K < 8
        · have hin8 : i + n < 8 := by have := HK.out; have := HI.out; omega
          have hcell := HC.out (i + n) hin8
          have hz := zr_zero b (i + n) hin8
          have hz2 := zr_not b (i + n) hin8
          have hidx : (I + K).toNat = i + n := by have := HK.out; have := HI.out; omega
          replace hcell : wc.cell? (ad.add (I + K).toNat) = some (.int .i64 (grp b (i + n) : Int)) := by rw [hidx]; exact hcell
          clear hidx
          by_cases hg0 : grp b (i + n) = 0
          · have HZ2 := Lib.hid (show zrB ((zs b).drop i) = (n + 1) + zrB ((zs b).drop (i + (n + 1))) by rw [HZ.out, hz hg0, Nat.add_assoc i n 1]; omega)
            have HN2 : Hid (i + (n + 1) ≤ 8) := Lib.hid (by omega)
            have HK2 := Lib.hid (show K + 1 = ((n + 1 : Nat) : Int) by have := HK.out; omega)
            rw [hg0] at hcell
            clear hz hz2 hg0 hin8
            go_wp2
            go_round
            case rel => exact ⟨n + 1, K + 1, by (first | rfl | go_num), HK2, HN2, HZ2⟩
            case measure => simp [intOf]; omega
          · have HZ2 := Lib.hid (show zrB ((zs b).drop i) = n by rw [HZ.out, hz2 hg0]; rfl)
            have hq0 : ((grp b (i + n) : Int) == 0) = false := beq_eq_false_iff_ne.mpr (by omega)
            have hq1 : ((grp b (i + n) : Int) != 0) = true := bne_iff_ne.mpr (by omega)
            have HG0 := Lib.hid hg0
            clear hz hz2 hg0 hin8
            generalize grp b (i + n) = G at *
            by_cases hML : M < K
            · have HB2 := Lib.hid (show blL ((zs b).drop (i + 1)) (i + 1) i n = blL (zs b) 0 0 1 by
                have h := HBS.out
                rw [HZ2.out, if_pos (by have := HM.out; have := HK.out; omega)] at h
                rw [← h]; exact HB.out)
              go_wp2
              go_round
              case rel => exact ⟨i + 1, i, n, I + 1, I, K, by (first | rfl | go_num), by (first | rfl | go_num), by (first | rfl | go_num), HI2, HI, HK, H82, HB2⟩
              case measure => simp [intOf]; omega
            · have HB2 := Lib.hid (show blL ((zs b).drop (i + 1)) (i + 1) f m = blL (zs b) 0 0 1 by
                have h := HBS.out
                rw [HZ2.out, if_neg (by have := HM.out; have := HK.out; omega)] at h
                rw [← h]; exact HB.out)
              go_wp2
              go_round
              case rel => exact ⟨i + 1, f, m, I + 1, F, M, by (first | rfl | go_num), by (first | rfl | go_num), by (first | rfl | go_num), HI2, HF, HM, H82, HB2⟩
              case measure => simp [intOf]; omega
        · have hin8 : i + n = 8 := by have := HK.out; have := HI.out; have := HN8.out; omega
          have HZ2 := Lib.hid (show zrB ((zs b).drop i) = n by rw [HZ.out, hin8, zr_end]; rfl)
          clear hin8
          by_cases hML : M < K
          · have HB2 := Lib.hid (show blL ((zs b).drop (i + 1)) (i + 1) i n = blL (zs b) 0 0 1 by
              have h := HBS.out
              rw [HZ2.out, if_pos (by have := HM.out; have := HK.out; omega)] at h
              rw [← h]; exact HB.out)
            go_wp2
            go_round
            case rel => exact ⟨i + 1, i, n, I + 1, I, K, by (first | rfl | go_num), by (first | rfl | go_num), by (first | rfl | go_num), HI2, HI, HK, H82, HB2⟩
            case measure => simp [intOf]; omega
          · have HB2 := Lib.hid (show blL ((zs b).drop (i + 1)) (i + 1) f m = blL (zs b) 0 0 1 by
              have h := HBS.out
              rw [HZ2.out, if_neg (by have := HM.out; have := HK.out; omega)] at h
              rw [← h]; exact HB.out)
            go_wp2
            go_round
            case rel => exact ⟨i + 1, f, m, I + 1, F, M, by (first | rfl | go_num), by (first | rfl | go_num), by (first | rfl | go_num), HI2, HF, HM, H82, HB2⟩
            case measure => simp [intOf]; omega
    · obtain rfl : I = 8 := by omega
      have hi8 : i = 8 := by have := HI.out; omega
      subst hi8
      have HE := HB.out
      rw [bl_end] at HE
      have hT := docT_end b
      have hR := bl_range b
      have hP := bl_pos b
      rw [← HE] at hT hR hP
      have KX := fmt12 b f m hR hP w wc (some ad) gc HW.out HG.out
      rw [hT] at KX
      have hFf := HF.out
      have hMm := HM.out
      subst hFf
      subst hMm
      repeat (first | exact KX _ _ _ _ _ _ _ _ _ _ _ _ _ _ _ _ _ _ _ _ _ _ _ _ _ _ _ _ _ _ _ _ _ _ _ _ _ _ _ _ _ _ _ _ _ _ _ _ _ _ _ _ _ _ _ _ _ _ _ _ _ _ _ _ _ _ _ _ _ _ _ _ _ _ _ _ _ _ _ _ _ _ _ _ _ _ _ _ _ _ _ _ _ _ _ _ _ _ _ _ _ _ _ _ _ _ _ _ _ _ _ _ _ _ _ _ _ | go_values | go_skip | go_guarded | go_step | go_upon | go_back)
end Go.Proofs.YtmcgkknpkocgoaaGreatDoor.Ad

/- linkboyref02.Format: the groups; the whole. -/
namespace Go.Proofs.YtmcgkknpkocgoaaGreatDoor.Ad
open Go.RowKit Go.Proofs.YtmcgkknpkocgoaaGreatDoor.Mem Go.Proofs.YtmcgkknpkocgoaaGreatDoor.Num Go.Proofs.YtmcgkknpkocgoaaGreatDoor.Err Go.Proofs.YtmcgkknpkocgoaaGreatDoor.AdP
open Go.Proofs.YtmcgkknpkocgoaaGreatDoor.Head (pad pad_len adCells_one adCells_len infoAd splice_ad)
open Go.Proofs.YtmcgkknpkocgoaaGreatDoor.Addr (adV adA adCells adA_size cell_box load_box cell_six)
set_option linter.unusedVariables false
set_option linter.unusedSimpArgs false
set_option maxRecDepth 100000
attribute [-go_sem] Builtin.append_ loadCells loadCellsFrom storeCells
theorem infoIntF : (Tryz.prog.info? 3).map (fun i => (i.zero, i.size, i.bytes)) = some (some (.int .i64 0), 1, 8) := by kernel_rfl
theorem grps_take (b : List UInt8) (k : Nat) : (List.range k).map (fun i => (grp b i : Int)) ++ [(grp b k : Int)] = (List.range (k + 1)).map (fun i => (grp b i : Int)) := by rw [List.range_succ, List.map_append]; rfl
theorem one_int (x : Int) : (#[Value.int .i64 x] : Array Value) = (eInt.all [x]).toArray := rfl
set_option maxHeartbeats 8000000 in
theorem fmt4w (b : List UInt8) (hb : b.length = 16) (w wc : World) (hW : Below (w.alloc (.cells (adA true b) 24)).heap.size (w.alloc (.cells (adA true b) 24)) wc)
    (u0 u2 u4 u5 u6 u7 u8 u9 u10 u11 u12 u13 u14 u15 u16 u17 u18 u19 u20 u21 u22 u23 u24 u25 u26 u27 u28 u29 u30 u31 u32 u33 u34 u35 u36 u37 u38 u39 u40 u41 u42 u43 u44 u45 u46 u47 u48 u49 u50 u51 u52 u53 u54 u55 u56 u57 u58 u59 u60 u61 u62 u63 u64 u65 u66 u67 u68 u69 u70 u71 u72 u73 u74 u75 u76 u77 u78 u79 u80 u81 u82 u83 u84 u85 u86 u87 u88 u89 u90 u91 u92 u93 u94 u95 u96 u97 u98 u99 u100 u101 u102 u103 u104 u105 u106 u107 u108 u109 u110 u111 u112 u113 u114 u115 u116 u117 u118 u119 u120 : Value) :
    Code.wp Tryz.prog (pF 4) (bodyPost Tryz.prog Tryz.f18 fun e w' => e = .returned (.string (str (fmt6 b))) ∧ Below w.heap.size w w') ⟨#[u0, .pointer (some ⟨w.heap.size, 0, none⟩), u2, .string ByteArray.empty, u4, u5, u6, u7, u8, u9, u10, u11, u12, u13, u14, u15, u16, u17, u18, u19, u20, u21, u22, u23, u24, u25, u26, u27, u28, u29, u30, u31, u32, u33, u34, u35, u36, u37, u38, u39, u40, u41, u42, u43, u44, u45, u46, u47, u48, u49, u50, u51, u52, u53, u54, u55, u56, u57, u58, u59, u60, u61, u62, u63, u64, u65, u66, u67, u68, u69, u70, u71, u72, u73, u74, u75, u76, u77, u78, u79, u80, u81, u82, u83, u84, u85, u86, u87, u88, u89, u90, u91, u92, u93, u94, u95, u96, u97, u98, u99, u100, u101, u102, u103, u104, u105, u106, u107, u108, u109, u110, u111, u112, u113, u114, u115, u116, u117, u118, u119, u120], []⟩ wc := by
  have HW := Lib.hid hW
  have HCB := Lib.hid (fun W h i hi => cell_byte true b hb w W h i hi)
  have HL := Lib.hid hb
  clear hW
  unfold pF
  conv => arg 2; whnf
  go_wp2
  have hbw : Below wc.heap.size wc (wc.alloc (.cells #[] 3)) := (Below.refl _ _).alloc (Nat.le_refl _) _
  go_loopw [5, 6] (fun gv iv wr => ∃ (k : Nat) (I : Int), iv = .int .i64 I ∧ Hid (I = 2 * (k : Int)) ∧ Hid (k ≤ 8) ∧ Hid (Own eInt 3 wc.heap.size wr gv ((List.range k).map (fun i => (grp b i : Int)))) ∧ Hid (Below wc.heap.size wc wr)) (fun _ iv _ => 16 - (intOf iv).toNat)
  case atStart => exact ⟨0, 0, rfl, Lib.hid rfl, Lib.hid (by omega), Lib.hid (Own.lit wc wc.heap.size eInt 3 [] 0 rfl _ rfl (Nat.le_refl _) (by decide)), Lib.hid hbw⟩
  case round =>
    obtain ⟨k, I, rfl, HI, HK, HO, HB⟩ := hrel
    clear hbw
    have hI0 : (0 : Int) ≤ I := by have := HI.out; omega
    have hI16 : I ≤ 16 := by have := HI.out; have := HK.out; omega
    have HWr := Lib.hid (HW.out.trans (HB.out.mono HW.out.size))
    by_cases hlt : I < 16
    · have hk8 : k < 8 := by have := HI.out; omega
      have hIk : I.toNat = 2 * k := by have := HI.out; omega
      have hIk1 : (I + 1).toNat = 2 * k + 1 := by have := HI.out; omega
      have hc0 := HCB.out wr.drew (below_drewN HWr.out 1) (2 * k) (by omega)
      have hc1 := HCB.out wr.drew (below_drewN HWr.out 1) (2 * k + 1) (by omega)
      replace hc0 : wr.drew.cell? ⟨w.heap.size, 1 + I.toNat, none⟩ = some (.int .u8 ((b[2 * k]'(by have := HL.out; omega)).toNat : Int)) := by rw [hIk]; exact hc0
      replace hc1 : wr.drew.cell? ⟨w.heap.size, 1 + (I + 1).toNat, none⟩ = some (.int .u8 ((b[2 * k + 1]'(by have := HL.out; omega)).toNat : Int)) := by rw [hIk1]; exact hc1
      have hI15 : I + 1 < 16 := by omega
      have hI1p : 0 ≤ I + 1 := by omega
      have hgr : (grp b k : Int) = ((b[2 * k]'(by have := HL.out; omega)).toNat : Int) * 256 + ((b[2 * k + 1]'(by have := HL.out; omega)).toNat : Int) := by
        unfold grp
        rw [getD_lt b (2 * k) (by have := HL.out; omega), getD_lt b (2 * k + 1) (by have := HL.out; omega)]
        omega
      have hx := (b[2 * k]'(by have := HL.out; omega)).toNat_lt
      have hy := (b[2 * k + 1]'(by have := HL.out; omega)).toNat_lt
      have hx0 : (0 : Int) ≤ ((b[2 * k]'(by have := HL.out; omega)).toNat : Int) := by omega
      have hy0 : (0 : Int) ≤ ((b[2 * k + 1]'(by have := HL.out; omega)).toNat : Int) := by omega
      have hx1 : ((b[2 * k]'(by have := HL.out; omega)).toNat : Int) < 256 := by omega
      have hy1 : ((b[2 * k + 1]'(by have := HL.out; omega)).toNat : Int) < 256 := by omega
      obtain ⟨X, hX⟩ : ∃ X : Int, X = ((b[2 * k]'(by have := HL.out; omega)).toNat : Int) := ⟨_, rfl⟩
      obtain ⟨Y, hY⟩ : ∃ Y : Int, Y = ((b[2 * k + 1]'(by have := HL.out; omega)).toNat : Int) := ⟨_, rfl⟩
      rw [← hX] at hc0 hgr hx0 hx1
      rw [← hY] at hc1 hgr hy0 hy1
      have HGR := Lib.hid hgr
      clear hx hy hX hY hgr hIk hIk1
      have w1 : IntKind.i64.wrap X = X := by rw [IntKind.wrap_i64]; omega
      have w2 : IntKind.i64.wrap Y = Y := by rw [IntKind.wrap_i64]; omega
      have w3 : IntKind.i64.wrap (X * 256) = X * 256 := by rw [IntKind.wrap_i64]; omega
      have w4 : IntKind.i64.wrap (X * 256 + Y) = X * 256 + Y := by rw [IntKind.wrap_i64]; omega
      have w5 : IntKind.i64.wrap (I + 1) = I + 1 := by rw [IntKind.wrap_i64]; omega
      have HO1 : Hid (Own eInt 3 wc.heap.size wr.drew _ ((List.range k).map (fun i => (grp b i : Int)))) := Lib.hid (HO.out.drewN 1)
      have HB1 : Hid (Below wc.heap.size wc wr.drew) := Lib.hid (below_drewN HB.out 1)
      have HK2 : Hid (k + 1 ≤ 8) := Lib.hid (by omega)
      have HI2 := Lib.hid (show I + 2 = 2 * ((k + 1 : Nat) : Int) by have := HI.out; omega)
      clear hk8
      go_wp2_with (fail)
      go_region_law (refine step_append (E := eInt) wc.heap.size rfl (.tmp 40) (.tmp 54) 103 3 _ 8 rfl Tryz.underlying103 infoIntF rfl (by decide) _ _ ((List.range k).map (fun i => (grp b i : Int))) [X * 256 + Y] rfl rfl (HO1.out.alloc _) (Own.lit' wr.drew _ rfl 0 eInt 3 [X * 256 + Y] 1 rfl _ rfl (Nat.zero_le _) (by simp)).row (size_alloc_le HB1.out _) (by have := HK.out; simp; omega) ?_; intro v1 ww ho1 hg1 hat1; have HO2 := Lib.hid ho1; have HB2 := Lib.hid (below_app (HB1.out.alloc HB1.out.size _) (size_alloc_le HB1.out _) (HO1.out.alloc _) hg1); clear ho1 hg1 hat1)
      all_goals go_wp2
      all_goals go_roundw
      all_goals first
        | exact ⟨k + 1, I + 2, by (first | rfl | go_num), HI2, HK2, Lib.hid (by have := HO2.out; rw [← HGR.out, grps_take] at this; exact this), HB2⟩
        | (simp [intOf]; omega)
    · have hk8 : k = 8 := by have := HI.out; have := HK.out; omega
      subst hk8
      obtain ⟨A, c, rfl, hc1, hc2, hrow⟩ := HO.out.row.parts
      have hlen : ((List.range 8).map (fun i => (grp b i : Int))).length = 8 := by simp
      rw [hlen] at hrow hc1 ⊢
      have KX := fmt6w b w wr A c (below_allocd HWr.out) hrow
      repeat (first | exact KX _ _ _ _ _ _ _ _ _ _ _ _ _ _ _ _ _ _ _ _ _ _ _ _ _ _ _ _ _ _ _ _ _ _ _ _ _ _ _ _ _ _ _ _ _ _ _ _ _ _ _ _ _ _ _ _ _ _ _ _ _ _ _ _ _ _ _ _ _ _ _ _ _ _ _ _ _ _ _ _ _ _ _ _ _ _ _ _ _ _ _ _ _ _ _ _ _ _ _ _ _ _ _ _ _ _ _ _ _ _ _ _ _ _ _ _ _ _ _ | go_values | go_skip | go_guarded | go_step | go_upon | go_back)
end Go.Proofs.YtmcgkknpkocgoaaGreatDoor.Ad

/- linkboyref02.Format: the whole. -/
namespace Go.Proofs.YtmcgkknpkocgoaaGreatDoor.Ad
open Go.RowKit Go.Proofs.YtmcgkknpkocgoaaGreatDoor.Mem Go.Proofs.YtmcgkknpkocgoaaGreatDoor.Num Go.Proofs.YtmcgkknpkocgoaaGreatDoor.Err Go.Proofs.YtmcgkknpkocgoaaGreatDoor.AdP
open Go.Proofs.YtmcgkknpkocgoaaGreatDoor.Head (pad pad_len adCells_one adCells_len infoAd splice_ad)
open Go.Proofs.YtmcgkknpkocgoaaGreatDoor.Addr (adV adA adCells adA_size cell_box load_box cell_six)
set_option linter.unusedVariables false
set_option linter.unusedSimpArgs false
set_option maxRecDepth 100000
attribute [-go_sem] Builtin.append_ loadCells loadCellsFrom storeCells
/-- The text of the first bytes. -/
def t4 (b : List UInt8) (i : Nat) : List UInt8 := Lib.join ((b.take i).map (fun x => numb 10 20 x.toNat)) [46]
theorem t4_succ (b : List UInt8) (i : Nat) (h : i < b.length) : t4 b (i + 1) = t4 b i ++ (if 0 < i then [46] else []) ++ numb 10 20 (b[i]).toNat := by
  unfold t4
  rw [List.take_add_one, List.getElem?_eq_getElem h, List.map_append]
  simp only [Option.toList_some, List.map_cons, List.map_nil]
  rw [join_snoc]
  by_cases h0 : 0 < i
  · rw [if_neg, if_pos h0]
    intro e
    have := congrArg List.length e
    rw [List.length_map, List.length_take, List.length_nil] at this; omega
  · obtain rfl : i = 0 := by omega
    rw [if_pos (by simp), if_neg h0]; simp [Lib.join_nil]
theorem t4_len (b : List UInt8) (i : Nat) (h : i ≤ 4) : (t4 b i).length ≤ 200 := by
  unfold t4
  refine Nat.le_trans (join_len' 46 _ 21 (fun x hx => ?_)) ?_
  · obtain ⟨j, _, rfl⟩ := List.mem_map.1 hx
    exact numb_len _ _ _
  · rw [List.length_map, List.length_take]; omega
theorem rformat_not (six : Bool) (b : List UInt8) (hb : b.length = 16) (hr : rightA six b = false) (w : World) :
    Calls Tryz.prog 18 #[adV six b] w fun e w' => e = .returned (.string ByteArray.empty) ∧ Below w.heap.size w w' := by
  have KR := Lib.hid (fun W => rright_calls' six b hb W)
  rw [hr] at KR
  have hl0 := load_ad six b hb w _ (Below.refl _ _)
  have hsz := adA_size six b hb
  change Hid (∀ W, Calls Tryz.prog 17 #[.agg (adA six b)] W fun e w' => e = .returned (.bool false) ∧ Below W.heap.size W w') at KR
  show Calls Tryz.prog 18 #[.agg (adA six b)] w fun e w' => e = .returned (.string ByteArray.empty) ∧ Below w.heap.size w w'
  generalize adA six b = ca at *
  go_enter Tryz.func18, Tryz.ntmps18
  go_wp2_with (go_at_call 17; ((with_reducible refine (KR.out _).mono ?_); rintro e w1 ⟨rfl, hb1⟩; have HB1 := Lib.hid (below_allocd hb1); clear hb1))
  go_ret
  exact ⟨rfl, HB1.out⟩
set_option maxHeartbeats 4000000 in
theorem rformat_six (b : List UInt8) (hb : b.length = 16) (w : World) :
    Calls Tryz.prog 18 #[adV true b] w fun e w' => e = .returned (.string (str (fmt6 b))) ∧ Below w.heap.size w w' := by
  have KR : Hid (∀ W, Calls Tryz.prog 17 #[.agg (adA true b)] W fun e w' => e = .returned (.bool true) ∧ Below W.heap.size W w') := Lib.hid (fun W => rright_calls' true b hb W)
  have H6 := Lib.hid (fun W h => cell_six w W true b 24 h)
  have hl0 := load_ad true b hb w _ (Below.refl _ _)
  have hsz := adA_size true b hb
  have KF := Lib.hid (fun wc h => fmt4w b hb w wc h)
  show Calls Tryz.prog 18 #[.agg (adA true b)] w fun e w' => e = .returned (.string (str (fmt6 b))) ∧ Below w.heap.size w w'
  generalize adA true b = ca at *
  go_enter Tryz.func18, Tryz.ntmps18
  go_upto_region 3 with (go_at_call 17; ((with_reducible refine (KR.out _).mono ?_); rintro e w1 ⟨rfl, hb1⟩; have c6 := H6.out _ hb1; have HB1 := Lib.hid hb1; clear hb1))
  have KX := KF.out w1 HB1.out
  repeat (first | exact KX _ _ _ _ _ _ _ _ _ _ _ _ _ _ _ _ _ _ _ _ _ _ _ _ _ _ _ _ _ _ _ _ _ _ _ _ _ _ _ _ _ _ _ _ _ _ _ _ _ _ _ _ _ _ _ _ _ _ _ _ _ _ _ _ _ _ _ _ _ _ _ _ _ _ _ _ _ _ _ _ _ _ _ _ _ _ _ _ _ _ _ _ _ _ _ _ _ _ _ _ _ _ _ _ _ _ _ _ _ _ _ _ _ _ _ _ _ _ _ | go_values | go_skip | go_guarded | go_step | go_upon | go_back)
set_option maxHeartbeats 4000000 in
theorem rformat_four (b : List UInt8) (hb : b.length = 16) (hr : rightA false b = true) (w : World) :
    Calls Tryz.prog 18 #[adV false b] w fun e w' => e = .returned (.string (str (txt4 b))) ∧ Below w.heap.size w w' := by
  have KR := Lib.hid (fun W => rright_calls' false b hb W)
  rw [hr] at KR
  change Hid (∀ W, Calls Tryz.prog 17 #[.agg (adA false b)] W fun e w' => e = .returned (.bool true) ∧ Below W.heap.size W w') at KR
  have HCB := Lib.hid (fun W h i hi => cell_byte false b hb w W h i hi)
  have H6 := Lib.hid (fun W h => cell_six w W false b 24 h)
  have hl0 := load_ad false b hb w _ (Below.refl _ _)
  have hsz := adA_size false b hb
  have KN : Hid (∀ (n : Nat), n < 256 → ∀ W, Calls Tryz.prog 84 #[.int .i64 (n : Int), .int .i64 10] W fun e w' => e = .returned (.string (str (numb 10 20 n))) ∧ ∃ m, w' = W.drewN m) := Lib.hid (fun n hn W => numeral_calls 10 (.inl rfl) 20 n (by omega) (by omega) (Nat.lt_trans hn (by decide)) W)
  have HL := Lib.hid hb
  show Calls Tryz.prog 18 #[.agg (adA false b)] w fun e w' => e = .returned (.string (str (txt4 b))) ∧ Below w.heap.size w w'
  generalize adA false b = ca at *
  clear hr
  go_enter Tryz.func18, Tryz.ntmps18
  go_wp2_with (go_at_call 17; ((with_reducible refine (KR.out _).mono ?_); rintro e w1 ⟨rfl, hb1⟩; have c6 := H6.out _ hb1; have HB1 := Lib.hid hb1; clear hb1))
  clear c6
  go_loopw [3, 4] (fun sv iv wr => ∃ (i : Nat) (I : Int) (s : ByteArray), iv = .int .i64 I ∧ sv = .string s ∧ Hid (I = (i : Int)) ∧ Hid (i ≤ 4) ∧ Hid (s = str (t4 b i)) ∧ Hid (Below w1.heap.size w1 wr)) (fun _ iv _ => 4 - (intOf iv).toNat)
  case atStart => exact ⟨0, 0, _, rfl, rfl, Lib.hid rfl, Lib.hid (by omega), Lib.hid rfl, Lib.hid (Below.refl _ _)⟩
  case round =>
    obtain ⟨i, I, s, rfl, rfl, HI, HI4, HS, HB⟩ := hrel
    have hI0 : (0 : Int) ≤ I := by have := HI.out; omega
    have hI4 : I ≤ 4 := by have := HI.out; have := HI4.out; omega
    have HWr := Lib.hid (HB1.out.trans (HB.out.mono HB1.out.size))
    by_cases hlt : I < 4
    · have hi4 : i < 4 := by have := HI.out; omega
      have hIi : I.toNat = i := by have := HI.out; omega
      have hc := HCB.out wr HWr.out i (by omega)
      have hstep := t4_succ b i (by have := HL.out; omega)
      have hil : i < b.length := by have := HL.out; omega
      have hx := (b[i]'hil).toNat_lt
      have KN1 := Lib.hid (KN.out (b[i]'hil).toNat hx)
      replace hc : wr.cell? ⟨w.heap.size, 1 + I.toNat, none⟩ = some (.int .u8 ((b[i]'hil).toNat : Int)) := by rw [hIi]; exact hc
      have hn := numb_len 10 20 (b[i]'hil).toNat
      have hs1 : (s.size : Int) ≤ 200 := by rw [HS.out, sz]; have := t4_len b i HI4.out; omega
      have hD1 : ((str (numb 10 20 (b[i]'hil).toNat)).size : Int) ≤ 200 := by rw [sz]; omega
      have hzA : ¬ 9223372036854775807 < s.size + 1 := by omega
      have hzB : ¬ 9223372036854775807 < s.size + (str (numb 10 20 (b[i]'hil).toNat)).size := by omega
      have hzC : ¬ 9223372036854775807 < s.size + 1 + (str (numb 10 20 (b[i]'hil).toNat)).size := by omega
      have HI2 := Lib.hid (show I + 1 = ((i + 1 : Nat) : Int) by have := HI.out; omega)
      have H42 : Hid (i + 1 ≤ 4) := Lib.hid (by omega)
      have hx0 : (0 : Int) ≤ ((b[i]'hil).toNat : Int) := by omega
      have hx1 : ((b[i]'hil).toNat : Int) < 256 := by omega
      by_cases h0 : 0 < I
      · rw [if_pos (by have := HI.out; omega)] at hstep
        have HST := Lib.hid (show s ++ ⟨#[46]⟩ ++ str (numb 10 20 (b[i]'hil).toNat) = str (t4 b (i + 1)) by rw [hstep, HS.out, ← str_cat, ← str_cat])
        clear hstep hi4 hIi hx hn
        generalize str (numb 10 20 (b[i]'hil).toNat) = D at *
        generalize (b[i]'hil).toNat = X at *
        clear hil
        go_wp2_with (go_at_call 84; ((with_reducible refine (KN1.out _).mono ?_); rintro e w2 ⟨rfl, q, rfl⟩))
        go_roundw
        case rel => exact ⟨i + 1, I + 1, _, by (first | rfl | go_num), rfl, HI2, H42, HST, Lib.hid (below_drewN HB.out _)⟩
        case measure => simp [intOf]; omega
      · rw [if_neg (by have := HI.out; omega)] at hstep
        have HST := Lib.hid (show s ++ str (numb 10 20 (b[i]'hil).toNat) = str (t4 b (i + 1)) by rw [hstep, HS.out, List.append_nil, ← str_cat])
        clear hstep hi4 hIi hx hn
        generalize str (numb 10 20 (b[i]'hil).toNat) = D at *
        generalize (b[i]'hil).toNat = X at *
        clear hil
        go_wp2_with (go_at_call 84; ((with_reducible refine (KN1.out _).mono ?_); rintro e w2 ⟨rfl, q, rfl⟩))
        go_roundw
        case rel => exact ⟨i + 1, I + 1, _, by (first | rfl | go_num), rfl, HI2, H42, HST, Lib.hid (below_drewN HB.out _)⟩
        case measure => simp [intOf]; omega
    · obtain rfl : I = 4 := by omega
      obtain rfl : i = 4 := by have := HI.out; omega
      have HT : Hid (s = str (txt4 b)) := HS
      clear HS
      go_wp2
      go_ret
      exact ⟨by rw [HT.out]; rfl, below_allocd HWr.out⟩
theorem rformat_calls (six : Bool) (b : List UInt8) (hb : b.length = 16) (w : World) :
    Calls Tryz.prog 18 #[adV six b] w fun e w' => e = .returned (.string (str (txtA six b))) ∧ Below w.heap.size w w' := by
  unfold txtA
  by_cases hr : rightA six b = true
  · rw [if_pos hr]
    cases six with
    | true => exact rformat_six b hb w
    | false => exact rformat_four b hb hr w
  · rw [if_neg hr]
    exact rformat_not six b hb (by simpa using hr) w
end Go.Proofs.YtmcgkknpkocgoaaGreatDoor.Ad

