/- A number of four bytes' text: the code's way and the document's, plainly. -/
import Derived.Test.YtmcgkknpkocgoaaGreatDoorAdV
namespace Go.Proofs.YtmcgkknpkocgoaaGreatDoor.Ad
open Go.RowKit Go.Proofs.YtmcgkknpkocgoaaGreatDoor.Mem Go.Proofs.YtmcgkknpkocgoaaGreatDoor.AdP
set_option linter.unusedVariables false
set_option linter.unusedSimpArgs false
/-- The document's: a number from 0 to 255, no nought ahead. -/
def decR (x : List UInt8) : Int := if number x 10 3 < 0 ∨ 255 < number x 10 3 ∨ (1 < x.length ∧ x[0]? = some 48) then -1 else number x 10 3
def isDig (c : UInt8) : Prop := 48 ≤ c.toNat ∧ c.toNat ≤ 57
theorem fig_dig (c : UInt8) (h : isDig c) : fig c = (c.toNat : Int) - 48 := by unfold isDig at h; unfold fig; rw [if_pos h]
theorem fig_not (c : UInt8) (h : ¬ isDig c) : fig c < 0 ∨ 10 ≤ fig c := by
  unfold isDig at h
  unfold fig
  rw [if_neg h]
  split
  · omega
  · split <;> omega
theorem numL_dig (l : List UInt8) (hl : ∀ c ∈ l, isDig c) : ∀ n : Int, 0 ≤ n → n ≤ numL 10 n l := by
  induction l with
  | nil => intro n _; exact Int.le_refl _
  | cons c l ih =>
    intro n hn
    have hc := hl c (by simp)
    have hf := fig_dig c hc
    have h2 := hc
    unfold isDig at h2
    unfold numL
    rw [if_neg (by omega)]
    have := ih (fun x hx => hl x (by simp [hx])) (n * 10 + fig c) (by omega)
    omega
theorem par_dig : ∀ (l : List UInt8) (hl : ∀ c ∈ l, isDig c) (acc : Nat), acc ≤ 255 → Lib.parseUintM 255 acc l = if numL 10 (acc : Int) l ≤ 255 then .ok (numL 10 (acc : Int) l).toNat else .range
  | [], hl, acc, ha => by
    have e : numL 10 (acc : Int) [] = (acc : Int) := rfl
    rw [e, if_pos (by omega)]
    simp [Lib.parseUintM]
  | c :: r, hl, acc, ha => by
    have hc := hl c (by simp)
    have hf := fig_dig c hc
    have h2 := hc
    unfold isDig at h2
    have hr : ∀ x ∈ r, isDig x := fun x hx => hl x (by simp [hx])
    have hstep : numL 10 (acc : Int) (c :: r) = numL 10 ((acc * 10 + (c.toNat - 48) : Nat) : Int) r := by
      rw [numL, if_neg (by omega)]
      congr 1
      omega
    rw [hstep, Lib.parseUintM, if_pos h2, if_neg (by omega)]
    by_cases hb : 255 < acc * 10 + (c.toNat - 48)
    · rw [if_pos hb]
      have := numL_dig r hr ((acc * 10 + (c.toNat - 48) : Nat) : Int) (by omega)
      rw [if_neg (by omega)]
    · rw [if_neg hb]
      exact par_dig r hr _ (by omega)
theorem par_not : ∀ (l : List UInt8) (acc u : Nat), (∃ c ∈ l, ¬ isDig c) → Lib.parseUintM 255 acc l ≠ .ok u
  | [], acc, u, h => by simp at h
  | c :: r, acc, u, h => by
    unfold Lib.parseUintM
    by_cases hc : 48 ≤ c.toNat ∧ c.toNat ≤ 57
    · rw [if_pos hc]
      obtain ⟨d, hd, h⟩ := h
      rcases List.mem_cons.1 hd with rfl | hd
      · exact absurd hc h
      · split
        · simp
        · split
          · simp
          · exact par_not r _ u ⟨d, hd, h⟩
    · rw [if_neg hc]; simp
theorem dd_small (u : Nat) (h : u < 10) : Lib.decDigits u = [UInt8.ofNat (48 + u)] := by rw [Lib.decDigits, dif_pos h]
theorem dd_big (u : Nat) (h : ¬ u < 10) : Lib.decDigits u = Lib.decDigits (u / 10) ++ [UInt8.ofNat (48 + u % 10)] := by rw [Lib.decDigits, dif_neg h]
theorem of_dig (c : UInt8) (n : Nat) (h : isDig c) (hn : n = c.toNat - 48) : UInt8.ofNat (48 + n) = c := by
  unfold isDig at h
  subst hn
  rw [show 48 + (c.toNat - 48) = c.toNat by omega]
  simp
theorem not_zero (c : UInt8) (h : isDig c) (h0 : c ≠ 48) : 0 < c.toNat - 48 := by
  unfold isDig at h
  have : c.toNat ≠ 48 := fun e => h0 (UInt8.toNat_inj.1 (by simpa using e))
  omega
/-- The figures of a text of up to three figures are that text, unless a nought stands ahead. -/
theorem digits_back (l : List UInt8) (hl : ∀ c ∈ l, isDig c) (h1 : 1 ≤ l.length) (h3 : l.length ≤ 3) : Lib.decDigits (numL 10 0 l).toNat = l ↔ ¬ (1 < l.length ∧ l[0]? = some 48) := by
  match l, h1, h3 with
  | [a], _, _ =>
    have ha := hl a (by simp)
    have hf := fig_dig a ha
    have h2 := ha
    unfold isDig at h2
    have hv : (numL 10 0 [a]).toNat = a.toNat - 48 := by
      simp only [numL]; rw [if_neg (by omega), hf]; omega
    rw [hv, dd_small _ (by omega), of_dig a _ ha rfl]
    simp
  | [a, b], _, _ =>
    have ha := hl a (by simp)
    have hb := hl b (by simp)
    have hfa := fig_dig a ha
    have hfb := fig_dig b hb
    have h2 := ha
    have h3 := hb
    unfold isDig at h2 h3
    have hv : (numL 10 0 [a, b]).toNat = (a.toNat - 48) * 10 + (b.toNat - 48) := by
      simp only [numL]; rw [if_neg (by omega), if_neg (by omega), hfa, hfb]; omega
    rw [hv]
    by_cases h0 : a = 48
    · subst h0
      have : ((48 : UInt8).toNat - 48) = 0 := by decide
      rw [this, dd_small _ (by omega)]
      simp
    · have hz := not_zero a ha h0
      rw [dd_big _ (by omega), dd_small _ (by omega), of_dig a _ ha (by omega), of_dig b _ hb (by omega)]
      simp [h0]
  | [a, b, c], _, _ =>
    have ha := hl a (by simp)
    have hb := hl b (by simp)
    have hc := hl c (by simp)
    have hfa := fig_dig a ha
    have hfb := fig_dig b hb
    have hfc := fig_dig c hc
    have h2 := ha
    have h3 := hb
    have h4 := hc
    unfold isDig at h2 h3 h4
    have hv : (numL 10 0 [a, b, c]).toNat = ((a.toNat - 48) * 10 + (b.toNat - 48)) * 10 + (c.toNat - 48) := by
      simp only [numL]; rw [if_neg (by omega), if_neg (by omega), if_neg (by omega), hfa, hfb, hfc]; omega
    rw [hv]
    by_cases h0 : a = 48
    · subst h0
      have e0 : ((48 : UInt8).toNat - 48) = 0 := by decide
      rw [e0]
      have hlen : (Lib.decDigits ((0 * 10 + (b.toNat - 48)) * 10 + (c.toNat - 48))).length ≤ 2 := by
        by_cases hs : (0 * 10 + (b.toNat - 48)) * 10 + (c.toNat - 48) < 10
        · rw [dd_small _ hs]; simp
        · rw [dd_big _ hs, dd_small _ (by omega)]; simp
      constructor
      · intro h; rw [h] at hlen; simp at hlen
      · intro h; simp at h
    · have hz := not_zero a ha h0
      rw [dd_big _ (by omega), dd_big _ (by omega), dd_small _ (by omega), of_dig a _ ha (by omega), of_dig b _ hb (by omega), of_dig c _ hc (by omega)]
      simp [h0]
theorem dec_eq (x : List UInt8) : decP x = decR x := by
  unfold decP decR
  by_cases h0 : x.length < 1 ∨ 3 < x.length
  · have hn : number x 10 3 = -1 := by unfold number; rw [if_pos h0]
    rw [hn, if_pos (.inl (by decide))]
    rcases h0 with h0 | h0
    · obtain rfl : x = [] := List.eq_nil_of_length_eq_zero (by omega)
      rfl
    · match hp : Lib.parseUintB 8 x with
      | .ok u => simp only; rw [if_pos h0]
      | Lib.NumEnd.syntax => rfl
      | Lib.NumEnd.range => rfl
  · have hn : number x 10 3 = numL 10 0 x := by unfold number; rw [if_neg h0]
    have hne : x ≠ [] := fun e => h0 (.inl (by rw [e]; decide))
    have hpB : Lib.parseUintB 8 x = Lib.parseUintM 255 0 x := by unfold Lib.parseUintB; rw [if_neg hne]
    rw [hn]
    by_cases hd : ∀ c ∈ x, isDig c
    · have hp := par_dig x hd 0 (by omega)
      rw [show ((0 : Nat) : Int) = 0 from rfl] at hp
      have h00 := numL_dig x hd 0 (by omega)
      have hb := digits_back x hd (by omega) (by omega)
      rw [hpB, hp]
      by_cases h255 : numL 10 0 x ≤ 255
      · rw [if_pos h255]
        simp only
        rw [if_neg (by omega)]
        by_cases hz : 1 < x.length ∧ x[0]? = some 48
        · rw [if_neg (fun e => hb.1 e hz), if_pos (.inr (.inr hz))]
        · rw [if_pos (hb.2 hz), if_neg (by rintro (h | h | h) <;> first | exact hz h | omega)]
          omega
      · rw [if_neg h255]
        simp only
        rw [if_pos (.inr (.inl (by omega)))]
    · obtain ⟨c, hc⟩ := Classical.not_forall.1 hd
      obtain ⟨hc1, hc2⟩ := Classical.not_imp.1 hc
      have hm : numL 10 0 x = -1 := numL_bad 10 x 0 ⟨c, hc1, fig_not c hc2⟩
      rw [hm, if_pos (.inl (by decide)), hpB]
      match hq : Lib.parseUintM 255 0 x with
      | .ok u => exact absurd hq (par_not x 0 u ⟨c, hc1, hc2⟩)
      | Lib.NumEnd.syntax => rfl
      | Lib.NumEnd.range => rfl
end Go.Proofs.YtmcgkknpkocgoaaGreatDoor.Ad
