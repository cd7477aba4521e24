/- Two lists of texts: slices.Equal, linkboynum.SameTexts. -/
import Derived.Test.YtcfgffkjbkpfhaaCand7
import Derived.BigQuiet
import Derived.Deep.QuietTactic
namespace Go.Proofs.Ytcfgffkjbkpfhaa.Cand
open Go.RowKit Go.Proofs.Ytcfgffkjbkpfhaa.Mem Go.Proofs.Ytcfgffkjbkpfhaa.Num Go.Proofs.Ytcfgffkjbkpfhaa.Key
open Go.Proofs.Ytcfgffkjbkpfhaa.Addr hiding below_allocd
set_option linter.unusedVariables false
set_option linter.unusedSimpArgs false
set_option maxRecDepth 100000
attribute [-go_sem] Builtin.append_ loadCells loadCellsFrom storeCells run_eql_struct
def eqS : List ByteArray → List ByteArray → Bool
  | [], [] => true
  | a :: l, b :: r => a.toList == b.toList && eqS l r
  | _, _ => false
theorem eqS_len {l r : List ByteArray} (h : l.length ≠ r.length) : eqS l r = false := by
  induction l generalizing r with
  | nil => cases r with
    | nil => exact absurd rfl h
    | cons b r => rfl
  | cons a l ih => cases r with
    | nil => rfl
    | cons b r =>
      unfold eqS
      rw [ih (by simpa using h), Bool.and_false]
theorem eqS_step (l r : List ByteArray) (k : Nat) (hk : k < l.length) (hr : k < r.length) : eqS (l.drop k) (r.drop k) = (l[k].toList == r[k].toList && eqS (l.drop (k + 1)) (r.drop (k + 1))) := by
  rw [List.drop_eq_getElem_cons hk, List.drop_eq_getElem_cons hr]; rfl
theorem drew2 (w : World) (m q : Nat) : (w.drewN m).drewN q = w.drewN (m + q) := by simp
theorem eqS_refl (l : List ByteArray) : eqS l l = true := by
  induction l with
  | nil => rfl
  | cons a l ih => unfold eqS; rw [ih]; simp
set_option maxHeartbeats 1000000 in
theorem equal_calls (A B : Option Addr) (c d : Nat) (l r : List ByteArray) (w : World) (hl : Row eStr w (.slice A l.length c) l) (hr : Row eStr w (.slice B r.length d) r) :
    Calls Try.prog 41 #[.slice A l.length c, .slice B r.length d] w fun e w' => e = .returned (.bool (eqS l r)) ∧ ∃ n, w' = w.drewN n := by
  have h1 : l.length ≤ 9223372036854775807 := by have := hl.cap; unfold maxLen at this; omega
  have h2 : r.length ≤ 9223372036854775807 := by have := hr.cap; unfold maxLen at this; omega
  have HL := Lib.hid hl
  have HR := Lib.hid hr
  clear hl hr
  by_cases hn : l.length = r.length
  · obtain ⟨b, hb⟩ : ∃ b, b = eqS l r := ⟨_, rfl⟩
    rw [← hb]
    have HB := Lib.hid hb
    have HN := Lib.hid hn
    have HR2 : Hid (Row eStr w (.slice B l.length d) r) := Lib.hid (by rw [hn]; exact HR.out)
    rw [← hn]
    clear hb hn HR
    go_enter Try.func41, Try.ntmps41
    go_wp2
    go_loopw [13] (fun iv wr => ∃ k m : Nat, k ≤ l.length ∧ iv = .int .i64 (k : Int) ∧ Hid (b = eqS (l.drop k) (r.drop k)) ∧ wr = w.drewN m) (fun iv _ => l.length - (intOf iv).toNat)
    case atStart => exact ⟨0, 0, Nat.zero_le _, rfl, HB, rfl⟩
    case round =>
      obtain ⟨k, m, hk, rfl, HS, rfl⟩ := hrel
      by_cases hlt : k < l.length
      · obtain ⟨ad, rfl, hc1⟩ := HL.out.at1 hlt
        obtain ⟨bd, rfl, hc2⟩ := HR2.out.at1 (show k < r.length by have := HN.out; omega)
        have HT := Lib.hid (HS.out.trans (eqS_step l r k hlt (by have := HN.out; omega)))
        have hc1' : (w.drewN m).cell? (ad.add k) = some (.string l[k]) := hc1
        have hc2' : (w.drewN m).cell? (bd.add k) = some (.string (r[k]'(by have := HN.out; omega))) := hc2
        have hki : (k : Int) < (l.length : Int) := by omega
        have hk0 : (0 : Int) ≤ (k : Int) := by omega
        generalize l[k] = x at hc1 hc1' HT
        generalize r[k]'(by have := HN.out; omega) = y at hc2 hc2' HT
        have he : (x == y) = (x.toList == y.toList) := beq_toListBytes x y
        have he2 : (x != y) = !(x.toList == y.toList) := by unfold bne; rw [he]
        have he3 : (x.toList != y.toList) = !(x.toList == y.toList) := rfl
        generalize hq : (x.toList == y.toList) = q at HT he he2 he3
        cases q
        · have HF : Hid (b = false) := Lib.hid (by rw [HT.out]; rfl)
          have e1 : (x.toList != y.toList) = true := he3
          have e2 : (x != y) = true := he2
          clear he3 he2
          go_wp2
          go_quiet (fail)
          go_wp2
          go_ret
          exact ⟨by rw [HF.out]; rfl, _, drew2 _ _ _⟩
        · have HF : Hid (b = eqS (l.drop (k + 1)) (r.drop (k + 1))) := Lib.hid (by rw [HT.out]; rfl)
          have e1 : (x.toList != y.toList) = false := he3
          have e2 : (x != y) = false := he2
          clear he3 he2
          go_wp2
          go_quiet (fail)
          go_wp2
          go_roundw
          all_goals first | exact ⟨⟨k + 1, _, by omega, by go_num, HF, rfl⟩, by simp [intOf]; omega⟩ | exact ⟨k + 1, _, by omega, by go_num, HF, rfl⟩ | (simp [intOf]; omega) | rfl
      · have HF : Hid (b = true) := Lib.hid (by rw [HS.out, List.drop_of_length_le (by omega), List.drop_of_length_le (by have := HN.out; omega)]; rfl)
        go_wp2
        go_ret
        exact ⟨by rw [HF.out]; rfl, m, rfl⟩
  · rw [eqS_len hn]
    have hn' : ((l.length : Int) != (r.length : Int)) = true := bne_iff_ne.mpr (by omega)
    have hn2 : ¬ (l.length : Int) = (r.length : Int) := by omega
    go_enter Try.func41, Try.ntmps41
    go_wp2
    go_ret
    exact ⟨rfl, 0, rfl⟩
set_option maxHeartbeats 1000000 in
theorem sametexts_calls (A B : Option Addr) (c d : Nat) (l r : List ByteArray) (w : World) (hl : Row eStr w (.slice A l.length c) l) (hr : Row eStr w (.slice B r.length d) r) :
    Calls Try.prog 33 #[.slice A l.length c, .slice B r.length d] w fun e w' => e = .returned (.bool (eqS l r)) ∧ ∃ n, w' = w.drewN n := by
  have h1 : l.length ≤ 9223372036854775807 := by have := hl.cap; unfold maxLen at this; omega
  have h2 : r.length ≤ 9223372036854775807 := by have := hr.cap; unfold maxLen at this; omega
  have HL := Lib.hid hl
  have HR := Lib.hid hr
  clear hl hr
  by_cases hn : l.length = r.length
  · obtain ⟨b, hb⟩ : ∃ b, b = eqS l r := ⟨_, rfl⟩
    rw [← hb]
    have HB := Lib.hid hb
    have HN := Lib.hid hn
    have HR2 : Hid (Row eStr w (.slice B l.length d) r) := Lib.hid (by rw [hn]; exact HR.out)
    rw [← hn]
    clear hb hn HR
    go_enter Try.func33, Try.ntmps33
    go_wp2
    go_loopw [13] (fun iv wr => ∃ k m : Nat, k ≤ l.length ∧ iv = .int .i64 (k : Int) ∧ Hid (b = eqS (l.drop k) (r.drop k)) ∧ wr = w.drewN m) (fun iv _ => l.length - (intOf iv).toNat)
    case atStart => exact ⟨0, 0, Nat.zero_le _, rfl, HB, rfl⟩
    case round =>
      obtain ⟨k, m, hk, rfl, HS, rfl⟩ := hrel
      by_cases hlt : k < l.length
      · obtain ⟨ad, rfl, hc1⟩ := HL.out.at1 hlt
        obtain ⟨bd, rfl, hc2⟩ := HR2.out.at1 (show k < r.length by have := HN.out; omega)
        have HT := Lib.hid (HS.out.trans (eqS_step l r k hlt (by have := HN.out; omega)))
        have hc1' : (w.drewN m).cell? (ad.add k) = some (.string l[k]) := hc1
        have hc2' : (w.drewN m).cell? (bd.add k) = some (.string (r[k]'(by have := HN.out; omega))) := hc2
        have hki : (k : Int) < (l.length : Int) := by omega
        have hk0 : (0 : Int) ≤ (k : Int) := by omega
        generalize l[k] = x at hc1 hc1' HT
        generalize r[k]'(by have := HN.out; omega) = y at hc2 hc2' HT
        have he : (x == y) = (x.toList == y.toList) := beq_toListBytes x y
        have he2 : (x != y) = !(x.toList == y.toList) := by unfold bne; rw [he]
        have he3 : (x.toList != y.toList) = !(x.toList == y.toList) := rfl
        generalize hq : (x.toList == y.toList) = q at HT he he2 he3
        cases q
        · have HF : Hid (b = false) := Lib.hid (by rw [HT.out]; rfl)
          have e1 : (x.toList != y.toList) = true := he3
          have e2 : (x != y) = true := he2
          clear he3 he2
          go_wp2
          go_quiet (fail)
          go_wp2
          go_ret
          exact ⟨by rw [HF.out]; rfl, _, drew2 _ _ _⟩
        · have HF : Hid (b = eqS (l.drop (k + 1)) (r.drop (k + 1))) := Lib.hid (by rw [HT.out]; rfl)
          have e1 : (x.toList != y.toList) = false := he3
          have e2 : (x != y) = false := he2
          clear he3 he2
          go_wp2
          go_quiet (fail)
          go_wp2
          go_roundw
          all_goals first | exact ⟨⟨k + 1, _, by omega, by go_num, HF, rfl⟩, by simp [intOf]; omega⟩ | exact ⟨k + 1, _, by omega, by go_num, HF, rfl⟩ | (simp [intOf]; omega) | rfl
      · have HF : Hid (b = true) := Lib.hid (by rw [HS.out, List.drop_of_length_le (by omega), List.drop_of_length_le (by have := HN.out; omega)]; rfl)
        go_wp2
        go_ret
        exact ⟨by rw [HF.out]; rfl, m, rfl⟩
  · rw [eqS_len hn]
    have hn' : ((l.length : Int) != (r.length : Int)) = true := bne_iff_ne.mpr (by omega)
    have hn2 : ¬ (l.length : Int) = (r.length : Int) := by omega
    go_enter Try.func33, Try.ntmps33
    go_wp2
    go_ret
    exact ⟨rfl, 0, rfl⟩
end Go.Proofs.Ytcfgffkjbkpfhaa.Cand
