/- Texts and numbers held against each other: cmp.Compare, cmp.Or, names.Compare, linkboyref02.Compare, linkboyref05.Compare. -/
import Derived.Test.YtmcgkknpkocgoaaGreatDoorTieA
import Derived.Test.YtmcgkknpkocgoaaGreatDoorMemR
import Derived.Test.YtmcgkknpkocgoaaGreatDoorSeq
import Derived.Laws.Cover1
namespace Go.Proofs.YtmcgkknpkocgoaaGreatDoor.Tie
open Go.RowKit Go.Proofs.YtmcgkknpkocgoaaGreatDoor.Mem Go.Proofs.YtmcgkknpkocgoaaGreatDoor.Num Go.Proofs.YtmcgkknpkocgoaaGreatDoor.Key
open Go.Proofs.YtmcgkknpkocgoaaGreatDoor.Addr hiding below_allocd
set_option linter.unusedVariables false
set_option linter.unusedSimpArgs false
set_option maxRecDepth 100000
attribute [-go_sem] Builtin.append_ loadCells loadCellsFrom storeCells run_eql_struct
def cmpS (a b : ByteArray) : Int := if Op.bytesLess a.toList b.toList = true then -1 else if (a.toList == b.toList) = true then 0 else 1
def cmpI (a b : Int) : Int := if a < b then -1 else if b < a then 1 else 0
theorem icompare_calls (a b : Int) (w : World) : Calls Tryz.prog 114 #[.int .i64 a, .int .i64 b] w fun e w' => e = .returned (.int .i64 (cmpI a b)) ∧ w = w' := by
  unfold cmpI
  by_cases h1 : a < b
  · rw [if_pos h1]
    go_enter Tryz.func114, Tryz.ntmps114
    go_wp2
    go_ret
    exact ⟨rfl, rfl⟩
  · rw [if_neg h1]
    by_cases h2 : b < a
    · rw [if_pos h2]
      go_enter Tryz.func114, Tryz.ntmps114
      go_wp2
      go_ret
      exact ⟨rfl, rfl⟩
    · rw [if_neg h2]
      go_enter Tryz.func114, Tryz.ntmps114
      go_wp2
      go_ret
      exact ⟨rfl, rfl⟩
def orL : List Int → Int
  | [] => 0
  | x :: r => if x ≠ 0 then x else orL r
theorem orL_step (xs : List Int) (k : Nat) (hk : k < xs.length) : orL (xs.drop k) = if xs[k] ≠ 0 then xs[k] else orL (xs.drop (k + 1)) := by
  rw [List.drop_eq_getElem_cons hk]; rfl
theorem or_calls (v : Value) (xs : List Int) (w : World) (hv : Row eInt w v xs) (hl : xs.length ≤ 1000) : Calls Tryz.prog 113 #[v] w fun e w' => e = .returned (.int .i64 (orL xs)) ∧ w = w' := by
  obtain ⟨A, c, rfl, _, _, hr⟩ := hv.parts
  have HR := Lib.hid hr
  have hl2 : xs.length ≤ 9223372036854775807 := by omega
  obtain ⟨R, hR⟩ : ∃ R, R = orL xs := ⟨_, rfl⟩
  rw [← hR]
  have HRR := Lib.hid hR
  clear hv hr hR hl
  go_enter Tryz.func113, Tryz.ntmps113
  go_wp2
  go_loop [8] (fun iv => ∃ k : Nat, k ≤ xs.length ∧ iv = .int .i64 (k : Int) ∧ Hid (R = orL (xs.drop k))) (fun iv => xs.length - (intOf iv).toNat)
  case atStart => exact ⟨0, Nat.zero_le _, rfl, HRR⟩
  case round =>
    obtain ⟨k, hk, rfl, HL⟩ := hrel
    by_cases hlt : k < xs.length
    · obtain ⟨ad, rfl, hcell⟩ := HR.out.atInt hlt
      have HS := Lib.hid (HL.out.trans (orL_step xs k hlt))
      generalize xs[k] = x at hcell HS
      by_cases h0 : x = 0
      · subst h0
        have HT : Hid (R = orL (xs.drop (k + 1))) := Lib.hid (by rw [HS.out]; rfl)
        go_wp2
        go_round
        case rel => exact ⟨k + 1, by omega, by go_num, HT⟩
        case measure => simp [intOf]; omega
      · have hb : (x != 0) = true := bne_iff_ne.2 h0
        have HT : Hid (R = x) := Lib.hid (by rw [HS.out, if_pos h0])
        go_wp2
        go_ret
        exact ⟨by rw [HT.out]; rfl, rfl⟩
    · have HT : Hid (R = 0) := Lib.hid (by rw [HL.out, List.drop_of_length_le (by omega)]; rfl)
      go_wp2
      go_ret
      exact ⟨by rw [HT.out]; rfl, rfl⟩
end Go.Proofs.YtmcgkknpkocgoaaGreatDoor.Tie
