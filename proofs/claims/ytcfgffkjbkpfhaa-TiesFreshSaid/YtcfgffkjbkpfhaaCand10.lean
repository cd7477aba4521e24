/- linkboylaw19: long, alive; the law PickRight. -/
import Derived.Test.YtcfgffkjbkpfhaaCand9
namespace Go.Proofs.Ytcfgffkjbkpfhaa.Cand
open Go.RowKit Go.Proofs.Ytcfgffkjbkpfhaa.Mem Go.Proofs.Ytcfgffkjbkpfhaa.Num Go.Proofs.Ytcfgffkjbkpfhaa.Key
open Go.Proofs.Ytcfgffkjbkpfhaa.Addr hiding below_allocd
set_option linter.unusedVariables false
set_option linter.unusedSimpArgs false
set_option maxRecDepth 100000
attribute [-go_sem] Builtin.append_ loadCells loadCellsFrom storeCells run_eql_struct
def longW (name node zone : ByteArray) : Bool := decide (100 < (name.size : Int)) || (decide (100 < (node.size : Int)) || decide (100 < (zone.size : Int)))
theorem longw_calls (name : ByteArray) (proto : Int) (six loc hint : Bool) (node zone : ByteArray) (w : World) :
    Calls Try.prog 10 #[wtV name proto six loc hint node zone] w fun e w' => e = .returned (.bool (longW name node zone)) ∧ Below w.heap.size w w' := by
  unfold longW
  by_cases h1 : (100 : Int) < (name.size : Int)
  · rw [decide_eq_true h1]
    go_enter Try.func10, Try.ntmps10
    go_wp2
    go_ret
    exact ⟨by simp, (Below.refl _ _).alloc (Nat.le_refl _) _⟩
  · rw [decide_eq_false h1]
    by_cases h2 : (100 : Int) < (node.size : Int)
    · rw [decide_eq_true h2]
      go_enter Try.func10, Try.ntmps10
      go_wp2
      go_ret
      exact ⟨by simp, (Below.refl _ _).alloc (Nat.le_refl _) _⟩
    · rw [decide_eq_false h2]
      by_cases h3 : (100 : Int) < (zone.size : Int)
      · rw [decide_eq_true h3]
        go_enter Try.func10, Try.ntmps10
        go_wp2
        go_ret
        exact ⟨by simp, (Below.refl _ _).alloc (Nat.le_refl _) _⟩
      · rw [decide_eq_false h3]
        go_enter Try.func10, Try.ntmps10
        go_wp2
        go_ret
        exact ⟨by simp, (Below.refl _ _).alloc (Nat.le_refl _) _⟩
def cA : Cd := { cd0 with srv := true }
def cB : Cd := { cd0 with srv := true, trm := true }
theorem usable_ab : usableL [cA, cB] = [cB] := rfl
set_option maxHeartbeats 2000000 in
theorem alive19_calls (w : World) : Calls Try.prog 8 #[] w fun e w' => e = .returned (.bool true) ∧ Below w.heap.size w w' := by
  have KU : Hid (∀ W v, Row eCd W v [cA, cB] → Calls Try.prog 13 #[v] W fun e w' => (∃ v', e = .returned v' ∧ Row eCd w' v' [cB]) ∧ Below W.heap.size W w') := Lib.hid (fun W v h => by have := usable_calls v [cA, cB] W h (by simp); rw [usable_ab] at this; exact this)
  go_enter Try.func8, Try.ntmps8
  go_wp2_with (go_at_call 13; ((refine (KU.out _ _ (Own.lit w 0 eCd 44 [cA, cB] 2 rfl _ rfl (Nat.zero_le _) (by simp)).row).mono ?_); rintro e w1 ⟨⟨v1, rfl, hr1⟩, hb1⟩; obtain ⟨A1, k1, rfl, hk1, _, hr1⟩ := hr1.parts; obtain ⟨ad, rfl, hc⟩ := hr1.at (k := 0) (by simp); have hc21 : w1.cell? ⟨ad.block, ad.off + 21, none⟩ = some (.bool true) := hc 21 (by decide); have HB1 := Lib.hid hb1; clear hr1 hb1 hc))
  go_ret
  exact ⟨rfl, below_allocd HB1.out⟩
end Go.Proofs.Ytcfgffkjbkpfhaa.Cand
