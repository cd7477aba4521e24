/- head.Parse: what it answers. -/
import Derived.Test.YtfoehgcamkmooaaDoorHeadH
import Derived.ScopeJumps
namespace Go.Proofs.YtfoehgcamkmooaaDoor.Head
open Go.RowKit Go.Proofs.YtfoehgcamkmooaaDoor.Mem Go.Proofs.YtfoehgcamkmooaaDoor.Num Go.Proofs.YtfoehgcamkmooaaDoor.Err
open Go.Proofs.YtfoehgcamkmooaaDoor.Addr hiding below_allocd
open Go.Proofs.YtfoehgcamkmooaaDoor.Sums Go.Proofs.YtfoehgcamkmooaaDoor.SumsP Go.Proofs.YtfoehgcamkmooaaDoor.Pseudo
set_option linter.unusedVariables false
set_option linter.unusedSimpArgs false
set_option maxRecDepth 100000
attribute [-go_sem] Builtin.append_ loadCells loadCellsFrom storeCells
/-- A scope from which the run jumps ahead, to one label, once. -/
theorem wp_scope_fwd {P : Program} {a : Act} {w : World} {Q : Exit → Act → World → Prop} {c rest : Code} (l : Nat) (hf : findLabel c l = some rest)
    (first : c.wp P (Exit.jump l (fun a w => rest.wp P (Exit.jump l (fun _ _ => False) Q) a w) Q) a w) : (Code.scope c).wp P Q a w :=
  wp_scope_jumps l _ (fun _ _ => 0) hf first (fun a w h => Code.wp_mono (fun e a w hq => by
    cases e <;> first | exact hq | exact hq.2.elim) h)
/-- No head. -/
def hd0 : Hd := ⟨0, false, List.replicate 16 0, 0, false, List.replicate 16 0, 0, 0, 0, 0, rfl, rfl⟩
def verN (l : List UInt8) : Nat := (l.getD 0 0).toNat / 16
def midR (l : List UInt8) : Nat := if verN l = 4 then fourR l else sixR l
def midH (l : List UInt8) : Hd := if verN l = 4 then fourH hd0 l else sixH hd0 l
def ptsH (h : Hd) (p : List UInt8) : Hd := { h with sp := (twoN p 0 : Int), dp := (twoN p 2 : Int) }
def partR (h : Hd) (p : List UInt8) : Nat :=
  if p.length < (if h.pr = 6 then 20 else 8) then 2
  else if ownR h p ≠ 0 then ownR h p
  else if twoN p 0 = 0 ∨ twoN p 2 = 0 then 4
  else if sumB (ownH (ptsH h p) p) p then 0 else 5
def parseR (l : List UInt8) : Nat :=
  if l.length = 0 then 2
  else if verN l ≠ 4 ∧ verN l ≠ 6 then 4
  else if 300 < l.length then 3
  else if midR l ≠ 0 then midR l
  else if (midH l).pr ≠ 6 ∧ (midH l).pr ≠ 17 then 17
  else partR (midH l) (l.drop (midH l).pt.toNat)
def parseH (l : List UInt8) : Hd := ownH (ptsH (midH l) (l.drop (midH l).pt.toNat)) (l.drop (midH l).pt.toNat)
def hdA (h : Hd) : Array Value := h.cells.toArray
theorem protoh_calls (n : Int) (w : World) : Calls Tryd.prog 28 #[.int .i64 n] w fun e w' => e = .returned (.bool (decide (n = 6 ∨ n = 17))) ∧ w = w' := by
  by_cases h : n = 6
  · subst h
    go_enter Tryd.func28, Tryd.ntmps28
    go_wp2
    go_ret
    exact ⟨rfl, rfl⟩
  · have h1 : (n == 6) = false := beq_eq_false_iff_ne.mpr h
    by_cases h2 : n = 17
    · subst h2
      go_enter Tryd.func28, Tryd.ntmps28
      go_wp2
      go_ret
      exact ⟨rfl, rfl⟩
    · have h3 : (n == 17) = false := beq_eq_false_iff_ne.mpr h2
      rw [decide_eq_false (fun e => e.elim h h2)]
      go_enter Tryd.func28, Tryd.ntmps28
      go_wp2
      go_ret
      exact ⟨rfl, rfl⟩
theorem righth_calls (n : Nat) (hn : n < 65536) (w : World) : Calls Tryd.prog 31 #[.int .i64 (n : Int)] w fun e w' => e = .returned (.bool (decide (n ≠ 0))) ∧ w = w' := by
  by_cases h : n = 0
  · subst h
    go_enter Tryd.func31, Tryd.ntmps31
    go_wp2
    go_ret
    exact ⟨rfl, rfl⟩
  · have h1 : (1 : Int) ≤ (n : Int) := by omega
    have h2 : (n : Int) ≤ 65535 := by omega
    have h3 : ¬ (n : Int) = 0 := by omega
    rw [decide_eq_true h]
    go_enter Tryd.func31, Tryd.ntmps31
    go_wp2
    go_ret
    exact ⟨rfl, rfl⟩
end Go.Proofs.YtfoehgcamkmooaaDoor.Head
