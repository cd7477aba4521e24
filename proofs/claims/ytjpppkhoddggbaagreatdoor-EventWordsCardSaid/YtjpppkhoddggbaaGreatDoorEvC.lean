/- The law EventWords. -/
import Derived.Test.YtjpppkhoddggbaaGreatDoorEvF
namespace Go.Proofs.YtjpppkhoddggbaaGreatDoor.Ev
open Go.RowKit Go.Proofs.YtjpppkhoddggbaaGreatDoor.Mem Go.Proofs.YtjpppkhoddggbaaGreatDoor.Num Go.Proofs.YtjpppkhoddggbaaGreatDoor.Laid
set_option linter.unusedVariables false
set_option linter.unusedSimpArgs false
set_option maxRecDepth 100000
theorem alive_calls (w : World) : Calls Tryz.prog 4 #[] w fun e w' => e = .returned (.bool true) ∧ Below w.heap.size w w' := by
  have HF := Lib.hid (fun W => frame_calls W)
  go_enter Tryz.func4, Tryz.ntmps4
  go_wp2_with (go_at_call 6; ((refine (HF.out _).mono ?_); rintro e w1 ⟨⟨A1, n1, c1, rfl, HR⟩, hb1⟩; have hcv := (HR.out.alloc (.cells #[.int .i64 7, .slice A1 n1 c1] 28)).conv' Tryz.underlying26 Tryz.underlying5 Tryz.underlying9; have HB := Lib.hid hb1; clear hb1))
  go_ret
  exact ⟨rfl, by first | exact HB.out | exact HB.out.alloc HB.out.size _ | exact below_allocd HB.out⟩
set_option maxHeartbeats 8000000 in
theorem law_calls (n : Int) (w : World) (h : n ≤ 9223372036854775807) (hw : Strs w 0 words) :
    Calls Tryz.prog 3 #[.int .i64 n] w fun e w' => e = .returned (.bool true) ∧ Below w.heap.size w w' := by
  have HW := Lib.hid hw
  clear hw
  by_cases g : 1 ≤ n ∧ n ≤ 9
  · have hm : n = 1 ∨ n = 2 ∨ n = 3 ∨ n = 4 ∨ n = 5 ∨ n = 6 ∨ n = 7 ∨ n = 8 ∨ n = 9 := by omega
    clear g h
    rcases hm with rfl | rfl | rfl | rfl | rfl | rfl | rfl | rfl | rfl
    all_goals
      go_enter Tryz.func3, Tryz.ntmps3
      go_wp2_with (first
        | (go_at_call 4; ((with_reducible refine (alive_calls _).mono ?_); rintro e w1 ⟨rfl, hb1⟩; have HW1 := Lib.hid (HW.out.below hb1); have HB1 := Lib.hid hb1; clear hb1))
        | (go_at_call 5; ((with_reducible refine (word_calls _ _ (HW1.out.alloc _)).mono ?_); rintro e w2 ⟨rfl, rfl⟩)))
      go_ret
      exact ⟨by simp [wordOf, words, str], HB1.out.alloc HB1.out.size _⟩
  · have ew : wordOf n = [] := by unfold wordOf; rw [if_neg g]
    have KW := Lib.hid (fun W h => ew ▸ word_calls n W h)
    clear ew
    by_cases g1 : 1 ≤ n
    · have g2 : 9 < n := by omega
      clear g
      go_enter Tryz.func3, Tryz.ntmps3
      go_wp2_with (first
        | (go_at_call 4; ((with_reducible refine (alive_calls _).mono ?_); rintro e w1 ⟨rfl, hb1⟩; have HW1 := Lib.hid (HW.out.below hb1); have HB1 := Lib.hid hb1; clear hb1))
        | (go_at_call 5; ((with_reducible refine (KW.out _ HW1.out).mono ?_); rintro e w2 ⟨rfl, rfl⟩)))
      go_ret
      exact ⟨by simp, HB1.out⟩
    · clear g
      go_enter Tryz.func3, Tryz.ntmps3
      go_wp2_with (first
        | (go_at_call 4; ((with_reducible refine (alive_calls _).mono ?_); rintro e w1 ⟨rfl, hb1⟩; have HW1 := Lib.hid (HW.out.below hb1); have HB1 := Lib.hid hb1; clear hb1))
        | (go_at_call 5; ((with_reducible refine (KW.out _ HW1.out).mono ?_); rintro e w2 ⟨rfl, rfl⟩)))
      go_ret
      exact ⟨by simp, HB1.out⟩
theorem words_row (W : World) (hw : Strs W 0 words) (n : Int) (hn : (Lit.int .i64 n).wf = true) :
    Calls Tryz.prog 3 #[.int .i64 n] W fun e W' => e = .returned (.bool true) ∧ Below W.heap.size W W' :=
  law_calls n W (by simp [Lit.wf, IntKind.min, IntKind.max, IntKind.signed, IntKind.bits] at hn; omega) hw
end Go.Proofs.YtjpppkhoddggbaaGreatDoor.Ev
