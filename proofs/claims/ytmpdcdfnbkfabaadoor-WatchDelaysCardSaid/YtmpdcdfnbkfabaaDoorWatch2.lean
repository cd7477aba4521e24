/- The law WatchDelays. -/
import Derived.Test.YtmpdcdfnbkfabaaDoorWatch
namespace Go.Proofs.YtmpdcdfnbkfabaaDoor.Watch
open Go.RowKit Go.Proofs.YtmpdcdfnbkfabaaDoor.Mem Go.Proofs.YtmpdcdfnbkfabaaDoor.Err Go.Proofs.YtmpdcdfnbkfabaaDoor.Laid
set_option linter.unusedVariables false
set_option linter.unusedSimpArgs false
set_option maxRecDepth 100000
/-- The chapter's example. -/
theorem alive_calls (w : World) (hw : Strs w 0 words) :
    Calls Tryd.prog 12 #[] w fun e w' => e = .returned (.bool true) ∧ Below w.heap.size w w' := by
  have HW := Lib.hid hw
  clear hw
  have KW := Lib.hid (fun W h => word_calls 3 W h)
  go_enter Tryd.func12, Tryd.ntmps12
  go_wp2_with (fail)
  refine (start_lit _).mono ?_
  rintro e w1 ⟨rfl, hb1⟩
  have HB1 := Lib.hid hb1
  clear hb1
  go_wp2_with (first
    | (go_at_call 60; ((with_reducible refine (fail_lit _).mono ?_); rintro e w2 ⟨rfl, hb2⟩; obtain ⟨⟨x0, x1, x2, x3⟩, g0, g1, g2, g3⟩ := box4 hb2; have HB2 := Lib.hid (HB1.out.trans ((below_allocd hb2).mono HB1.out.size)); have hsz := HB1.out.size; clear hb2; have HS := Lib.hid ((((HB2.out.setCell (p := ⟨w1.heap.size, 0, none⟩) hsz (.int .i64 3)).setCell (p := ⟨w1.heap.size, 1, none⟩) hsz (.int .i64 0)).setCell (p := ⟨w1.heap.size, 2, none⟩) hsz (.int .i64 1)).setCell (p := ⟨w1.heap.size, 3, none⟩) hsz (.int .i64 6))))
    | (go_at_call 15; ((with_reducible refine (word_calls 3 _ (HW.out.below HS.out)).mono ?_); rintro e w3 ⟨rfl, rfl⟩)))
  go_ret
  exact ⟨rfl, HS.out⟩
theorem delays_calls (n : Int) (w : World) (h : n ≤ 9223372036854775807) (hw : Strs w 0 words) :
    Calls Tryd.prog 3 #[.int .i64 n] w fun e w' => e = .returned (.bool true) ∧ Below w.heap.size w w' := by
  have HW := Lib.hid hw
  have KD := Lib.hid (fun W => delay_calls n W h)
  have KR := Lib.hid (fun W => refdelay_calls n W h)
  clear hw
  by_cases g1 : n < 0
  · have KW := Lib.hid (fun W h => (show wordOf n = [] by unfold wordOf; rw [if_pos g1]) ▸ word_calls n W h)
    generalize delayN n = D at KD KR
    go_enter Tryd.func3, Tryd.ntmps3
    go_wp2_with (first
      | (go_at_call 12; ((with_reducible refine (alive_calls _ HW.out).mono ?_); rintro e w1 ⟨rfl, hb1⟩; have HW1 := Lib.hid (HW.out.below hb1); have HB1 := Lib.hid hb1; clear hb1))
      | (go_at_call 13; ((with_reducible refine (KD.out _).mono ?_); rintro e w2 ⟨rfl, rfl⟩))
      | (go_at_call 14; ((with_reducible refine (KR.out _).mono ?_); rintro e w2 ⟨rfl, rfl⟩))
      | (go_at_call 15; ((with_reducible refine (KW.out _ HW1.out).mono ?_); rintro e w2 ⟨rfl, rfl⟩)))
    go_ret
    exact ⟨by simp, HB1.out⟩
  · by_cases g2 : 3 < n
    · have ew : wordOf n = [] := by unfold wordOf; rw [if_neg (by omega), List.getD_eq_getElem?_getD, List.getElem?_eq_none (by show 4 ≤ n.toNat; omega)]; rfl
      have KW := Lib.hid (fun W h => ew ▸ word_calls n W h)
      clear ew
      generalize delayN n = D at KD KR
      go_enter Tryd.func3, Tryd.ntmps3
      go_wp2_with (first
        | (go_at_call 12; ((with_reducible refine (alive_calls _ HW.out).mono ?_); rintro e w1 ⟨rfl, hb1⟩; have HW1 := Lib.hid (HW.out.below hb1); have HB1 := Lib.hid hb1; clear hb1))
        | (go_at_call 13; ((with_reducible refine (KD.out _).mono ?_); rintro e w2 ⟨rfl, rfl⟩))
        | (go_at_call 14; ((with_reducible refine (KR.out _).mono ?_); rintro e w2 ⟨rfl, rfl⟩))
        | (go_at_call 15; ((with_reducible refine (KW.out _ HW1.out).mono ?_); rintro e w2 ⟨rfl, rfl⟩)))
      go_ret
      exact ⟨by simp, HB1.out⟩
    · have hm : n = 0 ∨ n = 1 ∨ n = 2 ∨ n = 3 := by omega
      rcases hm with rfl | rfl | rfl | rfl
      all_goals
        clear g1 g2 h
        generalize delayN _ = D at KD KR
        go_enter Tryd.func3, Tryd.ntmps3
        go_wp2_with (first
          | (go_at_call 12; ((with_reducible refine (alive_calls _ HW.out).mono ?_); rintro e w1 ⟨rfl, hb1⟩; have HW1 := Lib.hid (HW.out.below hb1); have HB1 := Lib.hid hb1; clear hb1))
          | (go_at_call 13; ((with_reducible refine (KD.out _).mono ?_); rintro e w2 ⟨rfl, rfl⟩))
          | (go_at_call 14; ((with_reducible refine (KR.out _).mono ?_); rintro e w2 ⟨rfl, rfl⟩))
          | (go_at_call 15; ((with_reducible refine (word_calls _ _ (HW1.out.alloc _)).mono ?_); rintro e w2 ⟨rfl, rfl⟩)))
        go_ret
        exact ⟨by simp [wordOf, words, str], HB1.out.alloc HB1.out.size _⟩
theorem delays_row (W : World) (hw : Strs W 0 words) (n : Int) (hn : (Lit.int .i64 n).wf = true) :
    Calls Tryd.prog 3 #[.int .i64 n] W fun e W' => e = .returned (.bool true) ∧ Below W.heap.size W W' :=
  delays_calls n W (by simp [Lit.wf, IntKind.min, IntKind.max, IntKind.signed, IntKind.bits] at hn; omega) hw
end Go.Proofs.YtmpdcdfnbkfabaaDoor.Watch
