/- Package watch: how long it waits, the states' names; the chapter's example. -/
import Derived.Test.YtmpdcdfnbkfabaaDoorProg
import Derived.Test.YtmpdcdfnbkfabaaDoorLaidT
import Derived.Test.YtmpdcdfnbkfabaaDoorBox
import Derived.Handy
import Derived.LoopTactic
import Derived.KernelRfl
import Derived.Outline
import Derived.BigQuiet
import Derived.Deep.QuietTactic
import Derived.Lib.Hide
import Derived.Deep.RegionHeld3
import Derived.Deep.DeepCutAuto
import Derived.RangeFuncRecord
namespace Go.Proofs.YtmpdcdfnbkfabaaDoor.Watch
open Go.RowKit Go.Proofs.YtmpdcdfnbkfabaaDoor.Mem Go.Proofs.YtmpdcdfnbkfabaaDoor.Err Go.Proofs.YtmpdcdfnbkfabaaDoor.Laid
set_option linter.unusedVariables false
set_option linter.unusedSimpArgs false
set_option maxRecDepth 100000
def words : List (List UInt8) := [[105, 100, 108, 101], [108, 105, 115, 116, 105, 110, 103], [119, 97, 116, 99, 104, 105, 110, 103], [119, 97, 105, 116, 105, 110, 103]]
/-- A state's name. -/
def wordOf (n : Int) : List UInt8 := if n < 0 then [] else words.getD n.toNat []
theorem word_calls (n : Int) (w : World) (hw : Strs w 0 words) :
    Calls Tryd.prog 15 #[.int .i64 n] w fun e w' => e = .returned (.string (str (wordOf n))) ∧ w = w' := by
  have h0 := hw 0 _ rfl
  have h1 := hw 1 _ rfl
  have h2 := hw 2 _ rfl
  have h3 := hw 3 _ rfl
  clear hw
  by_cases g1 : n < 0
  · go_enter Tryd.func15, Tryd.ntmps15
    go_wp2
    go_ret
    exact ⟨by unfold wordOf; rw [if_pos g1]; rfl, rfl⟩
  · by_cases g2 : 3 < n
    · go_enter Tryd.func15, Tryd.ntmps15
      go_wp2
      go_ret
      exact ⟨by unfold wordOf; rw [if_neg (by omega), List.getD_eq_getElem?_getD, List.getElem?_eq_none (by show 4 ≤ n.toNat; omega)]; rfl, rfl⟩
    · obtain ⟨m, rfl⟩ : ∃ m : Nat, n = m := ⟨n.toNat, by omega⟩
      have hm : m = 0 ∨ m = 1 ∨ m = 2 ∨ m = 3 := by omega
      rcases hm with rfl | rfl | rfl | rfl
      all_goals
        clear g1 g2
        go_enter Tryd.func15, Tryd.ntmps15
        go_wp2
        go_ret
        exact ⟨rfl, rfl⟩
/-- How long it waits. -/
def delayN (n : Int) : Int := if n < 1 then 0 else if n = 1 then 1 else if n = 2 then 2 else if n = 3 then 4 else if n = 4 then 8 else if n = 5 then 16 else if n = 6 then 32 else 64
theorem delay_calls (n : Int) (w : World) (h : n ≤ 9223372036854775807) :
    Calls Tryd.prog 13 #[.int .i64 n] w fun e w' => e = .returned (.int .i64 (delayN n)) ∧ w = w' := by
  by_cases g1 : n < 1
  · go_enter Tryd.func13, Tryd.ntmps13
    go_wp2
    go_ret
    exact ⟨by unfold delayN; rw [if_pos (by omega)]; rfl, rfl⟩
  · by_cases g2 : 31 < n
    · go_enter Tryd.func13, Tryd.ntmps13
      go_wp2
      go_ret
      exact ⟨by unfold delayN; rw [if_neg (by omega), if_neg (by omega), if_neg (by omega), if_neg (by omega), if_neg (by omega), if_neg (by omega), if_neg (by omega)]; rfl, rfl⟩
    · obtain ⟨m, rfl⟩ : ∃ m : Nat, n = m + 1 := ⟨(n - 1).toNat, by omega⟩
      have hm : m = 0 ∨ m = 1 ∨ m = 2 ∨ m = 3 ∨ m = 4 ∨ m = 5 ∨ m = 6 ∨ m = 7 ∨ m = 8 ∨ m = 9 ∨ m = 10 ∨ m = 11 ∨ m = 12 ∨ m = 13 ∨ m = 14 ∨ m = 15 ∨ m = 16 ∨ m = 17 ∨ m = 18 ∨ m = 19 ∨ m = 20 ∨ m = 21 ∨ m = 22 ∨ m = 23 ∨ m = 24 ∨ m = 25 ∨ m = 26 ∨ m = 27 ∨ m = 28 ∨ m = 29 ∨ m = 30 := by omega
      rcases hm with rfl | rfl | rfl | rfl | rfl | rfl | rfl | rfl | rfl | rfl | rfl | rfl | rfl | rfl | rfl | rfl | rfl | rfl | rfl | rfl | rfl | rfl | rfl | rfl | rfl | rfl | rfl | rfl | rfl | rfl | rfl
      all_goals
        clear g1 g2 h
        go_enter Tryd.func13, Tryd.ntmps13
        go_wp2
        go_ret
        exact ⟨rfl, rfl⟩
theorem refdelay_calls (n : Int) (w : World) (h : n ≤ 9223372036854775807) :
    Calls Tryd.prog 14 #[.int .i64 n] w fun e w' => e = .returned (.int .i64 (delayN n)) ∧ w = w' := by
  by_cases g1 : n < 1
  · go_enter Tryd.func14, Tryd.ntmps14
    go_wp2
    go_ret
    exact ⟨by unfold delayN; rw [if_pos (by omega)]; rfl, rfl⟩
  · obtain ⟨m, rfl⟩ : ∃ m : Nat, n = m + 1 := ⟨(n - 1).toNat, by omega⟩
    have HD : Hid (∀ a b : Int, (a < 64 ∧ b < (m : Int) + 1 → False) → b ≤ (m : Int) + 1 → a = delayN b → a = delayN ((m : Int) + 1)) := by
      intro a b h1 h2 h3
      rcases Int.lt_or_eq_of_le h2 with h4 | h4
      · have h5 : ¬ a < 64 := fun h => h1 ⟨h, h4⟩
        have h6 : 7 ≤ b := by
          refine Decidable.byContradiction fun h7 => h5 ?_
          rw [h3]; unfold delayN
          repeat (split <;> try omega)
        rw [h3]; unfold delayN
        repeat rw [if_neg (by omega)]
      · rw [h3, h4]
    go_enter Tryd.func14, Tryd.ntmps14
    go_wp2
    go_loop [3, 4] (fun a i => ∃ b : Int, 1 ≤ b ∧ b ≤ (m : Int) + 1 ∧ i = .int .i64 b ∧ a = .int .i64 (delayN b)) (fun _ i => (m + 1) - (intOf i).toNat)
    case atStart => exact ⟨1, by omega, by omega, rfl, rfl⟩
    case round =>
      obtain ⟨b, hb1, hb2, rfl, rfl⟩ := hrel
      have hd := HD.out (delayN b) b
      have hda : delayN b < 64 → delayN (b + 1) = delayN b * 2 := by
        intro hh
        have h6 : b ≤ 6 := by
          unfold delayN at hh
          repeat (split at hh <;> try omega)
        have h7 : b = 1 ∨ b = 2 ∨ b = 3 ∨ b = 4 ∨ b = 5 ∨ b = 6 := by omega
        rcases h7 with rfl | rfl | rfl | rfl | rfl | rfl <;> rfl
      have hdr : 0 ≤ delayN b ∧ delayN b ≤ 64 := by unfold delayN; repeat (split <;> try omega)
      by_cases c1 : delayN b < 64
      · by_cases c2 : b < (m : Int) + 1
        · have hx := Lib.hid (hda c1)
          clear hda hd
          generalize delayN b = a at *
          go_wp2
          go_round
          case rel => exact ⟨b + 1, by omega, by omega, rfl, by rw [hx.out]⟩
          case measure => simp [intOf]; omega
        · have hx := Lib.hid (hd (by omega) hb2 rfl)
          clear hda hd
          generalize delayN b = a at *
          go_wp2
          go_ret
          exact ⟨by rw [hx.out]; rfl, rfl⟩
      · have hx := Lib.hid (hd (by omega) hb2 rfl)
        clear hda hd
        generalize delayN b = a at *
        go_wp2
        go_ret
        exact ⟨by rw [hx.out]; rfl, rfl⟩
theorem within_yes (n m : Int) (w : World) (h0 : 0 ≤ n) (h1 : n ≤ m) : Calls Tryd.prog 93 #[.int .i64 n, .int .i64 m] w fun e w' => e = .returned (.bool true) ∧ w' = w := by
  go_enter Tryd.func93, Tryd.ntmps93
  go_wp2
  go_ret
  exact ⟨rfl, rfl⟩
def wv (s v f u : Int) : Value := .agg #[.int .i64 s, .int .i64 v, .int .i64 f, .int .i64 u]
theorem right_lit (s : Int) (w : World) (hs : s = 0 ∨ s = 1) : Calls Tryd.prog 92 #[.agg #[.int .i64 s, .int .i64 0, .int .i64 0, .int .i64 0]] w fun e w' => e = .returned (.bool true) ∧ Below w.heap.size w w' := by
  rcases hs with rfl | rfl
  all_goals
    go_enter Tryd.func92, Tryd.ntmps92
    go_wp2
    go_ret
    exact ⟨rfl, (Below.refl _ _).alloc (Nat.le_refl _) _⟩
theorem may_lit (s n : Int) (w : World) (hs : s = 0 ∨ s = 1) (h0 : 0 ≤ n) (h1 : n ≤ 5) : Calls Tryd.prog 81 #[.agg #[.int .i64 s, .int .i64 0, .int .i64 0, .int .i64 0], .int .i64 n] w fun e w' => e = .returned .nilIface ∧ Below w.heap.size w w' := by
  have HS := Lib.hid hs
  clear hs
  go_enter Tryd.func81, Tryd.ntmps81
  go_wp2_with (first
    | (go_at_call 92; ((with_reducible refine (right_lit _ _ HS.out).mono ?_); rintro e w1 ⟨rfl, hb1⟩))
    | (go_at_call 93; ((with_reducible refine (within_yes _ _ _ (by omega) (by omega)).mono ?_); rintro e w2 ⟨rfl, rfl⟩)))
  go_ret
  exact ⟨rfl, below_allocd hb1⟩
theorem in_lit (s v f u a b : Int) (w : World) (hs : s = a) : Calls Tryd.prog 80 #[.agg #[.int .i64 s, .int .i64 v, .int .i64 f, .int .i64 u], .nilIface, .int .i64 a, .int .i64 b] w fun e w' => e = .returned .nilIface ∧ Below w.heap.size w w' := by
  subst hs
  go_enter Tryd.func80, Tryd.ntmps80
  go_wp2
  go_ret
  exact ⟨rfl, (Below.refl _ _).alloc (Nat.le_refl _) _⟩
theorem to_lit (s v f u a : Int) (w : World) : Calls Tryd.prog 79 #[.agg #[.int .i64 s, .int .i64 v, .int .i64 f, .int .i64 u], .int .i64 a, .nilIface] w fun e w' => e = .returned (.tuple #[.agg #[.int .i64 a, .int .i64 v, .int .i64 f, .int .i64 0], .nilIface]) ∧ Below w.heap.size w w' := by
  go_enter Tryd.func79, Tryd.ntmps79
  go_wp2
  exact bodyPost_ret (v := .tuple #[.agg #[.int .i64 a, .int .i64 v, .int .i64 f, .int .i64 0], .nilIface]) (by simp [results, Tryd.results79, go_sem]) rfl ⟨rfl, by go_grown⟩
/-- What a region keeps: the box of the Watcher, the box of the result. -/
def KeepW (w : World) (W : World) : Prop := Below w.heap.size w W ∧ Live (w.heap.size + 1) 4 W
theorem keepW (w : World) (s : Int) (W W' : World) (h : W.cell? ⟨w.heap.size, 0, none⟩ = some (.int .i64 s) ∧ W.cell? ⟨w.heap.size, 1, none⟩ = some (.int .i64 0) ∧ W.cell? ⟨w.heap.size, 2, none⟩ = some (.int .i64 0) ∧ W.cell? ⟨w.heap.size, 3, none⟩ = some (.int .i64 0) ∧ KeepW w W) (hb : Below W.heap.size W W') :
    W'.cell? ⟨w.heap.size, 0, none⟩ = some (.int .i64 s) ∧ W'.cell? ⟨w.heap.size, 1, none⟩ = some (.int .i64 0) ∧ W'.cell? ⟨w.heap.size, 2, none⟩ = some (.int .i64 0) ∧ W'.cell? ⟨w.heap.size, 3, none⟩ = some (.int .i64 0) ∧ KeepW w W' :=
  ⟨cell_below hb h.1, cell_below hb h.2.1, cell_below hb h.2.2.1, cell_below hb h.2.2.2.1, h.2.2.2.2.1.trans (hb.mono h.2.2.2.2.1.size), h.2.2.2.2.2.below hb⟩
theorem keepWs (w : World) (s : Int) (W : World) (i : Nat) (v : Value) (h : W.cell? ⟨w.heap.size, 0, none⟩ = some (.int .i64 s) ∧ W.cell? ⟨w.heap.size, 1, none⟩ = some (.int .i64 0) ∧ W.cell? ⟨w.heap.size, 2, none⟩ = some (.int .i64 0) ∧ W.cell? ⟨w.heap.size, 3, none⟩ = some (.int .i64 0) ∧ KeepW w W) (b : Nat) (hb : w.heap.size < b) :
    (W.setCell ⟨b, i, none⟩ v).cell? ⟨w.heap.size, 0, none⟩ = some (.int .i64 s) ∧ (W.setCell ⟨b, i, none⟩ v).cell? ⟨w.heap.size, 1, none⟩ = some (.int .i64 0) ∧ (W.setCell ⟨b, i, none⟩ v).cell? ⟨w.heap.size, 2, none⟩ = some (.int .i64 0) ∧ (W.setCell ⟨b, i, none⟩ v).cell? ⟨w.heap.size, 3, none⟩ = some (.int .i64 0) ∧ KeepW w (W.setCell ⟨b, i, none⟩ v) := by
  have ho : ∀ j, (W.setCell ⟨b, i, none⟩ v).cell? ⟨w.heap.size, j, none⟩ = W.cell? ⟨w.heap.size, j, none⟩ := fun j => World.cell?_setCell_other _ _ _ _ (by simp only [ne_eq, Addr.mk.injEq]; omega)
  rw [ho, ho, ho, ho]
  exact ⟨h.1, h.2.1, h.2.2.1, h.2.2.2.1, h.2.2.2.2.1.setCell (by show w.heap.size ≤ b; omega) _, h.2.2.2.2.2.set _ _⟩
theorem Live.c4 {b : Nat} {w : World} (h : Live b 4 w) : ∃ a0 a1 a2 a3, (w.cell? ⟨b, 0, none⟩ = some a0 ∧ w.cell? ⟨b, 1, none⟩ = some a1 ∧ w.cell? ⟨b, 2, none⟩ = some a2 ∧ w.cell? ⟨b, 3, none⟩ = some a3) ∧ w.frozen? ⟨b, 0, none⟩ = false ∧ w.frozen? ⟨b, 1, none⟩ = false ∧ w.frozen? ⟨b, 2, none⟩ = false ∧ w.frozen? ⟨b, 3, none⟩ = false := by
  obtain ⟨⟨a0, h0⟩, f0⟩ := h 0 (by omega)
  obtain ⟨⟨a1, h1⟩, f1⟩ := h 1 (by omega)
  obtain ⟨⟨a2, h2⟩, f2⟩ := h 2 (by omega)
  obtain ⟨⟨a3, h3⟩, f3⟩ := h 3 (by omega)
  exact ⟨a0, a1, a2, a3, ⟨h0, h1, h2, h3⟩, f0, f1, f2, f3⟩
theorem keepW0 (w : World) (s : Int) (W : World) (hW : W = ((w.alloc (.cells #[.int .i64 s, .int .i64 0, .int .i64 0, .int .i64 0] 80)).alloc (.cells #[.int .i64 0, .int .i64 0, .int .i64 0, .int .i64 0] 80)).drew) :
    W.cell? ⟨w.heap.size, 0, none⟩ = some (.int .i64 s) ∧ W.cell? ⟨w.heap.size, 1, none⟩ = some (.int .i64 0) ∧ W.cell? ⟨w.heap.size, 2, none⟩ = some (.int .i64 0) ∧ W.cell? ⟨w.heap.size, 3, none⟩ = some (.int .i64 0) ∧ KeepW w W := by
  subst hW
  have h1 := ((Box.new w #[.int .i64 s, .int .i64 0, .int .i64 0, .int .i64 0] 80 _ rfl).alloc (.cells #[.int .i64 0, .int .i64 0, .int .i64 0, .int .i64 0] 80)).drew
  have h2 := (Box.new (w.alloc (.cells #[.int .i64 s, .int .i64 0, .int .i64 0, .int .i64 0] 80)) #[.int .i64 0, .int .i64 0, .int .i64 0, .int .i64 0] 80 (w.heap.size + 1) (by simp)).drew
  exact ⟨h1.c4.1, h1.c4.2.1, h1.c4.2.2.1, h1.c4.2.2.2, (((Below.refl _ _).alloc (Nat.le_refl _) _).alloc (by simp) _).drew, h2.live rfl⟩
set_option maxHeartbeats 4000000 in
theorem start_lit (w : World) : Calls Tryd.prog 59 #[.agg #[.int .i64 0, .int .i64 0, .int .i64 0, .int .i64 0], .int .i64 0] w fun e w' => e = .returned (.tuple #[.agg #[.int .i64 1, .int .i64 0, .int .i64 0, .int .i64 0], .nilIface]) ∧ Below w.heap.size w w' := by
  have HM := Lib.hid (fun W => may_lit 0 0 W (.inl rfl) (by omega) (by omega))
  have SK := Lib.hid (keepW w 0)
  have SS := Lib.hid (keepWs w 0)
  have SI := Lib.hid (keepW0 w 0 _ rfl)
  go_enter Tryd.func59, Tryd.ntmps59
  go_wp2_with (fail)
  go_region_held3 (fun W : World => W.cell? ⟨w.heap.size, 0, none⟩ = some (.int .i64 0) ∧ W.cell? ⟨w.heap.size, 1, none⟩ = some (.int .i64 0) ∧ W.cell? ⟨w.heap.size, 2, none⟩ = some (.int .i64 0) ∧ W.cell? ⟨w.heap.size, 3, none⟩ = some (.int .i64 0) ∧ KeepW w W) (first | with_reducible exact SI.out | with_reducible exact SK.out _ _ (by assumption) hbK | with_reducible exact SK.out _ _ (by assumption) (below_own_alloc _ _) | with_reducible exact SK.out _ _ ⟨k0, k1, k2, k3, KB⟩ (below_own_alloc _ _) | (with_reducible exact SS.out _ _ _ (SS.out _ _ _ (SS.out _ _ _ (SS.out _ _ _ ⟨k0, k1, k2, k3, KB⟩ _ (by omega)) _ (by omega)) _ (by omega)) _ (by omega)) | go_keep) (first
    | (go_at_call 81; ((with_reducible refine (HM.out _).mono ?_); rintro e w1 ⟨rfl, hbK⟩; have hz1 := (SK.out _ _ (by assumption) hbK).2.2.2.2.2.lt; (first | (have X := Lib.hid (boxAlloc3 hbK)) | skip)))
    | (go_at_call 80; ((with_reducible refine (in_lit _ _ _ _ _ _ _ rfl).mono ?_); rintro e w2 ⟨rfl, hbK⟩; have hz2 := (SK.out _ _ (by assumption) hbK).2.2.2.2.2.lt; (first | (have X := Lib.hid (boxAlloc hbK)) | (have X := Lib.hid (X.out.below hbK)) | skip)))
    | (go_at_call 79; ((with_reducible refine (to_lit _ _ _ _ _ _).mono ?_); rintro e w3 ⟨rfl, hbK⟩; (first | (have X := Lib.hid (boxAlloc hbK)) | (have X := Lib.hid (X.out.below hbK)) | skip); obtain ⟨k0, k1, k2, k3, KB⟩ := SK.out _ _ (by assumption) hbK; obtain ⟨a0, a1, a2, a3, ⟨y0, y1, y2, y3⟩, f0, f1, f2, f3⟩ := Live.c4 KB.2; have hB := Lib.hid KB.1; try (obtain ⟨x0, x1, x2, x3⟩ := X.out.c4; obtain ⟨g0, g1, g2, g3⟩ := X.out.f4))))
  all_goals go_wp2
  refine bodyPost_ret (v := .tuple #[.agg #[.int .i64 1, .int .i64 0, .int .i64 0, .int .i64 0], .nilIface]) (by simp [results, Tryd.results59, go_sem, y0, y1, y2, y3]) rfl ⟨rfl, ?_⟩
  (repeat (refine Below.setCell ?_ (Nat.le_succ _) _))
  exact hB.out
/-- What stands behind the call of 'to'. -/
def FailCut (w : World) (b : Nat) (W : World) : Prop :=
  (W.cell? ⟨w.heap.size, 0, none⟩ = some (.int .i64 1) ∧ W.cell? ⟨w.heap.size, 1, none⟩ = some (.int .i64 0) ∧ W.cell? ⟨w.heap.size, 2, none⟩ = some (.int .i64 0) ∧ W.cell? ⟨w.heap.size, 3, none⟩ = some (.int .i64 0) ∧ KeepW w W) ∧
  Box b #[.int .i64 3, .int .i64 0, .int .i64 0, .int .i64 0] W ∧ w.heap.size + 1 < b
set_option maxHeartbeats 4000000 in
theorem fail_lit (w : World) : Calls Tryd.prog 60 #[.agg #[.int .i64 1, .int .i64 0, .int .i64 0, .int .i64 0], .int .i64 5] w fun e w' => e = .returned (.tuple #[.agg #[.int .i64 3, .int .i64 0, .int .i64 1, .int .i64 6], .nilIface]) ∧ Below w.heap.size w w' := by
  have HM := Lib.hid (fun W => may_lit 1 5 W (.inr rfl) (by omega) (by omega))
  have HD := Lib.hid (fun W => (show delayN 1 = 1 from rfl) ▸ delay_calls 1 W (by omega))
  have SK := Lib.hid (keepW w 1)
  have SS := Lib.hid (keepWs w 1)
  have SI := Lib.hid (keepW0 w 1 _ rfl)
  go_enter Tryd.func60, Tryd.ntmps60
  go_upto_region 2 with (fail)
  go_cut [6, 7] (fun s6 s7 wx => ∃ b : Nat, s6 = .pointer (some ⟨b, 0, none⟩) ∧ s7 = .nilIface ∧ FailCut w b wx)
  case first =>
    go_region_held3 (fun W : World => W.cell? ⟨w.heap.size, 0, none⟩ = some (.int .i64 1) ∧ W.cell? ⟨w.heap.size, 1, none⟩ = some (.int .i64 0) ∧ W.cell? ⟨w.heap.size, 2, none⟩ = some (.int .i64 0) ∧ W.cell? ⟨w.heap.size, 3, none⟩ = some (.int .i64 0) ∧ KeepW w W) (first | with_reducible exact SI.out | with_reducible exact SK.out _ _ (by assumption) hbK | with_reducible exact SK.out _ _ (by assumption) (below_own_alloc _ _) | with_reducible exact SK.out _ _ ⟨k0, k1, k2, k3, KB⟩ (below_own_alloc _ _) | (with_reducible exact SS.out _ _ _ (SS.out _ _ _ (SS.out _ _ _ (SS.out _ _ _ ⟨k0, k1, k2, k3, KB⟩ _ (by omega)) _ (by omega)) _ (by omega)) _ (by omega)) | go_keep) (first
    | (go_at_call 81; ((with_reducible refine (HM.out _).mono ?_); rintro e w1 ⟨rfl, hbK⟩; have hz1 := (SK.out _ _ (by assumption) hbK).2.2.2.2.2.lt; (first | (have X := Lib.hid (boxAlloc3 hbK)) | skip)))
    | (go_at_call 80; ((with_reducible refine (in_lit _ _ _ _ _ _ _ rfl).mono ?_); rintro e w2 ⟨rfl, hbK⟩; have hz2 := (SK.out _ _ (by assumption) hbK).2.2.2.2.2.lt; (first | (have X := Lib.hid (boxAlloc hbK)) | (have X := Lib.hid (X.out.below hbK)) | skip)))
    | (go_at_call 79; ((with_reducible refine (to_lit _ _ _ _ _ _).mono ?_); rintro e w3 ⟨rfl, hbK⟩; (first | (have X := Lib.hid (boxAlloc hbK)) | (have X := Lib.hid (X.out.below hbK)) | skip); obtain ⟨k0, k1, k2, k3, KB⟩ := SK.out _ _ (by assumption) hbK; obtain ⟨a0, a1, a2, a3, ⟨y0, y1, y2, y3⟩, f0, f1, f2, f3⟩ := Live.c4 KB.2; have hB := Lib.hid KB.1; try (obtain ⟨x0, x1, x2, x3⟩ := X.out.c4; obtain ⟨g0, g1, g2, g3⟩ := X.out.f4))))
    all_goals (go_wp2_with fail; go_meet; refine ⟨_, rfl, rfl, ?_⟩)
    all_goals first | exact ⟨by assumption, X.out.set4 _ _ _ _, by omega⟩ | exact ⟨by assumption, Box.new _ _ _ _ rfl, by have := KB.2.lt; omega⟩
  case rest =>
    obtain ⟨b, rfl, rfl, ⟨k0, k1, k2, k3, KB⟩, XB, hlt⟩ := hcut
    have HB := Lib.hid KB.1
    have hne1 : w.heap.size + 1 ≠ b := by omega
    have hne2 : b ≠ w.heap.size + 1 := by omega
    have hne3 : w.heap.size ≠ b := by omega
    have hne4 : b ≠ w.heap.size := by omega
    obtain ⟨a0, a1, a2, a3, ⟨y0, y1, y2, y3⟩, f0, f1, f2, f3⟩ := Live.c4 KB.2
    obtain ⟨x0, x1, x2, x3⟩ := XB.c4
    obtain ⟨g0, g1, g2, g3⟩ := XB.f4
    clear KB XB
    go_wp2_with (go_at_call 13; ((with_reducible refine (HD.out _).mono ?_); rintro e w4 ⟨rfl, rfl⟩))
    refine bodyPost_ret (v := .tuple #[.agg #[.int .i64 3, .int .i64 0, .int .i64 1, .int .i64 6], .nilIface]) (by simp [results, Tryd.results60, go_sem, y0, y1, y2, y3]) rfl ⟨rfl, ?_⟩
    repeat (first | exact HB.out | refine Below.setCell ?_ (Nat.le_succ _) _ | refine Below.setCell ?_ (show w.heap.size ≤ b by omega) _)
end Go.Proofs.YtmpdcdfnbkfabaaDoor.Watch
