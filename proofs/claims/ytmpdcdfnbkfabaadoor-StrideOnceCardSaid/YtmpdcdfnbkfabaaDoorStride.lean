/- Package stride. -/
import Derived.Test.YtmpdcdfnbkfabaaDoorPrime
import Derived.Test.YtmpdcdfnbkfabaaDoorNum
import Derived.RangeFuncFrom
import Derived.BigQuiet
import Derived.Deep.QuietTactic
import Derived.Shelf.RegionOpenPlain
import Derived.LoopTactic
import Derived.Lib.Hide
namespace Go.Proofs.YtmpdcdfnbkfabaaDoor.Stride
open Go.RowKit Go.Proofs.YtmpdcdfnbkfabaaDoor.Mem Go.Proofs.YtmpdcdfnbkfabaaDoor.Num Go.Proofs.YtmpdcdfnbkfabaaDoor.Prime Go.Proofs.YtmpdcdfnbkfabaaDoor.PrimeP
set_option linter.unusedVariables false
set_option linter.unusedSimpArgs false
def sizedB (n : Int) : Bool := decide (n ≤ 251) && isP n
def rightB (z o k : Int) : Bool := sizedB z && (decide (0 ≤ o) && (decide (o < z) && (decide (1 ≤ k) && decide (k < z))))
abbrev sv (z o k : Int) : Value := .agg #[.int .i64 z, .int .i64 o, .int .i64 k]
theorem sized_le {z : Int} (h : sizedB z = true) : 2 ≤ z ∧ z ≤ 251 ∧ isP z = true := by
  simp only [sizedB, Bool.and_eq_true, decide_eq_true_eq] at h
  exact ⟨(isP_le h.2).1, h.1, h.2⟩
theorem right_parts {z o k : Int} (h : rightB z o k = true) : sizedB z = true ∧ 0 ≤ o ∧ o < z ∧ 1 ≤ k ∧ k < z := by
  simpa only [rightB, Bool.and_eq_true, decide_eq_true_eq] using h
theorem cellN (w : World) (cs : Array Value) (t : TypeId) (i : Nat) : (w.alloc (.cells cs t)).cell? ⟨w.heap.size, i, none⟩ = cs[i]? ∧ (w.alloc (.cells cs t)).frozen? ⟨w.heap.size, i, none⟩ = false := by
  have h := World.alloc_heap_new w (.cells cs t)
  constructor
  · unfold World.cell?; rw [h]; rfl
  · unfold World.frozen?; rw [h]; simp
theorem frozen_below {w w1 : World} (h : Below w.heap.size w w1) {a : Addr} {v : Value} (hc : w.cell? a = some v) : w1.frozen? a = w.frozen? a := by
  have hl : a.block < w.heap.size := World.block_lt_of_cell? w a hc
  unfold World.frozen?; rw [h.block _ hl]
theorem box3 (w : World) (a b c : Value) (t : TypeId) : (w.alloc (.cells #[a, b, c] t)).cell? ⟨w.heap.size, 0, none⟩ = some a ∧ (w.alloc (.cells #[a, b, c] t)).cell? ⟨w.heap.size, 1, none⟩ = some b ∧ (w.alloc (.cells #[a, b, c] t)).cell? ⟨w.heap.size, 2, none⟩ = some c :=
  ⟨(cellN _ _ _ 0).1, (cellN _ _ _ 1).1, (cellN _ _ _ 2).1⟩
theorem box3_below {w w1 : World} {a b c : Value} {t : TypeId} (h : Below (w.alloc (.cells #[a, b, c] t)).heap.size (w.alloc (.cells #[a, b, c] t)) w1) : w1.cell? ⟨w.heap.size, 0, none⟩ = some a ∧ w1.cell? ⟨w.heap.size, 1, none⟩ = some b ∧ w1.cell? ⟨w.heap.size, 2, none⟩ = some c :=
  ⟨cell_below h (box3 w a b c t).1, cell_below h (box3 w a b c t).2.1, cell_below h (box3 w a b c t).2.2⟩
theorem sized_calls (n : Int) (w : World) : Calls Tryd.prog 67 #[.int .i64 n] w fun e w' => e = .returned (.bool (sizedB n)) ∧ w = w' := by
  by_cases h : n ≤ 251
  · have hs : sizedB n = isP n := by unfold sizedB; rw [decide_eq_true h, Bool.true_and]
    rw [hs]
    go_enter Tryd.func67, Tryd.ntmps67
    go_wp2_with (go_at_call 77; ((with_reducible refine (is_calls _ _).mono ?_); rintro e w' ⟨rfl, rfl⟩))
    go_ret
    exact ⟨rfl, rfl⟩
  · have hs : sizedB n = false := by unfold sizedB; rw [decide_eq_false h, Bool.false_and]
    rw [hs]
    go_enter Tryd.func67, Tryd.ntmps67
    go_wp2
    go_ret
    exact ⟨rfl, rfl⟩
set_option maxRecDepth 100000 in
theorem right_calls (z o k : Int) (w : World) : Calls Tryd.prog 34 #[sv z o k] w fun e w' => e = .returned (.bool (rightB z o k)) ∧ Below w.heap.size w w' := by
  have hsz := fun W => sized_calls z W
  cases h0 : sizedB z with
  | false =>
    have hr : rightB z o k = false := by unfold rightB; rw [h0, Bool.false_and]
    rw [hr]
    rw [h0] at hsz
    go_enter Tryd.func34, Tryd.ntmps34
    go_wp2_with (go_at_call 67; ((with_reducible refine (hsz _).mono ?_); rintro e w' ⟨rfl, rfl⟩))
    go_ret
    exact ⟨rfl, (Below.refl _ _).alloc (Nat.le_refl _) _⟩
  | true =>
    rw [h0] at hsz
    have hr : rightB z o k = (decide (0 ≤ o) && (decide (o < z) && (decide (1 ≤ k) && decide (k < z)))) := by unfold rightB; rw [h0, Bool.true_and]
    rw [hr]
    clear hr h0
    have HS := Lib.hid hsz
    clear hsz
    by_cases h1 : 0 ≤ o
    · by_cases h2 : o < z
      · by_cases h3 : 1 ≤ k
        all_goals
          simp only [h1, h2, h3, decide_true, decide_false, Bool.true_and, Bool.false_and]
          go_enter Tryd.func34, Tryd.ntmps34
          go_wp2_with (go_at_call 67; ((with_reducible refine (HS.out _).mono ?_); rintro e w' ⟨rfl, rfl⟩))
          go_ret
          exact ⟨rfl, (Below.refl _ _).alloc (Nat.le_refl _) _⟩
      · simp only [h1, h2, decide_true, decide_false, Bool.true_and, Bool.false_and]
        go_enter Tryd.func34, Tryd.ntmps34
        go_wp2_with (go_at_call 67; ((with_reducible refine (HS.out _).mono ?_); rintro e w' ⟨rfl, rfl⟩))
        go_ret
        exact ⟨rfl, (Below.refl _ _).alloc (Nat.le_refl _) _⟩
    · simp only [h1, decide_true, decide_false, Bool.true_and, Bool.false_and]
      go_enter Tryd.func34, Tryd.ntmps34
      go_wp2_with (go_at_call 67; ((with_reducible refine (HS.out _).mono ?_); rintro e w' ⟨rfl, rfl⟩))
      go_ret
      exact ⟨rfl, (Below.refl _ _).alloc (Nat.le_refl _) _⟩
/-! Place. -/
theorem place_no (z o k j : Int) (w : World) (h : rightB z o k = false) : Calls Tryd.prog 35 #[sv z o k, .int .i64 j] w fun e w' => e = .returned (.int .i64 (-1)) ∧ Below w.heap.size w w' := by
  have hrc := fun W => h ▸ right_calls z o k W
  have HR := Lib.hid hrc
  clear hrc h
  go_enter Tryd.func35, Tryd.ntmps35
  go_wp2_with (go_at_call 34; ((with_reducible refine (HR.out _).mono ?_); rintro e w1 ⟨rfl, hB⟩; have HB := Lib.hid (below_next ((Below.refl _ w).alloc (Nat.le_refl _) (.cells #[.int .i64 z, .int .i64 o, .int .i64 k] 55)) hB); clear hB))
  go_ret
  exact ⟨rfl, HB.out⟩
def placeZ (z o k j : Int) : Int := (o + j % z * k) % z
theorem place_calls (z o k j : Int) (w : World) (h : rightB z o k = true) : Calls Tryd.prog 35 #[sv z o k, .int .i64 j] w fun e w' => e = .returned (.int .i64 (placeZ z o k j)) ∧ Below w.heap.size w w' := by
  obtain ⟨hz, ho0, ho1, hk0, hk1⟩ := right_parts h
  have hzz := sized_le hz
  have hrc := fun W => h ▸ right_calls z o k W
  have HR := Lib.hid hrc
  clear hrc h hz
  have h0 : (z == 0) = false := beq_eq_false_iff_ne.mpr (by omega)
  have e1 := tmod_bounds j z (by omega)
  have e2 := rest_eq j z (by omega)
  have e3 := Int.emod_nonneg j (show z ≠ 0 by omega)
  have e4 := Int.emod_lt_of_pos j (show 0 < z by omega)
  have e5 : 0 ≤ j % z * k := Int.mul_nonneg e3 (by omega)
  have e6 : j % z * k ≤ 251 * 251 := Int.mul_le_mul (by omega) (by omega) (by omega) (by omega)
  have e7 : (o + j % z * k).tmod z = (o + j % z * k) % z := Int.tmod_eq_emod_of_nonneg (by omega)
  unfold placeZ
  go_enter Tryd.func35, Tryd.ntmps35
  go_wp2_with (go_at_call 34; ((with_reducible refine (HR.out _).mono ?_); rintro e w1 ⟨rfl, hB⟩; have HB := Lib.hid (below_next ((Below.refl _ w).alloc (Nat.le_refl _) (.cells #[.int .i64 z, .int .i64 o, .int .i64 k] 55)) hB); obtain ⟨hc0, hc1, hc2⟩ := box3_below hB; clear hB))
  go_quiet (fail)
  go_wp2
  go_ret
  exact ⟨rfl, below_drewN HB.out _⟩
/-! The cursor. -/
/-- A cursor's blocks: itself, the place, the stride. -/
structure Cur (w : World) (c ba bs : Nat) (z o k d p : Int) : Prop where
  z0 : w.cell? ⟨c, 0, none⟩ = some (.int .i64 z)
  o0 : w.cell? ⟨c, 1, none⟩ = some (.int .i64 o)
  k0 : w.cell? ⟨c, 2, none⟩ = some (.int .i64 k)
  d0 : w.cell? ⟨c, 3, none⟩ = some (.int .i64 d)
  f0 : w.cell? ⟨c, 4, none⟩ = some (.func (.func 65) #[] #[.pointer (some ⟨ba, 0, none⟩), .pointer (some ⟨bs, 0, none⟩)])
  a0 : w.cell? ⟨ba, 0, none⟩ = some (.int .i64 p)
  sz : w.cell? ⟨bs, 0, none⟩ = some (.int .i64 z)
  sk : w.cell? ⟨bs, 2, none⟩ = some (.int .i64 k)
  nf : w.frozen? ⟨c, 3, none⟩ = false
  na : w.frozen? ⟨ba, 0, none⟩ = false
  ne1 : c ≠ ba
  ne2 : c ≠ bs
  ne3 : ba ≠ bs
theorem cursor_calls (z o k : Int) (w : World) (h : rightB z o k = true) : Calls Tryd.prog 33 #[sv z o k] w fun e w' => (∃ c ba bs : Nat, e = .returned (.pointer (some ⟨c, 0, none⟩)) ∧ Cur w' c ba bs z o k 0 o ∧ w.heap.size ≤ c ∧ w.heap.size ≤ ba ∧ w.heap.size ≤ bs) ∧ Below w.heap.size w w' := by
  have hpl := fun W => place_calls z o k 0 W h
  have hp0 : placeZ z o k 0 = o := by
    obtain ⟨hz, ho0, ho1, hk0, hk1⟩ := right_parts h
    unfold placeZ
    rw [Int.zero_emod, Int.zero_mul, Int.add_zero, Int.emod_eq_of_lt ho0 ho1]
  rw [hp0] at hpl
  have hrc := fun W => h ▸ right_calls z o k W
  have HP := Lib.hid hpl
  have HR := Lib.hid hrc
  clear hrc hpl hp0 h
  go_enter Tryd.func33, Tryd.ntmps33
  go_wp2_with (first
    | (go_at_call 35; ((with_reducible refine (HP.out _).mono ?_); rintro e w1 ⟨rfl, hB⟩; have HB := Lib.hid (below_next ((Below.refl _ w).alloc (Nat.le_refl _) (.cells #[.int .i64 z, .int .i64 o, .int .i64 k] 55)) hB); have hC1 := Lib.hid (box3_below hB); have hx := ((Below.refl _ w1).alloc (Nat.le_refl _) (.cells #[.int .i64 o] 3)); have hd0 := cell_below hx hC1.out.1; have hd1 := cell_below hx hC1.out.2.1; have hd2 := cell_below hx hC1.out.2.2; clear hB))
    | (go_at_call 34; ((with_reducible refine (HR.out _).mono ?_); rintro e w2 ⟨rfl, hB2⟩; have he0 := cell_below hB2 hd0; have he1 := cell_below hB2 hd1; have he2 := cell_below hB2 hd2)))
  go_ret
  have hx1 := cellN w1 #[.int .i64 o] 3 0
  have hal := (Below.refl _ w2).alloc (Nat.le_refl _) (.cells #[.int .i64 z, .int .i64 o, .int .i64 k, .int .i64 0, .func (.func 65) #[] #[.pointer (some ⟨w1.heap.size, 0, none⟩), .pointer (some ⟨w.heap.size, 0, none⟩)]] 93)
  have s1 := HB.out.size
  have s2 := hB2.size
  have l1 : w.heap.size < w1.heap.size := World.block_lt_of_cell? w1 _ hC1.out.1
  have l2 : w1.heap.size < w2.heap.size := by simp at s2; omega
  have hb2 : Below w.heap.size w w2 := HB.out.trans (((Below.refl _ w1).alloc (Nat.le_refl _) (.cells #[.int .i64 o] 3)).mono s1 |>.trans (hB2.mono (by simp; omega)))
  refine ⟨⟨w2.heap.size, w1.heap.size, w.heap.size, rfl, ⟨(cellN _ _ _ 0).1, (cellN _ _ _ 1).1, (cellN _ _ _ 2).1, (cellN _ _ _ 3).1, (cellN _ _ _ 4).1, cell_below hal (cell_below hB2 hx1.1), cell_below hal he0, cell_below hal he2, (cellN _ _ _ 3).2, ?_, by omega, by omega, by omega⟩, by omega, by omega, Nat.le_refl _⟩, hb2.trans (hal.mono (by omega))⟩
  rw [frozen_below hal (cell_below hB2 hx1.1), frozen_below hB2 hx1.1]
  exact hx1.2
end Go.Proofs.YtmpdcdfnbkfabaaDoor.Stride
