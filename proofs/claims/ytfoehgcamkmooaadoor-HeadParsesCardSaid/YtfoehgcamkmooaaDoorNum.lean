/- linkboynum: a copy with marked room behind, and whether list and room stand as they stood. -/
import Derived.Test.YtfoehgcamkmooaaDoorProg
import Derived.Test.YtfoehgcamkmooaaDoorMem
import Derived.Handy
import Derived.LoopTactic
import Derived.KernelRfl
import Derived.Outline
import Derived.BigQuiet
import Derived.Deep.QuietTactic
namespace Go.Proofs.YtfoehgcamkmooaaDoor.Num
open Go.RowKit Go.Proofs.YtfoehgcamkmooaaDoor.Mem
set_option linter.unusedVariables false
set_option linter.unusedSimpArgs false

theorem infoU8 : (Tryd.prog.info? 5).map (fun i => (i.zero, i.size, i.bytes)) = some (some (.int .u8 0), 1, 1) := by kernel_rfl
def marks : List UInt8 := [201, 202, 203, 204, 205, 206]
/-- v is a copy of l, with marked room behind, in a block from base on. -/
def Marked (base : Nat) (w : World) (v : Value) (l : List UInt8) : Prop :=
  ∃ g, v = .slice (some ⟨g, 0, none⟩) l.length (l.length + 6) ∧ base ≤ g ∧ w.heap[g]? = some (.cells ((l ++ marks).map (fun x => Value.int .u8 (x.toNat : Int))).toArray 5 (0, 0))
theorem marks_cells : eU8.all marks = [.int .u8 201, .int .u8 202, .int .u8 203, .int .u8 204, .int .u8 205, .int .u8 206] := rfl
theorem all_u8 (l : List UInt8) : eU8.all l = l.map (fun x => Value.int .u8 (x.toNat : Int)) := all_one1 _ _ l

theorem bytes_calls (v : Value) (l : List UInt8) (w : World) (hv : Row eU8 w v l) (hl : l.length ≤ 1000000) :
    Calls Tryd.prog 10 #[v] w fun e w' => ∃ u, e = .returned u ∧ Marked w.heap.size w' u l ∧ Below w.heap.size w w' := by
  obtain ⟨A, c, rfl, hc, hm, hr⟩ := hv.parts
  obtain ⟨i0, hi, hz0, hz1, hz2⟩ := info_parts infoU8
  have HI : Hid (Tryd.prog.info? 5 = some i0 ∧ i0.zero = some (.int .u8 0) ∧ i0.size = 1 ∧ i0.bytes = 1) := Lib.hid ⟨hi, hz0, hz1, hz2⟩
  clear hi hz0 hz1 hz2
  have HR : Hid (Row eU8 w (.slice A l.length c) l) := Lib.hid hr
  clear hr hv
  go_enter Tryd.func10, Tryd.ntmps10
  go_wp2_with (first
    | (at_make; refine wpList_make_own _ rfl _ _ 22 rfl w.heap.size 5 i0 (.int .u8 0) 1 Tryd.underlying22 HI.out.1 HI.out.2.1 HI.out.2.2.1 .i64 .i64 _ (l.length + 6) rfl rfl (by omega) (by rw [HI.out.2.2.2]; omega) (by unfold maxLen; omega) (Nat.le_refl _) ?_; intro w1 ho1 hg1)
    | (at_builtin; refine wp_append_fits (E := eU8) w.heap.size rfl (.tmp 7) (.tmp 8) 22 5 _ 1 rfl Tryd.underlying22 infoU8 w.heap.size 0 (l.length + 6) _ [] l rfl rfl rfl ho1 (HR.out.below (below_of_grown hg1)) (by simp) ?_; intro w2 ho2 hg2)
    | (at_builtin; refine wp_append_fits (E := eU8) w.heap.size rfl (.tmp 9) (.tmp 10) 22 5 _ 1 rfl Tryd.underlying22 infoU8 w.heap.size _ (l.length + 6) _ l marks rfl rfl rfl (ho2.alloc _) (Own.lit _ 0 eU8 5 marks 6 rfl _ rfl (Nat.zero_le _) (by decide)).row (by simp [marks]) ?_; intro w3 ho3 hg3))
  go_ret
  have hf := ho3.full (by rw [List.length_append]; rfl)
  refine ⟨_, rfl, ⟨w.heap.size, rfl, Nat.le_refl _, ?_⟩, ?_⟩
  · rw [hf.1, all_u8]
  · have b1 : Below w.heap.size w w1 := below_of_grown hg1
    have b2 : Below w.heap.size w w2 := b1.grown hg2 b1.size (by intro k hk; simp at hk; omega)
    exact (b2.alloc b2.size _).grown hg3 (by have := b2.size; simp; omega) (by intro k hk; simp at hk; omega)
theorem Marked.row {base : Nat} {w : World} {v : Value} {l : List UInt8} (h : Marked base w v l) (hl : l.length ≤ 1000000) : Row eU8 w v l := by
  obtain ⟨g, rfl, _, hh⟩ := h
  refine ⟨_, _, rfl, by omega, by unfold maxLen; omega, by simp, fun ad had j u hu => ?_⟩
  cases had
  have hj : j < l.length := by have := (List.getElem?_eq_some_iff.1 hu).1; rw [all_u8] at this; simpa using this
  rw [show (⟨g, 0, none⟩ : Addr).add j = ⟨g, j, none⟩ by unfold Addr.add; split <;> simp_all, cell_of_row w g j _ _ _ hh]
  rw [all_u8] at hu
  simp only [List.getElem?_toArray, List.map_append]
  rw [List.getElem?_append_left (by simpa using hj)]
  exact hu
theorem Marked.below {base : Nat} {w w1 : World} {v : Value} {l : List UInt8} (h : Marked base w v l) (hb : Below w.heap.size w w1) : Marked base w1 v l := by
  obtain ⟨g, rfl, h1, hh⟩ := h
  exact ⟨g, rfl, h1, (hb.block g (Array.getElem?_eq_some_iff.1 hh).1).trans hh⟩
theorem kept_calls (base : Nat) (u v : Value) (l : List UInt8) (w : World) (hu : Marked base w u l) (hv : Row eU8 w v l) (hl : l.length ≤ 1000000) :
    Calls Tryd.prog 14 #[u, v] w fun e w' => e = .returned (.bool true) ∧ ∃ n, w' = w.drewN n := by
  have hr := hu.row hl
  obtain ⟨A, c, rfl, hc, hm, hv'⟩ := hv.parts
  obtain ⟨g, rfl, hb, hh⟩ := hu
  have kc1 : ∀ k, (convert 22 9 (.slice (some ⟨g, 0, none⟩) l.length (l.length + 6))).run Tryd.prog (w.drewN k) = .ok (.string (str l)) (w.drewN k) := fun k => (hr.drewN k).conv Tryd.underlying22 Tryd.underlying5 Tryd.underlying9
  have kc2 : ∀ k, (convert 22 9 (.slice A l.length c)).run Tryd.prog (w.drewN k) = .ok (.string (str l)) (w.drewN k) := fun k => (hv'.drewN k).conv Tryd.underlying22 Tryd.underlying5 Tryd.underlying9
  have HC : Hid (∀ k, k < 6 → w.cell? ⟨g, l.length + k, none⟩ = some (.int .u8 ((201 + k : Nat) : Int))) := by
    intro k hk
    rw [cell_of_row w g _ _ _ _ hh]
    simp only [List.getElem?_toArray, List.map_append]
    rw [List.getElem?_append_right (by simp)]
    simp only [List.length_map, Nat.add_sub_cancel_left]
    have : k = 0 ∨ k = 1 ∨ k = 2 ∨ k = 3 ∨ k = 4 ∨ k = 5 := by omega
    rcases this with rfl | rfl | rfl | rfl | rfl | rfl <;> rfl
  have HV : Hid (Row eU8 w (.slice A l.length c) l) := Lib.hid hv'
  clear hr hv hv' hh
  go_enter Tryd.func14, Tryd.ntmps14
  go_wp2
  go_quiet (fail)
  go_wp2
  go_loop [6] (fun i => ∃ k : Nat, k ≤ 6 ∧ i = .int .i64 k) (fun i => 6 - (intOf i).toNat)
  case atStart => exact ⟨0, Nat.zero_le _, rfl⟩
  case round =>
    obtain ⟨k, hk, rfl⟩ := hrel
    by_cases hlt : k < 6
    · have hcell := HC.out k hlt
      go_wp2
      go_round
      case rel => exact ⟨k + 1, by omega, by go_num⟩
      case measure => simp [intOf]; omega
    · go_wp2
      go_ret
      exact ⟨rfl, _, rfl⟩
end Go.Proofs.YtfoehgcamkmooaaDoor.Num
