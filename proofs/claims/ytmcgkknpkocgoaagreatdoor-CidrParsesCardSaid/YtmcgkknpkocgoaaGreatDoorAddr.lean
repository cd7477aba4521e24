/- Addresses and points as values; the contracts of their bytes. -/
import Derived.Test.YtmcgkknpkocgoaaGreatDoorNum
import Derived.Test.YtmcgkknpkocgoaaGreatDoorClone
import Derived.BigQuiet
import Derived.Deep.QuietTactic
import Derived.Shelf.RegionOpenPlain
import Derived.Lib.Hide
import Derived.Handy
import Derived.RangeFuncRecord
namespace Go.Proofs.YtmcgkknpkocgoaaGreatDoor.Addr
open Go.RowKit Go.Proofs.YtmcgkknpkocgoaaGreatDoor.Mem Go.Proofs.YtmcgkknpkocgoaaGreatDoor.Num Go.Proofs.YtmcgkknpkocgoaaGreatDoor.Clone
set_option linter.unusedVariables false
set_option linter.unusedSimpArgs false
set_option maxRecDepth 100000
attribute [-go_sem] Builtin.append_ loadCells loadCellsFrom
theorem below_allocd {w w1 : World} {o : Obj} (h : Below (w.alloc o).heap.size (w.alloc o) w1) : Below w.heap.size w w1 := ((Below.refl _ _).alloc (Nat.le_refl _) o).trans (h.mono (size_alloc_le (Below.refl _ _) o))
def adCells (six : Bool) (b : List UInt8) : List Value := .bool six :: b.map (fun x => Value.int .u8 (x.toNat : Int))
def adA (six : Bool) (b : List UInt8) : Array Value := (adCells six b).toArray
abbrev adV (six : Bool) (b : List UInt8) : Value := .agg (adA six b)
def ptA (six : Bool) (b : List UInt8) (n : Int) : Array Value := (adCells six b ++ [Value.int .i64 n]).toArray
abbrev ptV (six : Bool) (b : List UInt8) (n : Int) : Value := .agg (ptA six b n)
def adLen (six : Bool) : Nat := if six then 16 else 4
theorem adLen_le (six : Bool) : adLen six ≤ 16 := by cases six <;> decide
theorem split16 (b : List UInt8) (h : b.length = 16) : ∃ b0 b1 b2 b3 b4 b5 b6 b7 b8 b9 b10 b11 b12 b13 b14 b15, b = [b0, b1, b2, b3, b4, b5, b6, b7, b8, b9, b10, b11, b12, b13, b14, b15] := by
  match b, h with
  | [b0, b1, b2, b3, b4, b5, b6, b7, b8, b9, b10, b11, b12, b13, b14, b15], _ => exact ⟨b0, b1, b2, b3, b4, b5, b6, b7, b8, b9, b10, b11, b12, b13, b14, b15, rfl⟩
theorem part_six (six : Bool) (b : List UInt8) (hb : b.length = 16) (w : World) : (part 4 (adA six b) 0).run Tryz.prog w = .ok (.bool six) w := by
  obtain ⟨b0, b1, b2, b3, b4, b5, b6, b7, b8, b9, b10, b11, b12, b13, b14, b15, rfl⟩ := split16 b hb
  simp [go_sem, adA, adCells]
theorem part_addr (six : Bool) (b : List UInt8) (n : Int) (hb : b.length = 16) (w : World) : (part 24 (ptA six b n) 0).run Tryz.prog w = .ok (adV six b) w := by
  obtain ⟨b0, b1, b2, b3, b4, b5, b6, b7, b8, b9, b10, b11, b12, b13, b14, b15, rfl⟩ := split16 b hb
  simp [go_sem, adA, ptA, adCells]
theorem part_port (six : Bool) (b : List UInt8) (n : Int) (hb : b.length = 16) (w : World) : (part 3 (ptA six b n) 17).run Tryz.prog w = .ok (.int .i64 n) w := by
  obtain ⟨b0, b1, b2, b3, b4, b5, b6, b7, b8, b9, b10, b11, b12, b13, b14, b15, rfl⟩ := split16 b hb
  simp [go_sem, ptA, adCells]
theorem adA_size (six : Bool) (b : List UInt8) (hb : b.length = 16) : (adA six b).size = 17 := by simp [adA, adCells, hb]
theorem cell_six (w w1 : World) (six : Bool) (b : List UInt8) (t : TypeId) (hb : Below (w.alloc (.cells (adA six b) t)).heap.size (w.alloc (.cells (adA six b) t)) w1) : w1.cell? ⟨w.heap.size, 0, none⟩ = some (.bool six) := by
  refine cell_below hb ?_
  have hx := World.alloc_heap_new w (.cells (adA six b) t)
  unfold World.cell?
  rw [hx]; rfl
theorem cell_box (w w1 : World) (cs : List Value) (t : TypeId) (hb : Below (w.alloc (.cells cs.toArray t)).heap.size (w.alloc (.cells cs.toArray t)) w1) (j : Nat) (v : Value) (hv : cs[j]? = some v) : w1.cell? ⟨w.heap.size, j, none⟩ = some v := by
  refine cell_below hb ?_
  have hx := World.alloc_heap_new w (.cells cs.toArray t)
  unfold World.cell?
  rw [hx]; simpa using hv
/-- A part of a box, loaded. -/
theorem load_box {P : Program} (w w1 : World) (cs ds : List Value) (t : TypeId) (k n : Nat) (hd : (cs.drop k).take n = ds) (hn : ds.length = n) (hb : Below (w.alloc (.cells cs.toArray t)).heap.size (w.alloc (.cells cs.toArray t)) w1) :
    (loadCells ⟨w.heap.size, k, none⟩ n).run P w1 = .ok ds.toArray w1 := by
  have := run_loadCells_list (P := P) w1 ⟨w.heap.size, k, none⟩ ds (fun j v hv => by
    have hadd : (⟨w.heap.size, k, none⟩ : Addr).add j = ⟨w.heap.size, k + j, none⟩ := by unfold Addr.add; split <;> simp_all
    rw [hadd]
    refine cell_box w w1 cs t hb _ _ ?_
    have hj := (List.getElem?_eq_some_iff.1 hv).1
    rw [← hd, List.getElem?_take, if_pos (by omega), List.getElem?_drop] at hv
    exact hv)
  rw [← hn]
  exact this
/-- The bytes of an address's box. -/
theorem box_row (w w1 : World) (six : Bool) (b : List UInt8) (t : TypeId) (n : Nat) (hn : n ≤ b.length) (hl : b.length = 16) (hb : Below (w.alloc (.cells (adA six b) t)).heap.size (w.alloc (.cells (adA six b) t)) w1) : Row eU8 w1 (.slice (some ⟨w.heap.size, 1, none⟩) n 16) (b.take n) := by
  refine ⟨_, _, by rw [List.length_take, Nat.min_eq_left hn], by rw [List.length_take]; omega, by unfold maxLen; omega, by simp, fun ad had j u hu => ?_⟩
  cases had
  refine cell_below hb ?_
  have hall : eU8.all (b.take n) = (b.take n).map (fun x => Value.int .u8 (x.toNat : Int)) := all_one1 _ _ _
  rw [hall] at hu
  have hj := (List.getElem?_eq_some_iff.1 hu).1
  have hc : (adCells six b)[1 + j]? = some u := by
    unfold adCells
    rw [Nat.add_comm, List.getElem?_cons_succ, ← hu, List.map_take, List.getElem?_take, if_pos (by simp at hj; omega)]
  have hx := World.alloc_heap_new w (.cells (adA six b) t)
  have ha : (⟨w.heap.size, 1, none⟩ : Addr).add j = ⟨w.heap.size, 1 + j, none⟩ := by unfold Addr.add; split <;> simp_all
  rw [ha]
  unfold World.cell?
  rw [hx]
  simpa [adA] using hc
theorem adA_six (six : Bool) (b : List UInt8) : (adA six b)[0]? = some (.bool six) := rfl
theorem size_calls (six : Bool) (b : List UInt8) (hb : b.length = 16) (w : World) : Calls Tryz.prog 88 #[adV six b] w fun e w' => e = .returned (.int .i64 (adLen six : Int)) ∧ Below w.heap.size w w' := by
  have hp := part_six six b hb
  have hc := adA_six six b
  clear hb
  cases six
  all_goals
    simp only [adLen]
    go_enter Tryz.func88, Tryz.ntmps88
    go_wp2
    go_ret
    exact ⟨rfl, by go_grown⟩
theorem bytes_calls (six : Bool) (b : List UInt8) (hb : b.length = 16) (w : World) : Calls Tryz.prog 25 #[adV six b] w fun e w' => (∃ v, e = .returned v ∧ Own eU8 5 w.heap.size w' v (b.take (adLen six))) ∧ Below w.heap.size w w' := by
  have hrow := fun w1 h => box_row w w1 six b 24 (adLen six) (by rw [hb]; exact adLen_le six) hb h
  have hsz := fun W => size_calls six b hb W
  have hle := adLen_le six
  have hcl := fun W h => clone_calls (.slice (some ⟨w.heap.size, 1, none⟩) (adLen six) 16) (b.take (adLen six)) W h (by rw [List.length_take]; omega)
  have hp := part_six six b hb
  have hc := adA_six six b
  have hld := fun w1 h => load_box (P := Tryz.prog) w w1 (adCells six b) (adCells six b) 24 0 17 (by rw [List.drop_zero, List.take_of_length_le (by simp [adCells, hb])]) (by simp [adCells, hb]) h
  have hl0 := hld _ (Below.refl _ _)
  rw [show (adCells six b).toArray = adA six b from rfl] at hl0
  clear hb hld
  generalize b.take (adLen six) = L at hrow hcl ⊢
  clear hp
  cases six
  all_goals
    simp only [adLen, Bool.false_eq_true, if_false, if_true] at hrow hsz hcl
    have HS := Lib.hid hsz
    have HROW := Lib.hid hrow
    have HCL := Lib.hid hcl
    clear hsz hrow hcl
    go_enter Tryz.func25, Tryz.ntmps25
    go_wp2_with (first
      | (go_at_call 88; ((with_reducible refine (HS.out _).mono ?_); rintro e w1 ⟨rfl, hB⟩; have hB1 := Lib.hid (HROW.out _ hB); have HB1 := Lib.hid (show Below w.heap.size w w1 from ((Below.refl _ w).alloc (Nat.le_refl _) _).trans (hB.mono (by simp))); clear hB))
      | (go_at_call 94; ((with_reducible refine (HCL.out _ hB1.out).mono ?_); rintro e w2 ⟨⟨v, rfl, hO⟩, hB2⟩)))
    go_ret
    exact ⟨⟨_, rfl, hO.lower HB1.out.size⟩, below_next HB1.out hB2⟩
def putL (six : Bool) (b : List UInt8) : List UInt8 := (if six then 6 else 4) :: b.take (adLen six)
theorem putL_len (six : Bool) (b : List UInt8) : (putL six b).length ≤ 17 := by
  have := adLen_le six
  simp [putL]; omega
theorem put_calls (six : Bool) (b : List UInt8) (hb : b.length = 16) (w : World) : Calls Tryz.prog 27 #[adV six b] w fun e w' => (∃ v, e = .returned v ∧ Own eU8 5 w.heap.size w' v (putL six b)) ∧ Below w.heap.size w w' := by
  have hsz := fun W => bytes_calls six b hb W
  have hle := adLen_le six
  have hll : (b.take (adLen six)).length ≤ 16 := by rw [List.length_take]; omega
  have hp : putL six b = [if six then 6 else 4] ++ b.take (adLen six) := rfl
  have hld := fun w1 h => load_box (P := Tryz.prog) w w1 (adCells six b) (adCells six b) 24 0 17 (by rw [List.drop_zero, List.take_of_length_le (by simp [adCells, hb])]) (by simp [adCells, hb]) h
  have hc := adA_six six b
  rw [show (adCells six b).toArray = adA six b from rfl] at hld
  rw [hp]
  generalize b.take (adLen six) = L at hsz hll ⊢
  have HS := Lib.hid hsz
  have HLD := Lib.hid hld
  clear hsz hb hp hld
  cases six
  · have hl0 := HLD.out _ ((Below.refl _ _).alloc (by simp) (.cells #[.int .u8 4] 5))
    have hsz1 : (w.alloc (.cells (adA false b) 24)).heap.size = w.heap.size + 1 := by simp
    go_enter Tryz.func27, Tryz.ntmps27
    go_wp2_with (first
      | (go_at_call 25; ((with_reducible refine (HS.out _).mono ?_); rintro e w1 ⟨⟨v, rfl, hO⟩, hB⟩; have hO0 := (Own.lit (w.alloc (.cells (adA false b) 24)) w.heap.size eU8 5 [4] 1 rfl _ rfl (by simp) (by simp)).below hB; rw [hsz1] at hO0))
      | (at_builtin; (refine wp_append (E := eU8) w.heap.size rfl (.tmp 9) (.tmp 11) 39 5 _ 1 rfl Tryz.underlying39 infoU8 rfl (by decide) _ _ [4] L rfl rfl hO0 hO.row (by have := hB.size; simp at this; omega) (by simp; omega) ?_; intro v1 w2 ho1 hg1 hat1)))
    go_ret
    exact ⟨⟨_, rfl, ho1⟩, below_app (below_allocd (below_allocd hB)) (by have := hB.size; simp at this; omega) hO0 hg1⟩
  · have hl0 := HLD.out _ ((Below.refl _ _).alloc (by simp) (.cells #[.int .u8 6] 5))
    have hsz1 : (w.alloc (.cells (adA true b) 24)).heap.size = w.heap.size + 1 := by simp
    go_enter Tryz.func27, Tryz.ntmps27
    go_wp2_with (first
      | (go_at_call 25; ((with_reducible refine (HS.out _).mono ?_); rintro e w1 ⟨⟨v, rfl, hO⟩, hB⟩; have hO0 := (Own.lit (w.alloc (.cells (adA true b) 24)) w.heap.size eU8 5 [6] 1 rfl _ rfl (by simp) (by simp)).below hB; rw [hsz1] at hO0))
      | (at_builtin; (refine wp_append (E := eU8) w.heap.size rfl (.tmp 5) (.tmp 7) 39 5 _ 1 rfl Tryz.underlying39 infoU8 rfl (by decide) _ _ [6] L rfl rfl hO0 hO.row (by have := hB.size; simp at this; omega) (by simp; omega) ?_; intro v1 w2 ho1 hg1 hat1)))
    go_ret
    exact ⟨⟨_, rfl, ho1⟩, below_app (below_allocd (below_allocd hB)) (by have := hB.size; simp at this; omega) hO0 hg1⟩
end Go.Proofs.YtmcgkknpkocgoaaGreatDoor.Addr
