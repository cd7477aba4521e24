/- Addresses and points as values; the contracts of their bytes. -/
import Derived.Test.YtcfgffkjbkpfhaaNum
import Derived.Test.YtcfgffkjbkpfhaaClone
import Derived.BigQuiet
import Derived.Deep.QuietTactic
import Derived.Shelf.RegionOpenPlain
import Derived.Lib.Hide
import Derived.Handy
import Derived.RangeFuncRecord
namespace Go.Proofs.Ytcfgffkjbkpfhaa.Addr
open Go.RowKit Go.Proofs.Ytcfgffkjbkpfhaa.Mem Go.Proofs.Ytcfgffkjbkpfhaa.Num Go.Proofs.Ytcfgffkjbkpfhaa.Clone
set_option linter.unusedVariables false
set_option linter.unusedSimpArgs false
set_option maxRecDepth 100000
attribute [-go_sem] Builtin.append_ loadCells loadCellsFrom
theorem below_allocd {w w1 : World} {o : Obj} (h : Below (w.alloc o).heap.size (w.alloc o) w1) : Below w.heap.size w w1 := ((Below.refl _ _).alloc (Nat.le_refl _) o).trans (h.mono (size_alloc_le (Below.refl _ _) o))
def adCells (six : Bool) (b : List UInt8) : List Value := .bool six :: b.map (fun x => Value.int .u8 (x.toNat : Int))
def adA (six : Bool) (b : List UInt8) : Array Value := (adCells six b).toArray
abbrev adV (six : Bool) (b : List UInt8) : Value := .agg (adA six b)
def ptA (six : Bool) (b : List UInt8) (n : Int) : Array Value := (adCells six b ++ [Value.int .i64 n]).toArray
abbrev ptV (six : Bool) (b : List UInt8) (n : Int) : Value := .agg (ptA six b n)
def adLen (six : Bool) : Nat := if six then 16 else 4
theorem adLen_le (six : Bool) : adLen six ≤ 16 := by cases six <;> decide
theorem split16 (b : List UInt8) (h : b.length = 16) : ∃ b0 b1 b2 b3 b4 b5 b6 b7 b8 b9 b10 b11 b12 b13 b14 b15, b = [b0, b1, b2, b3, b4, b5, b6, b7, b8, b9, b10, b11, b12, b13, b14, b15] := by
  match b, h with
  | [b0, b1, b2, b3, b4, b5, b6, b7, b8, b9, b10, b11, b12, b13, b14, b15], _ => exact ⟨b0, b1, b2, b3, b4, b5, b6, b7, b8, b9, b10, b11, b12, b13, b14, b15, rfl⟩
theorem part_six (six : Bool) (b : List UInt8) (hb : b.length = 16) (w : World) : (part 4 (adA six b) 0).run Try.prog w = .ok (.bool six) w := by
  obtain ⟨b0, b1, b2, b3, b4, b5, b6, b7, b8, b9, b10, b11, b12, b13, b14, b15, rfl⟩ := split16 b hb
  simp [go_sem, adA, adCells]
theorem part_addr (six : Bool) (b : List UInt8) (n : Int) (hb : b.length = 16) (w : World) : (part 39 (ptA six b n) 0).run Try.prog w = .ok (adV six b) w := by
  obtain ⟨b0, b1, b2, b3, b4, b5, b6, b7, b8, b9, b10, b11, b12, b13, b14, b15, rfl⟩ := split16 b hb
  simp [go_sem, adA, ptA, adCells]
theorem part_port (six : Bool) (b : List UInt8) (n : Int) (hb : b.length = 16) (w : World) : (part 3 (ptA six b n) 17).run Try.prog w = .ok (.int .i64 n) w := by
  obtain ⟨b0, b1, b2, b3, b4, b5, b6, b7, b8, b9, b10, b11, b12, b13, b14, b15, rfl⟩ := split16 b hb
  simp [go_sem, ptA, adCells]
theorem adA_size (six : Bool) (b : List UInt8) (hb : b.length = 16) : (adA six b).size = 17 := by simp [adA, adCells, hb]
theorem cell_six (w w1 : World) (six : Bool) (b : List UInt8) (t : TypeId) (hb : Below (w.alloc (.cells (adA six b) t)).heap.size (w.alloc (.cells (adA six b) t)) w1) : w1.cell? ⟨w.heap.size, 0, none⟩ = some (.bool six) := by
  refine cell_below hb ?_
  have hx := World.alloc_heap_new w (.cells (adA six b) t)
  unfold World.cell?
  rw [hx]; rfl
theorem cell_box (w w1 : World) (cs : List Value) (t : TypeId) (hb : Below (w.alloc (.cells cs.toArray t)).heap.size (w.alloc (.cells cs.toArray t)) w1) (j : Nat) (v : Value) (hv : cs[j]? = some v) : w1.cell? ⟨w.heap.size, j, none⟩ = some v := by
  refine cell_below hb ?_
  have hx := World.alloc_heap_new w (.cells cs.toArray t)
  unfold World.cell?
  rw [hx]; simpa using hv
/-- A part of a box, loaded. -/
theorem load_box {P : Program} (w w1 : World) (cs ds : List Value) (t : TypeId) (k n : Nat) (hd : (cs.drop k).take n = ds) (hn : ds.length = n) (hb : Below (w.alloc (.cells cs.toArray t)).heap.size (w.alloc (.cells cs.toArray t)) w1) :
    (loadCells ⟨w.heap.size, k, none⟩ n).run P w1 = .ok ds.toArray w1 := by
  have := run_loadCells_list (P := P) w1 ⟨w.heap.size, k, none⟩ ds (fun j v hv => by
    have hadd : (⟨w.heap.size, k, none⟩ : Addr).add j = ⟨w.heap.size, k + j, none⟩ := by unfold Addr.add; split <;> simp_all
    rw [hadd]
    refine cell_box w w1 cs t hb _ _ ?_
    have hj := (List.getElem?_eq_some_iff.1 hv).1
    rw [← hd, List.getElem?_take, if_pos (by omega), List.getElem?_drop] at hv
    exact hv)
  rw [← hn]
  exact this
/-- The bytes of an address's box. -/
theorem box_row (w w1 : World) (six : Bool) (b : List UInt8) (t : TypeId) (n : Nat) (hn : n ≤ b.length) (hl : b.length = 16) (hb : Below (w.alloc (.cells (adA six b) t)).heap.size (w.alloc (.cells (adA six b) t)) w1) : Row eU8 w1 (.slice (some ⟨w.heap.size, 1, none⟩) n 16) (b.take n) := by
  refine ⟨_, _, by rw [List.length_take, Nat.min_eq_left hn], by rw [List.length_take]; omega, by unfold maxLen; omega, by simp, fun ad had j u hu => ?_⟩
  cases had
  refine cell_below hb ?_
  have hall : eU8.all (b.take n) = (b.take n).map (fun x => Value.int .u8 (x.toNat : Int)) := all_one1 _ _ _
  rw [hall] at hu
  have hj := (List.getElem?_eq_some_iff.1 hu).1
  have hc : (adCells six b)[1 + j]? = some u := by
    unfold adCells
    rw [Nat.add_comm, List.getElem?_cons_succ, ← hu, List.map_take, List.getElem?_take, if_pos (by simp at hj; omega)]
  have hx := World.alloc_heap_new w (.cells (adA six b) t)
  have ha : (⟨w.heap.size, 1, none⟩ : Addr).add j = ⟨w.heap.size, 1 + j, none⟩ := by unfold Addr.add; split <;> simp_all
  rw [ha]
  unfold World.cell?
  rw [hx]
  simpa [adA] using hc
theorem adA_six (six : Bool) (b : List UInt8) : (adA six b)[0]? = some (.bool six) := rfl
def putL (six : Bool) (b : List UInt8) : List UInt8 := (if six then 6 else 4) :: b.take (adLen six)
theorem putL_len (six : Bool) (b : List UInt8) : (putL six b).length ≤ 17 := by
  have := adLen_le six
  simp [putL]; omega
end Go.Proofs.Ytcfgffkjbkpfhaa.Addr
