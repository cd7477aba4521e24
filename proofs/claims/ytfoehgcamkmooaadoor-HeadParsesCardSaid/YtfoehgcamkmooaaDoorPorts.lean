/- Points as bytes. -/
import Derived.Test.YtfoehgcamkmooaaDoorAddr
import Derived.Test.YtfoehgcamkmooaaDoorMemR
namespace Go.Proofs.YtfoehgcamkmooaaDoor.Addr
open Go.RowKit Go.Proofs.YtfoehgcamkmooaaDoor.Mem Go.Proofs.YtfoehgcamkmooaaDoor.Num Go.Proofs.YtfoehgcamkmooaaDoor.Clone
set_option linter.unusedVariables false
set_option linter.unusedSimpArgs false
set_option maxRecDepth 100000
attribute [-go_sem] Builtin.append_ loadCells loadCellsFrom
def byteOf (x : Int) : UInt8 := UInt8.ofNat (x % 256).toNat
theorem byteOf_int (x : Int) : ((byteOf x).toNat : Int) = x % 256 := by
  unfold byteOf
  have h0 := Int.emod_nonneg x (show (256 : Int) ≠ 0 by omega)
  have h1 := Int.emod_lt_of_pos x (show (0 : Int) < 256 by omega)
  rw [UInt8.toNat_ofNat_of_lt' (by show (x % 256).toNat < 256; omega)]
  omega
theorem wrap8 (x : Int) : IntKind.u8.wrap x = ((byteOf x).toNat : Int) := by rw [byteOf_int, IntKind.wrap_u8]
def portL (n : Int) : List UInt8 := [byteOf (n / 256), byteOf n]
def pointL (six : Bool) (b : List UInt8) (n : Int) : List UInt8 := putL six b ++ portL n
theorem pt_loads (six : Bool) (b : List UInt8) (n : Int) (hb : b.length = 16) (w w1 : World) (t : TypeId) (h : Below (w.alloc (.cells (ptA six b n) t)).heap.size (w.alloc (.cells (ptA six b n) t)) w1) :
    (loadCells ⟨w.heap.size, 0, none⟩ 17).run Tryd.prog w1 = .ok (adA six b) w1 ∧ (loadCells ⟨w.heap.size, 0, none⟩ 18).run Tryd.prog w1 = .ok (ptA six b n) w1 ∧ w1.cell? ⟨w.heap.size, 17, none⟩ = some (.int .i64 n) := by
  have hl : (adCells six b).length = 17 := by simp [adCells, hb]
  refine ⟨load_box w w1 (adCells six b ++ [.int .i64 n]) (adCells six b) t 0 17 ?_ hl h, load_box w w1 (adCells six b ++ [.int .i64 n]) (adCells six b ++ [.int .i64 n]) t 0 18 ?_ (by simp [hl]) h, cell_box w w1 (adCells six b ++ [.int .i64 n]) t h 17 _ ?_⟩
  · rw [List.drop_zero, List.take_append_of_le_length (by omega), List.take_of_length_le (by omega)]
  · rw [List.drop_zero, List.take_of_length_le (by simp [hl])]
  · rw [List.getElem?_append_right (by omega), hl]; rfl
theorem below_lit {w w1 : World} {o : Obj} (h : Below (w.alloc o).drew.heap.size (w.alloc o).drew w1) : Below w.heap.size w w1 := ((Below.refl _ _).alloc (Nat.le_refl _) o).drew.trans (h.mono (by show w.heap.size ≤ (w.alloc o).heap.size; simp))
theorem below_dr {w w1 : World} (h : Below w.drew.heap.size w.drew w1) : Below w.heap.size w w1 := (Below.refl w.heap.size w).drew.trans h
end Go.Proofs.YtfoehgcamkmooaaDoor.Addr
