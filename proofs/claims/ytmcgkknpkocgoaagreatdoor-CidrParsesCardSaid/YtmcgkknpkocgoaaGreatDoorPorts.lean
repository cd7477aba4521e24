/- Points as bytes. -/
import Derived.Test.YtmcgkknpkocgoaaGreatDoorAddr
import Derived.Test.YtmcgkknpkocgoaaGreatDoorMemR
namespace Go.Proofs.YtmcgkknpkocgoaaGreatDoor.Addr
open Go.RowKit Go.Proofs.YtmcgkknpkocgoaaGreatDoor.Mem Go.Proofs.YtmcgkknpkocgoaaGreatDoor.Num Go.Proofs.YtmcgkknpkocgoaaGreatDoor.Clone
set_option linter.unusedVariables false
set_option linter.unusedSimpArgs false
set_option maxRecDepth 100000
attribute [-go_sem] Builtin.append_ loadCells loadCellsFrom
def byteOf (x : Int) : UInt8 := UInt8.ofNat (x % 256).toNat
theorem byteOf_int (x : Int) : ((byteOf x).toNat : Int) = x % 256 := by
  unfold byteOf
  have h0 := Int.emod_nonneg x (show (256 : Int) ≠ 0 by omega)
  have h1 := Int.emod_lt_of_pos x (show (0 : Int) < 256 by omega)
  rw [UInt8.toNat_ofNat_of_lt' (by show (x % 256).toNat < 256; omega)]
  omega
theorem wrap8 (x : Int) : IntKind.u8.wrap x = ((byteOf x).toNat : Int) := by rw [byteOf_int, IntKind.wrap_u8]
def portL (n : Int) : List UInt8 := [byteOf (n / 256), byteOf n]
def pointL (six : Bool) (b : List UInt8) (n : Int) : List UInt8 := putL six b ++ portL n
theorem pt_loads (six : Bool) (b : List UInt8) (n : Int) (hb : b.length = 16) (w w1 : World) (t : TypeId) (h : Below (w.alloc (.cells (ptA six b n) t)).heap.size (w.alloc (.cells (ptA six b n) t)) w1) :
    (loadCells ⟨w.heap.size, 0, none⟩ 17).run Tryz.prog w1 = .ok (adA six b) w1 ∧ (loadCells ⟨w.heap.size, 0, none⟩ 18).run Tryz.prog w1 = .ok (ptA six b n) w1 ∧ w1.cell? ⟨w.heap.size, 17, none⟩ = some (.int .i64 n) := by
  have hl : (adCells six b).length = 17 := by simp [adCells, hb]
  refine ⟨load_box w w1 (adCells six b ++ [.int .i64 n]) (adCells six b) t 0 17 ?_ hl h, load_box w w1 (adCells six b ++ [.int .i64 n]) (adCells six b ++ [.int .i64 n]) t 0 18 ?_ (by simp [hl]) h, cell_box w w1 (adCells six b ++ [.int .i64 n]) t h 17 _ ?_⟩
  · rw [List.drop_zero, List.take_append_of_le_length (by omega), List.take_of_length_le (by omega)]
  · rw [List.drop_zero, List.take_of_length_le (by simp [hl])]
  · rw [List.getElem?_append_right (by omega), hl]; rfl
theorem below_lit {w w1 : World} {o : Obj} (h : Below (w.alloc o).drew.heap.size (w.alloc o).drew w1) : Below w.heap.size w w1 := ((Below.refl _ _).alloc (Nat.le_refl _) o).drew.trans (h.mono (by show w.heap.size ≤ (w.alloc o).heap.size; simp))
theorem below_dr {w w1 : World} (h : Below w.drew.heap.size w.drew w1) : Below w.heap.size w w1 := (Below.refl w.heap.size w).drew.trans h
set_option maxHeartbeats 4000000 in
theorem ports_calls (six : Bool) (b : List UInt8) (n : Int) (hb : b.length = 16) (w : World) : Calls Tryz.prog 44 #[ptV six b n] w fun e w' => (∃ v, e = .returned v ∧ Own eU8 5 w.heap.size w' v (pointL six b n)) ∧ Below w.heap.size w w' := by
  have hsz := fun W => put_calls six b hb W
  have hll := putL_len six b
  have hld := fun w1 h => pt_loads six b n hb w w1 61 h
  have hpa := part_addr six b n hb
  have hpp := part_port six b n hb
  have e1 := wrap8 n
  have e2 := wrap8 (n / 256)
  have hp : pointL six b n = putL six b ++ [byteOf (n / 256), byteOf n] := rfl
  rw [hp]
  generalize putL six b = L at hsz hll ⊢
  have HS := Lib.hid hsz
  have HLD := Lib.hid hld
  clear hsz hb hp hld
  obtain ⟨l0, l1, l2⟩ := HLD.out _ (Below.refl _ _)
  obtain ⟨d0, d1, d2⟩ := HLD.out _ (Below.refl _ _).drew
  obtain ⟨x0, x1, x2⟩ := HLD.out _ (((Below.refl _ _).alloc (Nat.le_refl _) (.cells #[.int .u8 ((byteOf (n / 256)).toNat : Int), .int .u8 ((byteOf n).toNat : Int)] 5)).drew)
  go_enter Tryz.func44, Tryz.ntmps44
  go_wp2
  go_region_law (first
    | (refine step_append (E := eU8) w.heap.size rfl (.tmp 5) (.tmp 13) 39 5 _ 1 rfl Tryz.underlying39 infoU8 rfl (by decide) _ _ L [byteOf (n / 256), byteOf n] rfl rfl (hO1.out.alloc _) (Own.lit w1 w.heap.size eU8 5 [byteOf (n / 256), byteOf n] 2 rfl _ rfl hle1 (by simp)).row (Nat.le_trans hle1 (by simp)) (by simp; omega) ?_; intro v1 w2 ho1 hg1 hat1)
    | (refine step_append (E := eU8) w.heap.size rfl (.tmp 5) (.tmp 13) 39 5 _ 1 rfl Tryz.underlying39 infoU8 rfl (by decide) _ _ L [byteOf (n / 256), byteOf n] rfl rfl hO1.out hL1.out.row hle1 (by simp; omega) ?_; intro v1 w2 ho1 hg1 hat1)
    | (go_simp; go_at_call 27; ((with_reducible refine (HS.out _).mono ?_); rintro e w1 ⟨⟨v, rfl, hO⟩, hB⟩; have hBW := below_dr hB; obtain ⟨m0, m1, m2⟩ := HLD.out _ hBW; have hO1 := Lib.hid (hO.lower (show w.heap.size ≤ _ by simp [World.drew] <;> omega)); have HB1 := Lib.hid (below_allocd hBW); have hle1 := HB1.out.size; clear hO hB hBW))
    | (go_simp; go_at_call 27; ((with_reducible refine (HS.out _).mono ?_); rintro e w1 ⟨⟨v, rfl, hO⟩, hB⟩; have hBW := below_lit hB; obtain ⟨m0, m1, m2⟩ := HLD.out _ hBW; have hO1 := Lib.hid (hO.lower (show w.heap.size ≤ _ by simp [World.drew] <;> omega)); have hL1 := Lib.hid (show Own eU8 5 w.heap.size w1 (.slice (some ⟨w.heap.size + 1, 0, none⟩) 2 2) [byteOf (n / 256), byteOf n] from (show (w.alloc (.cells (ptA six b n) 61)).heap.size = w.heap.size + 1 by simp) ▸ (Own.drewN (Own.lit (w.alloc (.cells (ptA six b n) 61)) w.heap.size eU8 5 [byteOf (n / 256), byteOf n] 2 rfl _ rfl (by simp) (by simp)) 1).below hB); have HB1 := Lib.hid (below_allocd hBW); have hle1 := HB1.out.size; clear hO hB hBW)))
  all_goals go_wp2
  all_goals go_ret
  all_goals first
    | exact ⟨⟨_, rfl, ho1⟩, below_app (HB1.out.alloc hle1 _) (Nat.le_trans hle1 (by simp)) (hO1.out.alloc _) hg1⟩
    | exact ⟨⟨_, rfl, ho1⟩, below_app HB1.out hle1 hO1.out hg1⟩
end Go.Proofs.YtmcgkknpkocgoaaGreatDoor.Addr
