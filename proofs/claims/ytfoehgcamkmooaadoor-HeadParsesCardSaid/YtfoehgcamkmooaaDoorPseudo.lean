/- sums.Pseudo. -/
import Derived.Test.YtfoehgcamkmooaaDoorAddr
import Derived.Test.YtfoehgcamkmooaaDoorConcat
import Derived.Test.YtfoehgcamkmooaaDoorPorts
import Derived.Test.YtfoehgcamkmooaaDoorSums3
namespace Go.Proofs.YtfoehgcamkmooaaDoor.Pseudo
open Go.RowKit Go.Proofs.YtfoehgcamkmooaaDoor.Mem Go.Proofs.YtfoehgcamkmooaaDoor.Num Go.Proofs.YtfoehgcamkmooaaDoor.Clone Go.Proofs.YtfoehgcamkmooaaDoor.Addr Go.Proofs.YtfoehgcamkmooaaDoor.Concat
set_option linter.unusedVariables false
set_option linter.unusedSimpArgs false
set_option maxRecDepth 100000
attribute [-go_sem] Builtin.append_ loadCells loadCellsFrom
theorem ad_loads (six : Bool) (b : List UInt8) (hb : b.length = 16) (w w1 : World) (t : TypeId) (h : Below (w.alloc (.cells (adA six b) t)).heap.size (w.alloc (.cells (adA six b) t)) w1) :
    (loadCells ⟨w.heap.size, 0, none⟩ 17).run Tryd.prog w1 = .ok (adA six b) w1 ∧ w1.cell? ⟨w.heap.size, 0, none⟩ = some (.bool six) := by
  have hl : (adCells six b).length = 17 := by simp [adCells, hb]
  exact ⟨load_box w w1 (adCells six b) (adCells six b) t 0 17 (by rw [List.drop_zero, List.take_of_length_le (by omega)]) hl h, cell_six w w1 six b t h⟩
theorem rows2 (W : World) (g : Nat) (hg : W.heap.size = g) (x y : Sl) (a b : List UInt8) (t : TypeId) (ha : Row eU8 W x.v a) (hb : Row eU8 W y.v b) :
    Concat.Rows (W.alloc (.cells #[x.v, y.v] t)) (.slice (some ⟨g, 0, none⟩) 2 2) [a, b] := by
  subst hg
  refine ⟨[x, y], (Mem.Own.lit W 0 eSl t [x, y] 2 rfl #[x.v, y.v] rfl (Nat.zero_le _) (by simp)).row, rfl, fun k h h' => ?_⟩
  match k, h with
  | 0, _ => exact ha.alloc _
  | 1, _ => exact hb.alloc _
def tailL (six : Bool) (proto n : Int) : List UInt8 :=
  if six then [Addr.byteOf (n / 16777216), Addr.byteOf (n / 65536), Addr.byteOf (n / 256), Addr.byteOf n, 0, 0, 0, Addr.byteOf proto] else [0, Addr.byteOf proto, Addr.byteOf (n / 256), Addr.byteOf n]
set_option maxHeartbeats 8000000 in
theorem pseudo_calls (s1 : Bool) (b1 : List UInt8) (h1 : b1.length = 16) (s2 : Bool) (b2 : List UInt8) (h2 : b2.length = 16) (proto n : Int) (w : World) :
    Calls Tryd.prog 57 #[adV s1 b1, adV s2 b2, .int .i64 proto, .int .i64 n] w fun e w' => (∃ v, e = .returned v ∧ Mem.Own eU8 5 w.heap.size w' v (b1.take (adLen s1) ++ b2.take (adLen s2) ++ tailL s1 proto n)) ∧ Below w.heap.size w w' := by
  have hp := fun W => bytes_calls s1 b1 h1 W
  have hq := fun W => bytes_calls s2 b2 h2 W
  have hlp : (w.alloc (.cells (adA s1 b1) 27)).heap.size = w.heap.size + 1 := by simp
  have HPl : ∀ w1, Below ((w.alloc (.cells (adA s1 b1) 27)).alloc (.cells (adA s2 b2) 27)).heap.size ((w.alloc (.cells (adA s1 b1) 27)).alloc (.cells (adA s2 b2) 27)) w1 → (loadCells ⟨w.heap.size, 0, none⟩ 17).run Tryd.prog w1 = .ok (adA s1 b1) w1 ∧ w1.cell? ⟨w.heap.size, 0, none⟩ = some (.bool s1) ∧ (loadCells ⟨w.heap.size + 1, 0, none⟩ 17).run Tryd.prog w1 = .ok (adA s2 b2) w1 := by
    intro w1 hB
    obtain ⟨a1, a2⟩ := ad_loads s1 b1 h1 w w1 27 (below_allocd hB)
    refine ⟨a1, a2, ?_⟩
    have := (ad_loads s2 b2 h2 _ w1 27 hB).1
    rwa [hlp] at this
  have hl1 : (b1.take (adLen s1)).length = adLen s1 := by have := adLen_le s1; rw [List.length_take]; omega
  have hl2 : (b2.take (adLen s2)).length = adLen s2 := by have := adLen_le s2; rw [List.length_take]; omega
  have hg1 : 4 ≤ adLen s1 ∧ adLen s1 ≤ 16 := by cases s1 <;> decide
  have hg2 : 4 ≤ adLen s2 ∧ adLen s2 ≤ 16 := by cases s2 <;> decide
  simp only [adV] at hp hq ⊢
  generalize b1.take (adLen s1) = pl at hp hl1 ⊢
  generalize b2.take (adLen s2) = ql at hq hl2 ⊢
  generalize adA s1 b1 = pa at hp HPl hlp ⊢
  generalize adA s2 b2 = qa at hq HPl ⊢
  have HFL := Lib.hid (show 0 < [pl, ql].flatten.length ∧ [pl, ql].flatten.length ≤ 1000000 by simp; omega)
  have hflat : [pl, ql].flatten = pl ++ ql := by simp
  have HFT := Lib.hid hflat
  have HLL := Lib.hid (show (pl ++ ql).length ≤ 32 by simp; omega)
  have HP := Lib.hid hp
  have HQ := Lib.hid hq
  have HLD := Lib.hid HPl
  have e1 := wrap8 n
  have e2 := wrap8 (n / 256)
  have e3 := wrap8 (n / 65536)
  have e4 := wrap8 (n / 16777216)
  have e5 := wrap8 proto
  clear hp hq HPl hflat hl1 hl2 hg1 hg2
  obtain ⟨d0, d1, d2⟩ := HLD.out _ (Below.refl _ _).drew
  unfold tailL
  cases s1
  · simp only [Bool.false_eq_true, if_false]
    go_enter Tryd.func57, Tryd.ntmps57
    go_wp2
    go_region_law (first
      | (go_simp; go_at_call 66; ((with_reducible refine (HP.out _).mono ?_); rintro e w1 ⟨⟨v1, rfl, hO1⟩, hB1⟩; have hBW1 := below_dr hB1; obtain ⟨m0, m1, m2⟩ := HLD.out _ hBW1; obtain ⟨A1, c1, rfl, _, _, hr1⟩ := hO1.row.parts; have HR1 := Lib.hid hr1; have HB1 := Lib.hid hBW1; clear hO1 hr1 hB1 hBW1))
      | (go_simp; go_at_call 66; ((with_reducible refine (HQ.out _).mono ?_); rintro e w2 ⟨⟨v2, rfl, hO2⟩, hB2⟩; have HB2 := Lib.hid (HB1.out.trans (hB2.mono HB1.out.size)); obtain ⟨A2, c2, rfl, _, _, hr2⟩ := hO2.row.parts; have HR2 := Lib.hid hr2; have HS1 := Lib.hid (HR1.out.below hB2); clear hO2 hr2 hB2))
      | (go_simp; go_at_call 41; ((with_reducible refine (concat_calls _ _ _ (rows2 w2 w2.heap.size rfl (A1, pl.length, c1) (A2, ql.length, c2) pl ql 22 HS1.out HR2.out) HFL.out.1 HFL.out.2).mono ?_); rintro e w3 ⟨⟨v3, rfl, hO3⟩, hB3⟩; have HB3 := Lib.hid (HB2.out.trans ((below_allocd hB3).mono HB2.out.size)); obtain ⟨k0, k1, k2⟩ := HLD.out _ HB3.out; rw [HFT.out] at hO3; have HO3 := Lib.hid (hO3.lower (Nat.le_trans HB2.out.size (by simp))); clear hO3 hB3)))
    all_goals go_wp2_with (at_builtin; (refine wp_append (E := eU8) _ rfl (.tmp 34) (.tmp 42) 22 5 _ 1 rfl Tryd.underlying22 infoU8 rfl (by decide) _ _ (pl ++ ql) [0, Addr.byteOf proto, Addr.byteOf (n / 256), Addr.byteOf n] rfl rfl (HO3.out.alloc _) (Mem.Own.lit w3 0 eU8 5 [0, Addr.byteOf proto, Addr.byteOf (n / 256), Addr.byteOf n] 4 rfl #[.int .u8 0, .int .u8 ((Addr.byteOf proto).toNat : Int), .int .u8 ((Addr.byteOf (n / 256)).toNat : Int), .int .u8 ((Addr.byteOf n).toNat : Int)] rfl (Nat.zero_le _) (by simp)).row (Nat.le_trans HB3.out.size (by simp)) (by have := HLL.out; simp at this ⊢; omega) ?_; intro v4 w4 ho4 hg4 hat4))
    all_goals go_ret
    all_goals exact ⟨⟨_, rfl, ho4.lower (by simp; omega)⟩, below_allocd (below_allocd (below_app (HB3.out.alloc HB3.out.size _) (Nat.le_trans HB3.out.size (by simp)) (HO3.out.alloc _) hg4))⟩
  · simp only [if_true]
    go_enter Tryd.func57, Tryd.ntmps57
    go_wp2
    go_region_law (first
      | (go_simp; go_at_call 66; ((with_reducible refine (HP.out _).mono ?_); rintro e w1 ⟨⟨v1, rfl, hO1⟩, hB1⟩; have hBW1 := below_dr hB1; obtain ⟨m0, m1, m2⟩ := HLD.out _ hBW1; obtain ⟨A1, c1, rfl, _, _, hr1⟩ := hO1.row.parts; have HR1 := Lib.hid hr1; have HB1 := Lib.hid hBW1; clear hO1 hr1 hB1 hBW1))
      | (go_simp; go_at_call 66; ((with_reducible refine (HQ.out _).mono ?_); rintro e w2 ⟨⟨v2, rfl, hO2⟩, hB2⟩; have HB2 := Lib.hid (HB1.out.trans (hB2.mono HB1.out.size)); obtain ⟨A2, c2, rfl, _, _, hr2⟩ := hO2.row.parts; have HR2 := Lib.hid hr2; have HS1 := Lib.hid (HR1.out.below hB2); clear hO2 hr2 hB2))
      | (go_simp; go_at_call 41; ((with_reducible refine (concat_calls _ _ _ (rows2 w2 w2.heap.size rfl (A1, pl.length, c1) (A2, ql.length, c2) pl ql 22 HS1.out HR2.out) HFL.out.1 HFL.out.2).mono ?_); rintro e w3 ⟨⟨v3, rfl, hO3⟩, hB3⟩; have HB3 := Lib.hid (HB2.out.trans ((below_allocd hB3).mono HB2.out.size)); obtain ⟨k0, k1, k2⟩ := HLD.out _ HB3.out; rw [HFT.out] at hO3; have HO3 := Lib.hid (hO3.lower (Nat.le_trans HB2.out.size (by simp))); clear hO3 hB3)))
    all_goals go_wp2_with (at_builtin; (refine wp_append (E := eU8) _ rfl (.tmp 18) (.tmp 32) 22 5 _ 1 rfl Tryd.underlying22 infoU8 rfl (by decide) _ _ (pl ++ ql) [Addr.byteOf (n / 16777216), Addr.byteOf (n / 65536), Addr.byteOf (n / 256), Addr.byteOf n, 0, 0, 0, Addr.byteOf proto] rfl rfl (HO3.out.alloc _) (Mem.Own.lit w3 0 eU8 5 [Addr.byteOf (n / 16777216), Addr.byteOf (n / 65536), Addr.byteOf (n / 256), Addr.byteOf n, 0, 0, 0, Addr.byteOf proto] 8 rfl #[.int .u8 ((Addr.byteOf (n / 16777216)).toNat : Int), .int .u8 ((Addr.byteOf (n / 65536)).toNat : Int), .int .u8 ((Addr.byteOf (n / 256)).toNat : Int), .int .u8 ((Addr.byteOf n).toNat : Int), .int .u8 0, .int .u8 0, .int .u8 0, .int .u8 ((Addr.byteOf proto).toNat : Int)] rfl (Nat.zero_le _) (by simp)).row (Nat.le_trans HB3.out.size (by simp)) (by have := HLL.out; simp at this ⊢; omega) ?_; intro v4 w4 ho4 hg4 hat4))
    all_goals go_ret
    all_goals exact ⟨⟨_, rfl, ho4.lower (by simp; omega)⟩, below_allocd (below_allocd (below_app (HB3.out.alloc HB3.out.size _) (Nat.le_trans HB3.out.size (by simp)) (HO3.out.alloc _) hg4))⟩
end Go.Proofs.YtfoehgcamkmooaaDoor.Pseudo
