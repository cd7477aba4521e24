/- The document's Pseudo. -/
import Derived.Test.YtfoehgcamkmooaaDoorPseudo
namespace Go.Proofs.YtfoehgcamkmooaaDoor.Pseudo
open Go.RowKit Go.Proofs.YtfoehgcamkmooaaDoor.Mem Go.Proofs.YtfoehgcamkmooaaDoor.Num Go.Proofs.YtfoehgcamkmooaaDoor.Clone Go.Proofs.YtfoehgcamkmooaaDoor.Addr Go.Proofs.YtfoehgcamkmooaaDoor.Concat
set_option linter.unusedVariables false
set_option linter.unusedSimpArgs false
set_option maxRecDepth 100000
attribute [-go_sem] Builtin.append_ loadCells loadCellsFrom
theorem refbytes_calls (six : Bool) (b : List UInt8) (hb : b.length = 16) (w : World) : Calls Tryd.prog 45 #[adV six b] w fun e w' => (∃ v, e = .returned v ∧ Row eU8 w' v (b.take (adLen six))) ∧ Below w.heap.size w w' := by
  have hle := adLen_le six
  have hrow := box_row w (w.alloc (.cells (adA six b) 27)) six b 27 (adLen six) (by rw [hb]; exact hle) hb (Below.refl _ _)
  have hc := adA_six six b
  generalize b.take (adLen six) = L at hrow ⊢
  clear hb
  cases six
  all_goals
    simp only [adLen, Bool.false_eq_true, if_false, if_true] at hrow
    have HR := Lib.hid hrow
    clear hrow
    go_enter Tryd.func45, Tryd.ntmps45
    go_wp2
    go_ret
    exact ⟨⟨_, rfl, HR.out⟩, by go_grown⟩
set_option maxHeartbeats 8000000 in
theorem refpseudo_calls (s1 : Bool) (b1 : List UInt8) (h1 : b1.length = 16) (s2 : Bool) (b2 : List UInt8) (h2 : b2.length = 16) (proto n : Int) (w : World) :
    Calls Tryd.prog 36 #[adV s1 b1, adV s2 b2, .int .i64 proto, .int .i64 n] w fun e w' => (∃ v, e = .returned v ∧ Mem.Own eU8 5 w.heap.size w' v (b1.take (adLen s1) ++ b2.take (adLen s2) ++ tailL s1 proto n)) ∧ Below w.heap.size w w' := by
  have hp := fun W => refbytes_calls s1 b1 h1 W
  have hq := fun W => refbytes_calls s2 b2 h2 W
  have hlp : (w.alloc (.cells (adA s1 b1) 27)).heap.size = w.heap.size + 1 := by simp
  have HPl : ∀ w1, Below ((w.alloc (.cells (adA s1 b1) 27)).alloc (.cells (adA s2 b2) 27)).heap.size ((w.alloc (.cells (adA s1 b1) 27)).alloc (.cells (adA s2 b2) 27)) w1 → (loadCells ⟨w.heap.size, 0, none⟩ 17).run Tryd.prog w1 = .ok (adA s1 b1) w1 ∧ w1.cell? ⟨w.heap.size, 0, none⟩ = some (.bool s1) ∧ (loadCells ⟨w.heap.size + 1, 0, none⟩ 17).run Tryd.prog w1 = .ok (adA s2 b2) w1 := by
    intro w1 hB
    obtain ⟨a1, a2⟩ := ad_loads s1 b1 h1 w w1 27 (below_allocd hB)
    refine ⟨a1, a2, ?_⟩
    have := (ad_loads s2 b2 h2 _ w1 27 hB).1
    rwa [hlp] at this
  have hl1 : (b1.take (adLen s1)).length = adLen s1 := by have := adLen_le s1; rw [List.length_take]; omega
  have hl2 : (b2.take (adLen s2)).length = adLen s2 := by have := adLen_le s2; rw [List.length_take]; omega
  have hg1 : adLen s1 ≤ 16 := adLen_le s1
  have hg2 : adLen s2 ≤ 16 := adLen_le s2
  simp only [adV] at hp hq ⊢
  generalize b1.take (adLen s1) = pl at hp hl1 ⊢
  generalize b2.take (adLen s2) = ql at hq hl2 ⊢
  generalize adA s1 b1 = pa at hp HPl hlp ⊢
  generalize adA s2 b2 = qa at hq HPl ⊢
  have HLP := Lib.hid (show pl.length ≤ 16 by omega)
  have HLQ := Lib.hid (show ql.length ≤ 16 by omega)
  have e0 : (IntKind.u64.wrap n).tmod 4294967296 = n % 4294967296 := by rw [Int.tmod_eq_emod_of_nonneg (by rw [IntKind.wrap_u64]; omega), IntKind.wrap_u64]; omega
  have f0' : (IntKind.u64.wrap proto).tmod 256 = proto % 256 := by rw [Int.tmod_eq_emod_of_nonneg (by rw [IntKind.wrap_u64]; omega), IntKind.wrap_u64]; omega
  have e1 : IntKind.u8.wrap (n % 4294967296 / 16777216) = ((Addr.byteOf (n / 16777216)).toNat : Int) := by rw [IntKind.wrap_u8, Addr.byteOf_int]; omega
  have e2 : IntKind.u8.wrap (n % 4294967296 / 65536 % 256) = ((Addr.byteOf (n / 65536)).toNat : Int) := by rw [IntKind.wrap_u8, Addr.byteOf_int]; omega
  have e3 : IntKind.u8.wrap (n % 4294967296 / 256 % 256) = ((Addr.byteOf (n / 256)).toNat : Int) := by rw [IntKind.wrap_u8, Addr.byteOf_int]; omega
  have e4 : IntKind.u8.wrap (n % 4294967296 % 256) = ((Addr.byteOf n).toNat : Int) := by rw [IntKind.wrap_u8, Addr.byteOf_int]; omega
  have e5 : IntKind.u8.wrap (proto % 256) = ((Addr.byteOf proto).toNat : Int) := by rw [IntKind.wrap_u8, Addr.byteOf_int]; omega
  have q0 := Int.emod_nonneg n (show (4294967296 : Int) ≠ 0 by omega)
  have q1 := Int.emod_lt_of_pos n (show (0 : Int) < 4294967296 by omega)
  unfold tailL
  generalize Addr.byteOf (n / 16777216) = B3 at e1 ⊢
  generalize Addr.byteOf (n / 65536) = B2 at e2 ⊢
  generalize Addr.byteOf (n / 256) = B1 at e3 ⊢
  generalize Addr.byteOf n = B0 at e4 ⊢
  generalize Addr.byteOf proto = BP at e5 ⊢
  generalize n % 4294967296 = q at e0 e1 e2 e3 e4 q0 q1
  generalize proto % 256 = pm at f0' e5
  have HP := Lib.hid hp
  have HQ := Lib.hid hq
  have HLD := Lib.hid HPl
  clear hp hq HPl hl1 hl2 hg1 hg2
  obtain ⟨d0, d1, d2⟩ := HLD.out _ ((Below.refl _ _).alloc (Nat.le_refl _) (.cells #[] 5))
  cases s1
  · simp only [Bool.false_eq_true, if_false]
    go_enter Tryd.func36, Tryd.ntmps36
    have hmx : Tryd.prog.follows .mixedOrders = true := by kernel_rfl
    obtain ⟨f0, f1, f2⟩ := HLD.out _ (Below.refl _ _).drew
    obtain ⟨g0, g1, g2⟩ := HLD.out _ ((Below.refl _ _).alloc (Nat.le_refl _) (.cells #[] 5)).drew
    go_wp2
    go_region_law (first
      | (refine step_append (E := eU8) ((w.alloc (.cells pa 27)).alloc (.cells qa 27)).heap.size rfl (.tmp 15) (.tmp 17) 22 5 _ 1 rfl Tryd.underlying22 infoU8 rfl (by decide) _ _ pl ql rfl rfl HO3.out HR3.out HB3.out.size (by have := HLP.out; have := HLQ.out; omega) ?_; intro v4 w4 ho4 hg4 hat4; have HO4 := Lib.hid ho4; have HB4 := Lib.hid (below_app HB3.out HB3.out.size HO3.out hg4); obtain ⟨q0, q1, q2⟩ := HLD.out _ HB4.out; clear ho4 hg4)
      | (refine step_append (E := eU8) ((w.alloc (.cells pa 27)).alloc (.cells qa 27)).heap.size rfl (.tmp 12) (.tmp 14) 22 5 _ 1 rfl Tryd.underlying22 infoU8 rfl (by decide) _ _ [] pl rfl rfl HLit.out HR1.out HB1.out.size (by have := HLP.out; simp; omega) ?_; intro v2 w2 ho2 hg2 hat2; rw [List.nil_append] at ho2; have HO2 := Lib.hid ho2; have HB2 := Lib.hid (below_app HB1.out HB1.out.size HLit.out hg2); obtain ⟨k0, k1, k2⟩ := HLD.out _ HB2.out; clear ho2 hg2)
      | (refine step_append (E := eU8) ((w.alloc (.cells pa 27)).alloc (.cells qa 27)).heap.size rfl (.tmp 12) (.tmp 14) 22 5 _ 1 rfl Tryd.underlying22 infoU8 rfl (by decide) _ _ [] pl rfl rfl (Own.lit' w1 w1.heap.size rfl ((w.alloc (.cells pa 27)).alloc (.cells qa 27)).heap.size eU8 5 [] 0 rfl #[] rfl HB1.out.size (by simp)) (HR1.out.alloc _) (Nat.le_trans HB1.out.size (by simp)) (by have := HLP.out; simp; omega) ?_; intro v2 w2 ho2 hg2 hat2; rw [List.nil_append] at ho2; have HO2 := Lib.hid ho2; have HB2 := Lib.hid (below_app (HB1.out.alloc HB1.out.size _) (Nat.le_trans HB1.out.size (by simp)) (Own.lit' w1 w1.heap.size rfl ((w.alloc (.cells pa 27)).alloc (.cells qa 27)).heap.size eU8 5 [] 0 rfl #[] rfl HB1.out.size (by simp)) hg2); obtain ⟨k0, k1, k2⟩ := HLD.out _ HB2.out; clear ho2 hg2)
      | (go_simp; go_at_call 45; ((with_reducible refine (HQ.out _).mono ?_); rintro e w3 ⟨⟨v3, rfl, hr3⟩, hB3⟩; have HO3 := Lib.hid (HO2.out.below hB3); have HB3 := Lib.hid (HB2.out.trans (hB3.mono HB2.out.size)); have HR3 := Lib.hid hr3; clear hr3 hB3))
      | (go_simp; go_at_call 45; ((with_reducible refine (HP.out _).mono ?_); rintro e w1 ⟨⟨v1, rfl, hr1⟩, hB1⟩; have hBW1 := below_dr hB1; obtain ⟨m0, m1, m2⟩ := HLD.out _ hBW1; obtain ⟨n0, n1, n2⟩ := HLD.out _ (hBW1.alloc hBW1.size (.cells #[] 5)); have HR1 := Lib.hid hr1; have HB1 := Lib.hid hBW1; clear hr1 hB1 hBW1))
      | (go_simp; go_at_call 45; ((with_reducible refine (HP.out _).mono ?_); rintro e w1 ⟨⟨v1, rfl, hr1⟩, hB1⟩; have hBW1 := below_lit hB1; obtain ⟨m0, m1, m2⟩ := HLD.out _ hBW1; have HR1 := Lib.hid hr1; have HLit := Lib.hid ((Own.drewN (Own.lit' ((w.alloc (.cells pa 27)).alloc (.cells qa 27)) (w.heap.size + 1 + 1) (by simp) ((w.alloc (.cells pa 27)).alloc (.cells qa 27)).heap.size eU8 5 [] 0 rfl #[] rfl (Nat.le_refl _) (by simp)) 1).below hB1); have HB1 := Lib.hid hBW1; clear hr1 hB1 hBW1)))
    all_goals go_wp2_with (at_builtin; (refine wp_append (E := eU8) _ rfl (.tmp 46) (.tmp 55) 22 5 _ 1 rfl Tryd.underlying22 infoU8 rfl (by decide) _ _ (pl ++ ql) [0, BP, B1, B0] rfl rfl (HO4.out.alloc _) (Mem.Own.lit w4 0 eU8 5 [0, BP, B1, B0] 4 rfl #[.int .u8 0, .int .u8 (BP.toNat : Int), .int .u8 (B1.toNat : Int), .int .u8 (B0.toNat : Int)] rfl (Nat.zero_le _) (by simp)).row (Nat.le_trans HB4.out.size (by simp)) (by have := HLP.out; have := HLQ.out; simp; omega) ?_; intro v5 w5 ho5 hg5 hat5))
    all_goals go_ret
    all_goals exact ⟨⟨_, rfl, ho5.lower (by simp; omega)⟩, below_allocd (below_allocd (below_app (HB4.out.alloc HB4.out.size _) (Nat.le_trans HB4.out.size (by simp)) (HO4.out.alloc _) hg5))⟩
  · simp only [if_true]
    go_enter Tryd.func36, Tryd.ntmps36
    have hmx : Tryd.prog.follows .mixedOrders = true := by kernel_rfl
    obtain ⟨f0, f1, f2⟩ := HLD.out _ (Below.refl _ _).drew
    obtain ⟨g0, g1, g2⟩ := HLD.out _ ((Below.refl _ _).alloc (Nat.le_refl _) (.cells #[] 5)).drew
    go_wp2
    go_region_law (first
      | (refine step_append (E := eU8) ((w.alloc (.cells pa 27)).alloc (.cells qa 27)).heap.size rfl (.tmp 15) (.tmp 17) 22 5 _ 1 rfl Tryd.underlying22 infoU8 rfl (by decide) _ _ pl ql rfl rfl HO3.out HR3.out HB3.out.size (by have := HLP.out; have := HLQ.out; omega) ?_; intro v4 w4 ho4 hg4 hat4; have HO4 := Lib.hid ho4; have HB4 := Lib.hid (below_app HB3.out HB3.out.size HO3.out hg4); obtain ⟨q0, q1, q2⟩ := HLD.out _ HB4.out; clear ho4 hg4)
      | (refine step_append (E := eU8) ((w.alloc (.cells pa 27)).alloc (.cells qa 27)).heap.size rfl (.tmp 12) (.tmp 14) 22 5 _ 1 rfl Tryd.underlying22 infoU8 rfl (by decide) _ _ [] pl rfl rfl HLit.out HR1.out HB1.out.size (by have := HLP.out; simp; omega) ?_; intro v2 w2 ho2 hg2 hat2; rw [List.nil_append] at ho2; have HO2 := Lib.hid ho2; have HB2 := Lib.hid (below_app HB1.out HB1.out.size HLit.out hg2); obtain ⟨k0, k1, k2⟩ := HLD.out _ HB2.out; clear ho2 hg2)
      | (refine step_append (E := eU8) ((w.alloc (.cells pa 27)).alloc (.cells qa 27)).heap.size rfl (.tmp 12) (.tmp 14) 22 5 _ 1 rfl Tryd.underlying22 infoU8 rfl (by decide) _ _ [] pl rfl rfl (Own.lit' w1 w1.heap.size rfl ((w.alloc (.cells pa 27)).alloc (.cells qa 27)).heap.size eU8 5 [] 0 rfl #[] rfl HB1.out.size (by simp)) (HR1.out.alloc _) (Nat.le_trans HB1.out.size (by simp)) (by have := HLP.out; simp; omega) ?_; intro v2 w2 ho2 hg2 hat2; rw [List.nil_append] at ho2; have HO2 := Lib.hid ho2; have HB2 := Lib.hid (below_app (HB1.out.alloc HB1.out.size _) (Nat.le_trans HB1.out.size (by simp)) (Own.lit' w1 w1.heap.size rfl ((w.alloc (.cells pa 27)).alloc (.cells qa 27)).heap.size eU8 5 [] 0 rfl #[] rfl HB1.out.size (by simp)) hg2); obtain ⟨k0, k1, k2⟩ := HLD.out _ HB2.out; clear ho2 hg2)
      | (go_simp; go_at_call 45; ((with_reducible refine (HQ.out _).mono ?_); rintro e w3 ⟨⟨v3, rfl, hr3⟩, hB3⟩; have HO3 := Lib.hid (HO2.out.below hB3); have HB3 := Lib.hid (HB2.out.trans (hB3.mono HB2.out.size)); have HR3 := Lib.hid hr3; clear hr3 hB3))
      | (go_simp; go_at_call 45; ((with_reducible refine (HP.out _).mono ?_); rintro e w1 ⟨⟨v1, rfl, hr1⟩, hB1⟩; have hBW1 := below_dr hB1; obtain ⟨m0, m1, m2⟩ := HLD.out _ hBW1; obtain ⟨n0, n1, n2⟩ := HLD.out _ (hBW1.alloc hBW1.size (.cells #[] 5)); have HR1 := Lib.hid hr1; have HB1 := Lib.hid hBW1; clear hr1 hB1 hBW1))
      | (go_simp; go_at_call 45; ((with_reducible refine (HP.out _).mono ?_); rintro e w1 ⟨⟨v1, rfl, hr1⟩, hB1⟩; have hBW1 := below_lit hB1; obtain ⟨m0, m1, m2⟩ := HLD.out _ hBW1; have HR1 := Lib.hid hr1; have HLit := Lib.hid ((Own.drewN (Own.lit' ((w.alloc (.cells pa 27)).alloc (.cells qa 27)) (w.heap.size + 1 + 1) (by simp) ((w.alloc (.cells pa 27)).alloc (.cells qa 27)).heap.size eU8 5 [] 0 rfl #[] rfl (Nat.le_refl _) (by simp)) 1).below hB1); have HB1 := Lib.hid hBW1; clear hr1 hB1 hBW1)))
    all_goals go_wp2_with (at_builtin; (refine wp_append (E := eU8) _ rfl (.tmp 28) (.tmp 44) 22 5 _ 1 rfl Tryd.underlying22 infoU8 rfl (by decide) _ _ (pl ++ ql) [B3, B2, B1, B0, 0, 0, 0, BP] rfl rfl (HO4.out.alloc _) (Mem.Own.lit w4 0 eU8 5 [B3, B2, B1, B0, 0, 0, 0, BP] 8 rfl #[.int .u8 (B3.toNat : Int), .int .u8 (B2.toNat : Int), .int .u8 (B1.toNat : Int), .int .u8 (B0.toNat : Int), .int .u8 0, .int .u8 0, .int .u8 0, .int .u8 (BP.toNat : Int)] rfl (Nat.zero_le _) (by simp)).row (Nat.le_trans HB4.out.size (by simp)) (by have := HLP.out; have := HLQ.out; simp; omega) ?_; intro v5 w5 ho5 hg5 hat5))
    all_goals go_ret
    all_goals exact ⟨⟨_, rfl, ho5.lower (by simp; omega)⟩, below_allocd (below_allocd (below_app (HB4.out.alloc HB4.out.size _) (Nat.le_trans HB4.out.size (by simp)) (HO4.out.alloc _) hg5))⟩
end Go.Proofs.YtfoehgcamkmooaaDoor.Pseudo
