/- linkboyref03.Cut. -/
import Derived.Test.YtmcgkknpkocgoaaGreatDoorPc2
namespace Go.Proofs.YtmcgkknpkocgoaaGreatDoor.Ad
open Go.RowKit Go.Proofs.YtmcgkknpkocgoaaGreatDoor.Mem Go.Proofs.YtmcgkknpkocgoaaGreatDoor.Num Go.Proofs.YtmcgkknpkocgoaaGreatDoor.Err Go.Proofs.YtmcgkknpkocgoaaGreatDoor.AdP
open Go.Proofs.YtmcgkknpkocgoaaGreatDoor.Head (pad pad_len adCells_one adCells_len infoAd splice_ad)
open Go.Proofs.YtmcgkknpkocgoaaGreatDoor.Addr (adV adA adCells adA_size cell_box load_box cell_six ptA ptV pt_loads)
set_option linter.unusedVariables false
set_option linter.unusedSimpArgs false
set_option maxRecDepth 100000
attribute [-go_sem] Builtin.append_ loadCells loadCellsFrom storeCells run_eql_struct
theorem set_byte (six : Bool) (b : List UInt8) (k : Nat) (y : UInt8) : (adCells six b).set (1 + k) (.int .u8 (y.toNat : Int)) = adCells six (b.set k y) := by
  unfold adCells
  rw [Nat.add_comm 1 k, List.set_cons_succ, List.map_set]
theorem cell_at (six : Bool) (b : List UInt8) (k : Nat) (hk : k < b.length) : (adCells six b)[1 + k]? = some (.int .u8 ((b.getD k 0).toNat : Int)) := by
  unfold adCells
  rw [Nat.add_comm 1 k, List.getElem?_cons_succ, List.getElem?_map, List.getElem?_eq_getElem hk, List.getD_eq_getElem?_getD, List.getElem?_eq_getElem hk]
  rfl
set_option maxHeartbeats 8000000 in
theorem rcut_calls (six : Bool) (b : List UInt8) (hb : b.length = 16) (n : Nat) (hn : n ≤ 128) (w : World) :
    Calls Tryz.prog 70 #[adV six b, .int .i64 (n : Int)] w fun e w' => e = .returned (adV six (cutL b n)) ∧ Below w.heap.size w w' := by
  have KB : Hid (∀ (i : Nat), i < 128 → ∀ W, Calls Tryz.prog 112 #[.agg (adA six b), .int .i64 (i : Int)] W fun e w' => e = .returned (.int .i64 (bitA b i : Int)) ∧ Below W.heap.size W w') := Lib.hid (fun i hi W => bit_calls six b hb i hi W)
  have HLD := Lib.hid (fun W h => load_ad six b hb w W h)
  have H6 := Lib.hid (fun W h => cell_six w W six b 24 h)
  have hsz := adA_size six b hb
  have HL := Lib.hid hb
  obtain ⟨W0, hW0⟩ : ∃ W0, W0 = (w.alloc (.cells (adA six b) 24)).alloc (.cells zeroCs.toArray 24) := ⟨_, rfl⟩
  have hB0 : Below w.heap.size w W0 := by rw [hW0]; exact ((Below.refl _ _).alloc (Nat.le_refl _) _).alloc (by simp) _
  have hA0 : Below (w.alloc (.cells (adA six b) 24)).heap.size (w.alloc (.cells (adA six b) 24)) W0 := by rw [hW0]; exact (Below.refl _ _).alloc (Nat.le_refl _) _
  have hs0 : W0.heap.size = w.heap.size + 1 + 1 := by rw [hW0]; simp
  have hK0 : Blk (w.heap.size + 1) (adCells false zero16) 24 W0 := by rw [hW0]; exact Blk.new _ (adCells false zero16) _ _ _ rfl (by simp)
  have c6 := H6.out _ hA0
  have HS0 := Lib.hid hs0
  have HB0 := Lib.hid hB0
  have HA0 := Lib.hid hA0
  have HK0 := Lib.hid hK0
  have HW0 := Lib.hid hW0
  have HW1 : Hid ((w.alloc (.cells (adA six b) 24)).heap.size ≤ w.heap.size + 1 + 1) := Lib.hid (by simp)
  clear hB0 hA0 hK0 hW0
  obtain ⟨N, hN⟩ : ∃ N : Int, N = (n : Int) := ⟨_, rfl⟩
  rw [← hN]
  have HN := Lib.hid hN
  have hN0 : 0 ≤ N := by omega
  have hN128 : N ≤ 128 := by omega
  clear hN
  show Calls Tryz.prog 70 #[.agg (adA six b), .int .i64 N] w fun e w' => e = .returned (adV six (cutL b n)) ∧ Below w.heap.size w w'
  generalize adA six b = ca at *
  go_enter Tryz.func70, Tryz.ntmps70
  go_upto_region 1 with (fail)
  rw [← HW0.out]
  go_wp2_with (refine wp_store_blk rfl 24 (.tmp 5) (.tmp 9) rfl (w.heap.size + 1 + 1) 0 (adCells false zero16) (adCells six zero16) 24 _ (by (first | rfl | (rw [← HS0.out]; rfl) | (simp [HS0.out]))) rfl (by rfl) (Blk.new _ _ _ _ _ rfl (by (first | exact HS0.out | (rw [HS0.out])))) (Nat.le_refl 17) infoAd (adCells_one _ _) (Nat.zero_lt_succ _) ?_; intro w1 hk1 ha1; have HK1 : Hid (Blk (w.heap.size + 1 + 1) (adCells six (cutL b 0)) 24 w1) := Lib.hid (by rw [splice_all (adCells false zero16) (adCells six zero16) rfl] at hk1; have e : cutL b 0 = zero16 := (by rw [cutL_zero, HL.out]; rfl); rw [e]; exact hk1); have HBW : Hid (Below (w.heap.size + 1 + 1) W0 w1) := Lib.hid (below_alt (by have := below_own_alloc W0 (.cells zeroCs.toArray 24); rw [HS0.out] at this; exact this) ha1 (by rw [World.size_alloc, HS0.out]; omega) (fun k hk => by omega)); clear hk1 ha1)
  have HZ1 := Lib.hid (show Blk (w.heap.size + 1) (adCells false zero16) 24 w1 from (HBW.out.block _ (by omega)).trans HK0.out)
  have HA1 := Lib.hid (HA0.out.trans (HBW.out.mono (by simp)))
  have HB1 := Lib.hid (HB0.out.trans (HBW.out.mono (by omega)))
  clear c6
  go_loopw [6] (fun iv wr => ∃ (i : Nat) (I : Int), iv = .int .i64 I ∧ Hid (I = (i : Int)) ∧ Hid (i ≤ n) ∧ Hid (Blk (w.heap.size + 1 + 1) (adCells six (cutL b i)) 24 wr) ∧ Hid (Blk (w.heap.size + 1) (adCells false zero16) 24 wr) ∧ Hid (Below (w.alloc (.cells ca 24)).heap.size (w.alloc (.cells ca 24)) wr) ∧ Hid (Below w.heap.size w wr)) (fun iv _ => n - (intOf iv).toNat)
  case atStart => exact ⟨0, 0, rfl, Lib.hid rfl, Lib.hid (Nat.zero_le _), HK1, HZ1, HA1, HB1⟩
  case round =>
    obtain ⟨i, I, rfl, HI, HLE, HK, HZ, HA, HB⟩ := hrel
    clear HK1 HZ1 HA1 HB1
    have h0 : (0 : Int) ≤ I := by have := HI.out; omega
    by_cases hlt : I < N
    · have hin : i < n := by have := HI.out; have := HN.out; omega
      have h1 : I < 128 := by omega
      have KB1 := Lib.hid (KB.out i (by omega))
      have hie := HI.out
      rw [← hie] at KB1
      have hq : I.tdiv 8 = ((i / 8 : Nat) : Int) := by rw [Int.tdiv_eq_ediv_of_nonneg (by omega), hie]; rfl
      have hq2 : I / 8 = ((i / 8 : Nat) : Int) := by rw [hie]; rfl
      have hr : I.tmod 8 = ((i % 8 : Nat) : Int) := by rw [Int.tmod_eq_emod_of_nonneg (by omega), hie]; rfl
      have hr2 : I % 8 = ((i % 8 : Nat) : Int) := by rw [hie]; rfl
      have hj : i % 8 < 8 := Nat.mod_lt _ (by decide)
      have hk : i / 8 < 16 := by omega
      have hki : ((i / 8 : Nat) : Int) < 16 := by omega
      have hk0 : (0 : Int) ≤ ((i / 8 : Nat) : Int) := by omega
      have hwk : IntKind.i64.wrap ((i / 8 : Nat) : Int) = ((i / 8 : Nat) : Int) := by rw [IntKind.wrap_i64]; omega
      have HI2 := Lib.hid (show I + 1 = ((i + 1 : Nat) : Int) by omega)
      have HL2 : Hid (i + 1 ≤ n) := Lib.hid (by omega)
      have HM := Lib.hid (show n - (I + 1).toNat < n - I.toNat by have := HN.out; omega)
      have hcl : (cutL b i).length = 16 := by rw [cutL_len]; exact HL.out
      have hce := cell_at six (cutL b i) (i / 8) (by omega)
      have HLT : Hid (1 + i / 8 < (adCells six (cutL b i)).length) := Lib.hid (by rw [adCells_len _ _ hcl]; omega)
      have hsucc := cutL_succ b i (by have := HL.out; omega)
      have HS := Lib.hid (show (adCells six (cutL b i)).set (1 + i / 8) (.int .u8 (((cutL b i).getD (i / 8) 0 + UInt8.ofNat (bitA b i * 2 ^ (7 - i % 8))).toNat : Int)) = adCells six (cutL b (i + 1)) by rw [set_byte, ← hsucc])
      have hbl := bitB_le (b.getD (i / 8) 0) (i % 8)
      change bitA b i < 2 at hbl
      obtain ⟨Y, hY⟩ : ∃ Y : Int, Y = (((cutL b i).getD (i / 8) 0 + UInt8.ofNat (bitA b i * 2 ^ (7 - i % 8))).toNat : Int) := ⟨_, rfl⟩
      obtain ⟨X, hX⟩ : ∃ X : Int, X = (((cutL b i).getD (i / 8) 0).toNat : Int) := ⟨_, rfl⟩
      obtain ⟨G, hG⟩ : ∃ G : Int, G = (bitA b i : Int) := ⟨_, rfl⟩
      rw [← hY] at HS
      rw [← hX] at hce
      rw [← hG] at KB1
      have hX0 : 0 ≤ X := by omega
      have hX1 : X < 256 := by have := ((cutL b i).getD (i / 8) 0).toNat_lt; omega
      have hG0 : 0 ≤ G := by omega
      have hG1 : G < 2 := by omega
      have hY0 : 0 ≤ Y := by omega
      have hY1 : Y < 256 := by have := ((cutL b i).getD (i / 8) 0 + UInt8.ofNat (bitA b i * 2 ^ (7 - i % 8))).toNat_lt; omega
      have HY := Lib.hid hY
      have HX := Lib.hid hX
      have HG := Lib.hid hG
      have HCE := Lib.hid hce
      have HK1 := Lib.hid (HK.out.drewN 1)
      have HZ1 := Lib.hid (HZ.out.drewN 1)
      have HA1 := Lib.hid (below_drewN HA.out 1)
      have HB1 := Lib.hid (below_drewN HB.out 1)
      have hc1 := HK1.out.cell (1 + i / 8) _ hce
      have hf1 := HK1.out.free (1 + i / 8)
      have hl1 := HLD.out _ HA1.out
      change wr.drew.cell? ⟨w.heap.size + 1 + 1, 1 + i / 8, none⟩ = some (.int .u8 X) at hc1
      change wr.drew.frozen? ⟨w.heap.size + 1 + 1, 1 + i / 8, none⟩ = false at hf1
      change (loadCells ⟨w.heap.size, 0, none⟩ 17).run Tryz.prog wr.drew = .ok ca wr.drew at hl1
      change Hid (Blk (w.heap.size + 1 + 1) (adCells six (cutL b i)) 24 wr.drew) at HK1
      change Hid (Blk (w.heap.size + 1) (adCells false zero16) 24 wr.drew) at HZ1
      change Hid (Below (w.alloc (.cells ca 24)).heap.size (w.alloc (.cells ca 24)) wr.drew) at HA1
      change Hid (Below w.heap.size w wr.drew) at HB1
      clear hY hX hG hce hsucc hbl hcl hin hie hk
      generalize i / 8 = k at *
      rcases (show i % 8 = 0 ∨ i % 8 = 1 ∨ i % 8 = 2 ∨ i % 8 = 3 ∨ i % 8 = 4 ∨ i % 8 = 5 ∨ i % 8 = 6 ∨ i % 8 = 7 by omega) with hjj | hjj | hjj | hjj | hjj | hjj | hjj | hjj
      all_goals rw [hjj] at hr hr2 HY
      all_goals clear hjj hj
      · have hw1 : IntKind.u8.wrap (G * 128) = G * 128 := by rw [IntKind.wrap_u8]; omega
        have hw0 : IntKind.i64.wrap (G * 128) = G * 128 := by rw [IntKind.wrap_i64]; omega
        have hw2 : IntKind.u8.wrap (X + G * 128) = Y := by
          have h := HY.out
          rw [h, HX.out, HG.out, IntKind.wrap_u8, UInt8.toNat_add, UInt8.toNat_ofNat', show (7 - 0 : Nat) = 7 from rfl]
          omega
        have hwr : IntKind.i64.wrap 0 = 0 := by decide
        have hws : IntKind.i64.wrap 7 = 7 := by decide
        clear HY
        go_upto_region 5 with (fail)
        go_region_with (go_at_call 112; ((with_reducible refine (KB1.out _).mono ?_); rintro e w2 ⟨rfl, hb2⟩; have HK2 := Lib.hid (HK1.out.below hb2); have HZ2 := Lib.hid (HZ1.out.below hb2); have HA2 := Lib.hid (HA1.out.trans (hb2.mono HA1.out.size)); have HB2 := Lib.hid (HB1.out.trans (hb2.mono HB1.out.size)); have hc2 := HK2.out.cell (1 + k) _ HCE.out; have hf2 := HK2.out.free (1 + k); have hso := store_one (P := Tryz.prog) HK2.out (1 + k) HLT.out (.int .u8 Y) rfl; clear hb2))
        all_goals go_wp2
        all_goals go_roundw
        all_goals first
          | exact ⟨i + 1, I + 1, by (first | rfl | go_num), HI2, HL2, Lib.hid (by have := blk_set1 HK2.out (1 + k) (.int .u8 Y); rw [HS.out] at this; exact this), Lib.hid (blk_setOther HZ2.out (by simp)), Lib.hid (HA2.out.setCell (p := ⟨w.heap.size + 1 + 1, 1 + k, none⟩) HW1.out _), Lib.hid (HB2.out.setCell (p := ⟨w.heap.size + 1 + 1, 1 + k, none⟩) (by show w.heap.size ≤ w.heap.size + 1 + 1; omega) _)⟩
          | exact HM.out
      · have hw1 : IntKind.u8.wrap (G * 64) = G * 64 := by rw [IntKind.wrap_u8]; omega
        have hw0 : IntKind.i64.wrap (G * 64) = G * 64 := by rw [IntKind.wrap_i64]; omega
        have hw2 : IntKind.u8.wrap (X + G * 64) = Y := by
          have h := HY.out
          rw [h, HX.out, HG.out, IntKind.wrap_u8, UInt8.toNat_add, UInt8.toNat_ofNat', show (7 - 1 : Nat) = 6 from rfl]
          omega
        have hwr : IntKind.i64.wrap 1 = 1 := by decide
        have hws : IntKind.i64.wrap 6 = 6 := by decide
        clear HY
        go_upto_region 5 with (fail)
        go_region_with (go_at_call 112; ((with_reducible refine (KB1.out _).mono ?_); rintro e w2 ⟨rfl, hb2⟩; have HK2 := Lib.hid (HK1.out.below hb2); have HZ2 := Lib.hid (HZ1.out.below hb2); have HA2 := Lib.hid (HA1.out.trans (hb2.mono HA1.out.size)); have HB2 := Lib.hid (HB1.out.trans (hb2.mono HB1.out.size)); have hc2 := HK2.out.cell (1 + k) _ HCE.out; have hf2 := HK2.out.free (1 + k); have hso := store_one (P := Tryz.prog) HK2.out (1 + k) HLT.out (.int .u8 Y) rfl; clear hb2))
        all_goals go_wp2
        all_goals go_roundw
        all_goals first
          | exact ⟨i + 1, I + 1, by (first | rfl | go_num), HI2, HL2, Lib.hid (by have := blk_set1 HK2.out (1 + k) (.int .u8 Y); rw [HS.out] at this; exact this), Lib.hid (blk_setOther HZ2.out (by simp)), Lib.hid (HA2.out.setCell (p := ⟨w.heap.size + 1 + 1, 1 + k, none⟩) HW1.out _), Lib.hid (HB2.out.setCell (p := ⟨w.heap.size + 1 + 1, 1 + k, none⟩) (by show w.heap.size ≤ w.heap.size + 1 + 1; omega) _)⟩
          | exact HM.out
      · have hw1 : IntKind.u8.wrap (G * 32) = G * 32 := by rw [IntKind.wrap_u8]; omega
        have hw0 : IntKind.i64.wrap (G * 32) = G * 32 := by rw [IntKind.wrap_i64]; omega
        have hw2 : IntKind.u8.wrap (X + G * 32) = Y := by
          have h := HY.out
          rw [h, HX.out, HG.out, IntKind.wrap_u8, UInt8.toNat_add, UInt8.toNat_ofNat', show (7 - 2 : Nat) = 5 from rfl]
          omega
        have hwr : IntKind.i64.wrap 2 = 2 := by decide
        have hws : IntKind.i64.wrap 5 = 5 := by decide
        clear HY
        go_upto_region 5 with (fail)
        go_region_with (go_at_call 112; ((with_reducible refine (KB1.out _).mono ?_); rintro e w2 ⟨rfl, hb2⟩; have HK2 := Lib.hid (HK1.out.below hb2); have HZ2 := Lib.hid (HZ1.out.below hb2); have HA2 := Lib.hid (HA1.out.trans (hb2.mono HA1.out.size)); have HB2 := Lib.hid (HB1.out.trans (hb2.mono HB1.out.size)); have hc2 := HK2.out.cell (1 + k) _ HCE.out; have hf2 := HK2.out.free (1 + k); have hso := store_one (P := Tryz.prog) HK2.out (1 + k) HLT.out (.int .u8 Y) rfl; clear hb2))
        all_goals go_wp2
        all_goals go_roundw
        all_goals first
          | exact ⟨i + 1, I + 1, by (first | rfl | go_num), HI2, HL2, Lib.hid (by have := blk_set1 HK2.out (1 + k) (.int .u8 Y); rw [HS.out] at this; exact this), Lib.hid (blk_setOther HZ2.out (by simp)), Lib.hid (HA2.out.setCell (p := ⟨w.heap.size + 1 + 1, 1 + k, none⟩) HW1.out _), Lib.hid (HB2.out.setCell (p := ⟨w.heap.size + 1 + 1, 1 + k, none⟩) (by show w.heap.size ≤ w.heap.size + 1 + 1; omega) _)⟩
          | exact HM.out
      · have hw1 : IntKind.u8.wrap (G * 16) = G * 16 := by rw [IntKind.wrap_u8]; omega
        have hw0 : IntKind.i64.wrap (G * 16) = G * 16 := by rw [IntKind.wrap_i64]; omega
        have hw2 : IntKind.u8.wrap (X + G * 16) = Y := by
          have h := HY.out
          rw [h, HX.out, HG.out, IntKind.wrap_u8, UInt8.toNat_add, UInt8.toNat_ofNat', show (7 - 3 : Nat) = 4 from rfl]
          omega
        have hwr : IntKind.i64.wrap 3 = 3 := by decide
        have hws : IntKind.i64.wrap 4 = 4 := by decide
        clear HY
        go_upto_region 5 with (fail)
        go_region_with (go_at_call 112; ((with_reducible refine (KB1.out _).mono ?_); rintro e w2 ⟨rfl, hb2⟩; have HK2 := Lib.hid (HK1.out.below hb2); have HZ2 := Lib.hid (HZ1.out.below hb2); have HA2 := Lib.hid (HA1.out.trans (hb2.mono HA1.out.size)); have HB2 := Lib.hid (HB1.out.trans (hb2.mono HB1.out.size)); have hc2 := HK2.out.cell (1 + k) _ HCE.out; have hf2 := HK2.out.free (1 + k); have hso := store_one (P := Tryz.prog) HK2.out (1 + k) HLT.out (.int .u8 Y) rfl; clear hb2))
        all_goals go_wp2
        all_goals go_roundw
        all_goals first
          | exact ⟨i + 1, I + 1, by (first | rfl | go_num), HI2, HL2, Lib.hid (by have := blk_set1 HK2.out (1 + k) (.int .u8 Y); rw [HS.out] at this; exact this), Lib.hid (blk_setOther HZ2.out (by simp)), Lib.hid (HA2.out.setCell (p := ⟨w.heap.size + 1 + 1, 1 + k, none⟩) HW1.out _), Lib.hid (HB2.out.setCell (p := ⟨w.heap.size + 1 + 1, 1 + k, none⟩) (by show w.heap.size ≤ w.heap.size + 1 + 1; omega) _)⟩
          | exact HM.out
      · have hw1 : IntKind.u8.wrap (G * 8) = G * 8 := by rw [IntKind.wrap_u8]; omega
        have hw0 : IntKind.i64.wrap (G * 8) = G * 8 := by rw [IntKind.wrap_i64]; omega
        have hw2 : IntKind.u8.wrap (X + G * 8) = Y := by
          have h := HY.out
          rw [h, HX.out, HG.out, IntKind.wrap_u8, UInt8.toNat_add, UInt8.toNat_ofNat', show (7 - 4 : Nat) = 3 from rfl]
          omega
        have hwr : IntKind.i64.wrap 4 = 4 := by decide
        have hws : IntKind.i64.wrap 3 = 3 := by decide
        clear HY
        go_upto_region 5 with (fail)
        go_region_with (go_at_call 112; ((with_reducible refine (KB1.out _).mono ?_); rintro e w2 ⟨rfl, hb2⟩; have HK2 := Lib.hid (HK1.out.below hb2); have HZ2 := Lib.hid (HZ1.out.below hb2); have HA2 := Lib.hid (HA1.out.trans (hb2.mono HA1.out.size)); have HB2 := Lib.hid (HB1.out.trans (hb2.mono HB1.out.size)); have hc2 := HK2.out.cell (1 + k) _ HCE.out; have hf2 := HK2.out.free (1 + k); have hso := store_one (P := Tryz.prog) HK2.out (1 + k) HLT.out (.int .u8 Y) rfl; clear hb2))
        all_goals go_wp2
        all_goals go_roundw
        all_goals first
          | exact ⟨i + 1, I + 1, by (first | rfl | go_num), HI2, HL2, Lib.hid (by have := blk_set1 HK2.out (1 + k) (.int .u8 Y); rw [HS.out] at this; exact this), Lib.hid (blk_setOther HZ2.out (by simp)), Lib.hid (HA2.out.setCell (p := ⟨w.heap.size + 1 + 1, 1 + k, none⟩) HW1.out _), Lib.hid (HB2.out.setCell (p := ⟨w.heap.size + 1 + 1, 1 + k, none⟩) (by show w.heap.size ≤ w.heap.size + 1 + 1; omega) _)⟩
          | exact HM.out
      · have hw1 : IntKind.u8.wrap (G * 4) = G * 4 := by rw [IntKind.wrap_u8]; omega
        have hw0 : IntKind.i64.wrap (G * 4) = G * 4 := by rw [IntKind.wrap_i64]; omega
        have hw2 : IntKind.u8.wrap (X + G * 4) = Y := by
          have h := HY.out
          rw [h, HX.out, HG.out, IntKind.wrap_u8, UInt8.toNat_add, UInt8.toNat_ofNat', show (7 - 5 : Nat) = 2 from rfl]
          omega
        have hwr : IntKind.i64.wrap 5 = 5 := by decide
        have hws : IntKind.i64.wrap 2 = 2 := by decide
        clear HY
        go_upto_region 5 with (fail)
        go_region_with (go_at_call 112; ((with_reducible refine (KB1.out _).mono ?_); rintro e w2 ⟨rfl, hb2⟩; have HK2 := Lib.hid (HK1.out.below hb2); have HZ2 := Lib.hid (HZ1.out.below hb2); have HA2 := Lib.hid (HA1.out.trans (hb2.mono HA1.out.size)); have HB2 := Lib.hid (HB1.out.trans (hb2.mono HB1.out.size)); have hc2 := HK2.out.cell (1 + k) _ HCE.out; have hf2 := HK2.out.free (1 + k); have hso := store_one (P := Tryz.prog) HK2.out (1 + k) HLT.out (.int .u8 Y) rfl; clear hb2))
        all_goals go_wp2
        all_goals go_roundw
        all_goals first
          | exact ⟨i + 1, I + 1, by (first | rfl | go_num), HI2, HL2, Lib.hid (by have := blk_set1 HK2.out (1 + k) (.int .u8 Y); rw [HS.out] at this; exact this), Lib.hid (blk_setOther HZ2.out (by simp)), Lib.hid (HA2.out.setCell (p := ⟨w.heap.size + 1 + 1, 1 + k, none⟩) HW1.out _), Lib.hid (HB2.out.setCell (p := ⟨w.heap.size + 1 + 1, 1 + k, none⟩) (by show w.heap.size ≤ w.heap.size + 1 + 1; omega) _)⟩
          | exact HM.out
      · have hw1 : IntKind.u8.wrap (G * 2) = G * 2 := by rw [IntKind.wrap_u8]; omega
        have hw0 : IntKind.i64.wrap (G * 2) = G * 2 := by rw [IntKind.wrap_i64]; omega
        have hw2 : IntKind.u8.wrap (X + G * 2) = Y := by
          have h := HY.out
          rw [h, HX.out, HG.out, IntKind.wrap_u8, UInt8.toNat_add, UInt8.toNat_ofNat', show (7 - 6 : Nat) = 1 from rfl]
          omega
        have hwr : IntKind.i64.wrap 6 = 6 := by decide
        have hws : IntKind.i64.wrap 1 = 1 := by decide
        clear HY
        go_upto_region 5 with (fail)
        go_region_with (go_at_call 112; ((with_reducible refine (KB1.out _).mono ?_); rintro e w2 ⟨rfl, hb2⟩; have HK2 := Lib.hid (HK1.out.below hb2); have HZ2 := Lib.hid (HZ1.out.below hb2); have HA2 := Lib.hid (HA1.out.trans (hb2.mono HA1.out.size)); have HB2 := Lib.hid (HB1.out.trans (hb2.mono HB1.out.size)); have hc2 := HK2.out.cell (1 + k) _ HCE.out; have hf2 := HK2.out.free (1 + k); have hso := store_one (P := Tryz.prog) HK2.out (1 + k) HLT.out (.int .u8 Y) rfl; clear hb2))
        all_goals go_wp2
        all_goals go_roundw
        all_goals first
          | exact ⟨i + 1, I + 1, by (first | rfl | go_num), HI2, HL2, Lib.hid (by have := blk_set1 HK2.out (1 + k) (.int .u8 Y); rw [HS.out] at this; exact this), Lib.hid (blk_setOther HZ2.out (by simp)), Lib.hid (HA2.out.setCell (p := ⟨w.heap.size + 1 + 1, 1 + k, none⟩) HW1.out _), Lib.hid (HB2.out.setCell (p := ⟨w.heap.size + 1 + 1, 1 + k, none⟩) (by show w.heap.size ≤ w.heap.size + 1 + 1; omega) _)⟩
          | exact HM.out
      · have hw1 : IntKind.u8.wrap (G * 1) = G * 1 := by rw [IntKind.wrap_u8]; omega
        have hw0 : IntKind.i64.wrap (G * 1) = G * 1 := by rw [IntKind.wrap_i64]; omega
        have hw2 : IntKind.u8.wrap (X + G * 1) = Y := by
          have h := HY.out
          rw [h, HX.out, HG.out, IntKind.wrap_u8, UInt8.toNat_add, UInt8.toNat_ofNat', show (7 - 7 : Nat) = 0 from rfl]
          omega
        have hwr : IntKind.i64.wrap 7 = 7 := by decide
        have hws : IntKind.i64.wrap 0 = 0 := by decide
        have hg8 : IntKind.u8.wrap G = G := by rw [IntKind.wrap_u8]; omega
        have hg64 : IntKind.i64.wrap G = G := by rw [IntKind.wrap_i64]; omega
        rw [Int.mul_one] at hw0 hw1 hw2
        clear HY
        go_upto_region 5 with (fail)
        go_region_with (go_at_call 112; ((with_reducible refine (KB1.out _).mono ?_); rintro e w2 ⟨rfl, hb2⟩; have HK2 := Lib.hid (HK1.out.below hb2); have HZ2 := Lib.hid (HZ1.out.below hb2); have HA2 := Lib.hid (HA1.out.trans (hb2.mono HA1.out.size)); have HB2 := Lib.hid (HB1.out.trans (hb2.mono HB1.out.size)); have hc2 := HK2.out.cell (1 + k) _ HCE.out; have hf2 := HK2.out.free (1 + k); have hso := store_one (P := Tryz.prog) HK2.out (1 + k) HLT.out (.int .u8 Y) rfl; clear hb2))
        all_goals go_wp2
        all_goals go_roundw
        all_goals first
          | exact ⟨i + 1, I + 1, by (first | rfl | go_num), HI2, HL2, Lib.hid (by have := blk_set1 HK2.out (1 + k) (.int .u8 Y); rw [HS.out] at this; exact this), Lib.hid (blk_setOther HZ2.out (by simp)), Lib.hid (HA2.out.setCell (p := ⟨w.heap.size + 1 + 1, 1 + k, none⟩) HW1.out _), Lib.hid (HB2.out.setCell (p := ⟨w.heap.size + 1 + 1, 1 + k, none⟩) (by show w.heap.size ≤ w.heap.size + 1 + 1; omega) _)⟩
          | exact HM.out
    · have hin : i = n := by have := HI.out; have := HN.out; have := HLE.out; omega
      subst hin
      have hcl : (cutL b i).length = 16 := by rw [cutL_len]; exact HL.out
      have HCL := Lib.hid hcl
      have hld : (loadCells ⟨w.heap.size + 1 + 1, 0, none⟩ 17).run Tryz.prog wr = .ok (adA six (cutL b i)) wr := HK.out.load 0 17 (adCells six (cutL b i)) (by rw [List.drop_zero, List.take_of_length_le (by rw [adCells_len _ _ hcl]; omega)]) (adCells_len _ _ hcl)
      clear hcl
      go_wp2_with ((refine wp_store_blk rfl 24 (.tmp 4) (.tmp 31) rfl (w.heap.size + 1) 0 (adCells false zero16) (adCells six (cutL b i)) 24 _ rfl rfl rfl HZ.out (by rw [adCells_len _ _ HCL.out]; decide) (by rw [adCells_len _ _ HCL.out]; exact infoAd) (adCells_one _ _) (by rw [adCells_len _ _ HCL.out]; decide) ?_; intro w7 hk7 ha7; have HK7 := Lib.hid hk7; have HB7 : Hid (Below w.heap.size w w7) := Lib.hid (below_alt HB.out ha7 HB.out.size (fun k hk => by omega)); clear hk7 ha7))
      have hk7 := HK7.out
      rw [splice_all _ _ (by rw [adCells_len _ _ HCL.out]; decide)] at hk7
      have hres : (loadCells ⟨w.heap.size + 1, 0, none⟩ 17).run Tryz.prog w7 = .ok (adA six (cutL b i)) w7 := hk7.load 0 17 (adCells six (cutL b i)) (by rw [List.drop_zero, List.take_of_length_le (by rw [adCells_len _ _ HCL.out]; omega)]) (adCells_len _ _ HCL.out)
      exact bodyPost_ret (v := adV six (cutL b i)) (by simp [results, Tryz.results70, go_sem, hres]) rfl ⟨rfl, HB7.out⟩
end Go.Proofs.YtmcgkknpkocgoaaGreatDoor.Ad
