/- linkboyref02.Format: the groups; the whole. -/
import Derived.Test.YtmcgkknpkocgoaaGreatDoorAf6
import Derived.Test.YtmcgkknpkocgoaaGreatDoorMemR
import Derived.Deep.DeepCutAuto
namespace Go.Proofs.YtmcgkknpkocgoaaGreatDoor.Ad
open Go.RowKit Go.Proofs.YtmcgkknpkocgoaaGreatDoor.Mem Go.Proofs.YtmcgkknpkocgoaaGreatDoor.Num Go.Proofs.YtmcgkknpkocgoaaGreatDoor.Err Go.Proofs.YtmcgkknpkocgoaaGreatDoor.AdP
open Go.Proofs.YtmcgkknpkocgoaaGreatDoor.Head (pad pad_len adCells_one adCells_len infoAd splice_ad)
open Go.Proofs.YtmcgkknpkocgoaaGreatDoor.Addr (adV adA adCells adA_size cell_box load_box cell_six)
set_option linter.unusedVariables false
set_option linter.unusedSimpArgs false
set_option maxRecDepth 100000
attribute [-go_sem] Builtin.append_ loadCells loadCellsFrom storeCells
theorem infoIntF : (Tryz.prog.info? 3).map (fun i => (i.zero, i.size, i.bytes)) = some (some (.int .i64 0), 1, 8) := by kernel_rfl
theorem grps_take (b : List UInt8) (k : Nat) : (List.range k).map (fun i => (grp b i : Int)) ++ [(grp b k : Int)] = (List.range (k + 1)).map (fun i => (grp b i : Int)) := by rw [List.range_succ, List.map_append]; rfl
theorem one_int (x : Int) : (#[Value.int .i64 x] : Array Value) = (eInt.all [x]).toArray := rfl
set_option maxHeartbeats 8000000 in
theorem fmt4w (b : List UInt8) (hb : b.length = 16) (w wc : World) (hW : Below (w.alloc (.cells (adA true b) 24)).heap.size (w.alloc (.cells (adA true b) 24)) wc)
    (u0 u2 u4 u5 u6 u7 u8 u9 u10 u11 u12 u13 u14 u15 u16 u17 u18 u19 u20 u21 u22 u23 u24 u25 u26 u27 u28 u29 u30 u31 u32 u33 u34 u35 u36 u37 u38 u39 u40 u41 u42 u43 u44 u45 u46 u47 u48 u49 u50 u51 u52 u53 u54 u55 u56 u57 u58 u59 u60 u61 u62 u63 u64 u65 u66 u67 u68 u69 u70 u71 u72 u73 u74 u75 u76 u77 u78 u79 u80 u81 u82 u83 u84 u85 u86 u87 u88 u89 u90 u91 u92 u93 u94 u95 u96 u97 u98 u99 u100 u101 u102 u103 u104 u105 u106 u107 u108 u109 u110 u111 u112 u113 u114 u115 u116 u117 u118 u119 u120 : Value) :
    Code.wp Tryz.prog (pF 4) (bodyPost Tryz.prog Tryz.f18 fun e w' => e = .returned (.string (str (fmt6 b))) ∧ Below w.heap.size w w') ⟨#[u0, .pointer (some ⟨w.heap.size, 0, none⟩), u2, .string ByteArray.empty, u4, u5, u6, u7, u8, u9, u10, u11, u12, u13, u14, u15, u16, u17, u18, u19, u20, u21, u22, u23, u24, u25, u26, u27, u28, u29, u30, u31, u32, u33, u34, u35, u36, u37, u38, u39, u40, u41, u42, u43, u44, u45, u46, u47, u48, u49, u50, u51, u52, u53, u54, u55, u56, u57, u58, u59, u60, u61, u62, u63, u64, u65, u66, u67, u68, u69, u70, u71, u72, u73, u74, u75, u76, u77, u78, u79, u80, u81, u82, u83, u84, u85, u86, u87, u88, u89, u90, u91, u92, u93, u94, u95, u96, u97, u98, u99, u100, u101, u102, u103, u104, u105, u106, u107, u108, u109, u110, u111, u112, u113, u114, u115, u116, u117, u118, u119, u120], []⟩ wc := by
  have HW := Lib.hid hW
  have HCB := Lib.hid (fun W h i hi => cell_byte true b hb w W h i hi)
  have HL := Lib.hid hb
  clear hW
  unfold pF
  conv => arg 2; whnf
  go_wp2
  have hbw : Below wc.heap.size wc (wc.alloc (.cells #[] 3)) := (Below.refl _ _).alloc (Nat.le_refl _) _
  go_loopw [5, 6] (fun gv iv wr => ∃ (k : Nat) (I : Int), iv = .int .i64 I ∧ Hid (I = 2 * (k : Int)) ∧ Hid (k ≤ 8) ∧ Hid (Own eInt 3 wc.heap.size wr gv ((List.range k).map (fun i => (grp b i : Int)))) ∧ Hid (Below wc.heap.size wc wr)) (fun _ iv _ => 16 - (intOf iv).toNat)
  case atStart => exact ⟨0, 0, rfl, Lib.hid rfl, Lib.hid (by omega), Lib.hid (Own.lit wc wc.heap.size eInt 3 [] 0 rfl _ rfl (Nat.le_refl _) (by decide)), Lib.hid hbw⟩
  case round =>
    obtain ⟨k, I, rfl, HI, HK, HO, HB⟩ := hrel
    clear hbw
    have hI0 : (0 : Int) ≤ I := by have := HI.out; omega
    have hI16 : I ≤ 16 := by have := HI.out; have := HK.out; omega
    have HWr := Lib.hid (HW.out.trans (HB.out.mono HW.out.size))
    by_cases hlt : I < 16
    · have hk8 : k < 8 := by have := HI.out; omega
      have hIk : I.toNat = 2 * k := by have := HI.out; omega
      have hIk1 : (I + 1).toNat = 2 * k + 1 := by have := HI.out; omega
      have hc0 := HCB.out wr.drew (below_drewN HWr.out 1) (2 * k) (by omega)
      have hc1 := HCB.out wr.drew (below_drewN HWr.out 1) (2 * k + 1) (by omega)
      replace hc0 : wr.drew.cell? ⟨w.heap.size, 1 + I.toNat, none⟩ = some (.int .u8 ((b[2 * k]'(by have := HL.out; omega)).toNat : Int)) := by rw [hIk]; exact hc0
      replace hc1 : wr.drew.cell? ⟨w.heap.size, 1 + (I + 1).toNat, none⟩ = some (.int .u8 ((b[2 * k + 1]'(by have := HL.out; omega)).toNat : Int)) := by rw [hIk1]; exact hc1
      have hI15 : I + 1 < 16 := by omega
      have hI1p : 0 ≤ I + 1 := by omega
      have hgr : (grp b k : Int) = ((b[2 * k]'(by have := HL.out; omega)).toNat : Int) * 256 + ((b[2 * k + 1]'(by have := HL.out; omega)).toNat : Int) := by
        unfold grp
        rw [getD_lt b (2 * k) (by have := HL.out; omega), getD_lt b (2 * k + 1) (by have := HL.out; omega)]
        omega
      have hx := (b[2 * k]'(by have := HL.out; omega)).toNat_lt
      have hy := (b[2 * k + 1]'(by have := HL.out; omega)).toNat_lt
      have hx0 : (0 : Int) ≤ ((b[2 * k]'(by have := HL.out; omega)).toNat : Int) := by omega
      have hy0 : (0 : Int) ≤ ((b[2 * k + 1]'(by have := HL.out; omega)).toNat : Int) := by omega
      have hx1 : ((b[2 * k]'(by have := HL.out; omega)).toNat : Int) < 256 := by omega
      have hy1 : ((b[2 * k + 1]'(by have := HL.out; omega)).toNat : Int) < 256 := by omega
      obtain ⟨X, hX⟩ : ∃ X : Int, X = ((b[2 * k]'(by have := HL.out; omega)).toNat : Int) := ⟨_, rfl⟩
      obtain ⟨Y, hY⟩ : ∃ Y : Int, Y = ((b[2 * k + 1]'(by have := HL.out; omega)).toNat : Int) := ⟨_, rfl⟩
      rw [← hX] at hc0 hgr hx0 hx1
      rw [← hY] at hc1 hgr hy0 hy1
      have HGR := Lib.hid hgr
      clear hx hy hX hY hgr hIk hIk1
      have w1 : IntKind.i64.wrap X = X := by rw [IntKind.wrap_i64]; omega
      have w2 : IntKind.i64.wrap Y = Y := by rw [IntKind.wrap_i64]; omega
      have w3 : IntKind.i64.wrap (X * 256) = X * 256 := by rw [IntKind.wrap_i64]; omega
      have w4 : IntKind.i64.wrap (X * 256 + Y) = X * 256 + Y := by rw [IntKind.wrap_i64]; omega
      have w5 : IntKind.i64.wrap (I + 1) = I + 1 := by rw [IntKind.wrap_i64]; omega
      have HO1 : Hid (Own eInt 3 wc.heap.size wr.drew _ ((List.range k).map (fun i => (grp b i : Int)))) := Lib.hid (HO.out.drewN 1)
      have HB1 : Hid (Below wc.heap.size wc wr.drew) := Lib.hid (below_drewN HB.out 1)
      have HK2 : Hid (k + 1 ≤ 8) := Lib.hid (by omega)
      have HI2 := Lib.hid (show I + 2 = 2 * ((k + 1 : Nat) : Int) by have := HI.out; omega)
      clear hk8
      go_wp2_with (fail)
      go_region_law (refine step_append (E := eInt) wc.heap.size rfl (.tmp 40) (.tmp 54) 103 3 _ 8 rfl Tryz.underlying103 infoIntF rfl (by decide) _ _ ((List.range k).map (fun i => (grp b i : Int))) [X * 256 + Y] rfl rfl (HO1.out.alloc _) (Own.lit' wr.drew _ rfl 0 eInt 3 [X * 256 + Y] 1 rfl _ rfl (Nat.zero_le _) (by simp)).row (size_alloc_le HB1.out _) (by have := HK.out; simp; omega) ?_; intro v1 ww ho1 hg1 hat1; have HO2 := Lib.hid ho1; have HB2 := Lib.hid (below_app (HB1.out.alloc HB1.out.size _) (size_alloc_le HB1.out _) (HO1.out.alloc _) hg1); clear ho1 hg1 hat1)
      all_goals go_wp2
      all_goals go_roundw
      all_goals first
        | exact ⟨k + 1, I + 2, by (first | rfl | go_num), HI2, HK2, Lib.hid (by have := HO2.out; rw [← HGR.out, grps_take] at this; exact this), HB2⟩
        | (simp [intOf]; omega)
    · have hk8 : k = 8 := by have := HI.out; have := HK.out; omega
      subst hk8
      obtain ⟨A, c, rfl, hc1, hc2, hrow⟩ := HO.out.row.parts
      have hlen : ((List.range 8).map (fun i => (grp b i : Int))).length = 8 := by simp
      rw [hlen] at hrow hc1 ⊢
      have KX := fmt6w b w wr A c (below_allocd HWr.out) hrow
      repeat (first | exact KX _ _ _ _ _ _ _ _ _ _ _ _ _ _ _ _ _ _ _ _ _ _ _ _ _ _ _ _ _ _ _ _ _ _ _ _ _ _ _ _ _ _ _ _ _ _ _ _ _ _ _ _ _ _ _ _ _ _ _ _ _ _ _ _ _ _ _ _ _ _ _ _ _ _ _ _ _ _ _ _ _ _ _ _ _ _ _ _ _ _ _ _ _ _ _ _ _ _ _ _ _ _ _ _ _ _ _ _ _ _ _ _ _ _ _ _ _ _ _ | go_values | go_skip | go_guarded | go_step | go_upon | go_back)
end Go.Proofs.YtmcgkknpkocgoaaGreatDoor.Ad
