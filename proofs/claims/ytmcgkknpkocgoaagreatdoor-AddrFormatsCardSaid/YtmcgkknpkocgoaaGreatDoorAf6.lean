/- linkboyref02.Format: the longest row of noughts. -/
import Derived.Test.YtmcgkknpkocgoaaGreatDoorAf5
import Derived.Deep.DeepCutAuto
namespace Go.Proofs.YtmcgkknpkocgoaaGreatDoor.Ad
open Go.RowKit Go.Proofs.YtmcgkknpkocgoaaGreatDoor.Mem Go.Proofs.YtmcgkknpkocgoaaGreatDoor.Num Go.Proofs.YtmcgkknpkocgoaaGreatDoor.Err Go.Proofs.YtmcgkknpkocgoaaGreatDoor.AdP
open Go.Proofs.YtmcgkknpkocgoaaGreatDoor.Head (pad pad_len adCells_one adCells_len infoAd splice_ad)
open Go.Proofs.YtmcgkknpkocgoaaGreatDoor.Addr (adV adA adCells adA_size cell_box load_box cell_six)
set_option linter.unusedVariables false
set_option linter.unusedSimpArgs false
set_option maxRecDepth 100000
attribute [-go_sem] Builtin.append_ loadCells loadCellsFrom storeCells
theorem bl_pos (b : List UInt8) : 1 ≤ (blL (zs b) 0 0 1).2 := by
  rw [bl_nz]
  split
  · simp
  · simp; omega
set_option maxHeartbeats 8000000 in
theorem fmt6w (b : List UInt8) (w wc : World) (gA : Option Addr) (gc : Nat) (hW : Below w.heap.size w wc) (hg : Row eInt wc (.slice gA 8 gc) (grps b))
    (u0 u1 u2 u4 u6 u7 u8 u9 u10 u11 u12 u13 u14 u15 u16 u17 u18 u19 u20 u21 u22 u23 u24 u25 u26 u27 u28 u29 u30 u31 u32 u33 u34 u35 u36 u37 u38 u39 u40 u41 u42 u43 u44 u45 u46 u47 u48 u49 u50 u51 u52 u53 u54 u55 u56 u57 u58 u59 u60 u61 u62 u63 u64 u65 u66 u67 u68 u69 u70 u71 u72 u73 u74 u75 u76 u77 u78 u79 u80 u81 u82 u83 u84 u85 u86 u87 u88 u89 u90 u91 u92 u93 u94 u95 u96 u97 u98 u99 u100 u101 u102 u103 u104 u105 u106 u107 u108 u109 u110 u111 u112 u113 u114 u115 u116 u117 u118 u119 u120 : Value) :
    Code.wp Tryz.prog (pF 6) (bodyPost Tryz.prog Tryz.f18 fun e w' => e = .returned (.string (str (fmt6 b))) ∧ Below w.heap.size w w') ⟨#[u0, u1, u2, .string ByteArray.empty, u4, .slice gA 8 gc, u6, u7, u8, u9, u10, u11, u12, u13, u14, u15, u16, u17, u18, u19, u20, u21, u22, u23, u24, u25, u26, u27, u28, u29, u30, u31, u32, u33, u34, u35, u36, u37, u38, u39, u40, u41, u42, u43, u44, u45, u46, u47, u48, u49, u50, u51, u52, u53, u54, u55, u56, u57, u58, u59, u60, u61, u62, u63, u64, u65, u66, u67, u68, u69, u70, u71, u72, u73, u74, u75, u76, u77, u78, u79, u80, u81, u82, u83, u84, u85, u86, u87, u88, u89, u90, u91, u92, u93, u94, u95, u96, u97, u98, u99, u100, u101, u102, u103, u104, u105, u106, u107, u108, u109, u110, u111, u112, u113, u114, u115, u116, u117, u118, u119, u120], []⟩ wc := by
  have hgc := hg.cap
  have hgc1 : (8 : Int) ≤ (gc : Int) := by have := hgc.1; rw [grps_len] at this; omega
  have hgc2 : (gc : Int) ≤ 9223372036854775807 := by have := hgc.2.1; unfold maxLen at this; omega
  obtain ⟨ad, rfl, -⟩ := hg.atInt (k := 0) (by rw [grps_len]; omega)
  have HC : Hid (∀ j, j < 8 → wc.cell? (ad.add j) = some (.int .i64 (grp b j : Int))) := Lib.hid (fun j hj => by
    obtain ⟨ad', he, hc⟩ := hg.atInt (k := j) (by rw [grps_len]; exact hj)
    cases he
    rw [grps_at b j hj] at hc
    exact hc)
  have HG := Lib.hid hg
  have HW := Lib.hid hW
  clear hg hW hgc
  unfold pF
  conv => arg 2; whnf
  go_wp2
  go_loop [7, 8, 9, 10] (fun fv mv iv nv => ∃ (i f m : Nat) (I F M : Int), iv = .int .i64 I ∧ fv = .int .i64 F ∧ mv = .int .i64 M ∧ Hid (I = (i : Int)) ∧ Hid (F = (f : Int)) ∧ Hid (M = (m : Int)) ∧ Hid (i ≤ 8) ∧ Hid (blL ((zs b).drop i) i f m = blL (zs b) 0 0 1)) (fun _ _ iv _ => 8 - (intOf iv).toNat)
  case atStart => exact ⟨0, 0, 1, 0, 0, 1, rfl, rfl, rfl, Lib.hid rfl, Lib.hid rfl, Lib.hid rfl, Lib.hid (by omega), Lib.hid rfl⟩
  case round =>
    obtain ⟨i, f, m, I, F, M, rfl, rfl, rfl, HI, HF, HM, HL8, HB⟩ := hrel
    have hI0 : (0 : Int) ≤ I := by have := HI.out; omega
    have hI8 : I ≤ 8 := by have := HI.out; have := HL8.out; omega
    by_cases hlt : I < 8
    · have hi8 : i < 8 := by have := HI.out; omega
      have HBS := Lib.hid (bl_step b i f m hi8)
      have H82 : Hid (i + 1 ≤ 8) := Lib.hid (by omega)
      have HI2 := Lib.hid (show I + 1 = ((i + 1 : Nat) : Int) by have := HI.out; omega)
      clear hi8
      go_wp2
      go_loop [10] (fun nv => ∃ (n : Nat) (K : Int), nv = .int .i64 K ∧ Hid (K = (n : Int)) ∧ Hid (i + n ≤ 8) ∧ Hid (zrB ((zs b).drop i) = n + zrB ((zs b).drop (i + n)))) (fun nv => 8 - (intOf nv).toNat)
      case atStart => exact ⟨0, 0, rfl, Lib.hid rfl, Lib.hid (by have := H82.out; omega), Lib.hid (by simp)⟩
      case round =>
        obtain ⟨n, K, rfl, HK, HN8, HZ⟩ := hrel
        have hK0 : (0 : Int) ≤ K := by have := HK.out; omega
        have hIK8 : I + K ≤ 8 := by have := HK.out; have := HI.out; have := HN8.out; omega
        by_cases hin : I + K < 8
        · have hin8 : i + n < 8 := by have := HK.out; have := HI.out; omega
          have hcell := HC.out (i + n) hin8
          have hz := zr_zero b (i + n) hin8
          have hz2 := zr_not b (i + n) hin8
          have hidx : (I + K).toNat = i + n := by have := HK.out; have := HI.out; omega
          replace hcell : wc.cell? (ad.add (I + K).toNat) = some (.int .i64 (grp b (i + n) : Int)) := by rw [hidx]; exact hcell
          clear hidx
          by_cases hg0 : grp b (i + n) = 0
          · have HZ2 := Lib.hid (show zrB ((zs b).drop i) = (n + 1) + zrB ((zs b).drop (i + (n + 1))) by rw [HZ.out, hz hg0, Nat.add_assoc i n 1]; omega)
            have HN2 : Hid (i + (n + 1) ≤ 8) := Lib.hid (by omega)
            have HK2 := Lib.hid (show K + 1 = ((n + 1 : Nat) : Int) by have := HK.out; omega)
            rw [hg0] at hcell
            clear hz hz2 hg0 hin8
            go_wp2
            go_round
            case rel => exact ⟨n + 1, K + 1, by (first | rfl | go_num), HK2, HN2, HZ2⟩
            case measure => simp [intOf]; omega
          · have HZ2 := Lib.hid (show zrB ((zs b).drop i) = n by rw [HZ.out, hz2 hg0]; rfl)
            have hq0 : ((grp b (i + n) : Int) == 0) = false := beq_eq_false_iff_ne.mpr (by omega)
            have hq1 : ((grp b (i + n) : Int) != 0) = true := bne_iff_ne.mpr (by omega)
            have HG0 := Lib.hid hg0
            clear hz hz2 hg0 hin8
            generalize grp b (i + n) = G at *
            by_cases hML : M < K
            · have HB2 := Lib.hid (show blL ((zs b).drop (i + 1)) (i + 1) i n = blL (zs b) 0 0 1 by
                have h := HBS.out
                rw [HZ2.out, if_pos (by have := HM.out; have := HK.out; omega)] at h
                rw [← h]; exact HB.out)
              go_wp2
              go_round
              case rel => exact ⟨i + 1, i, n, I + 1, I, K, by (first | rfl | go_num), by (first | rfl | go_num), by (first | rfl | go_num), HI2, HI, HK, H82, HB2⟩
              case measure => simp [intOf]; omega
            · have HB2 := Lib.hid (show blL ((zs b).drop (i + 1)) (i + 1) f m = blL (zs b) 0 0 1 by
                have h := HBS.out
                rw [HZ2.out, if_neg (by have := HM.out; have := HK.out; omega)] at h
                rw [← h]; exact HB.out)
              go_wp2
              go_round
              case rel => exact ⟨i + 1, f, m, I + 1, F, M, by (first | rfl | go_num), by (first | rfl | go_num), by (first | rfl | go_num), HI2, HF, HM, H82, HB2⟩
              case measure => simp [intOf]; omega
        · have hin8 : i + n = 8 := by have := HK.out; have := HI.out; have := HN8.out; omega
          have HZ2 := Lib.hid (show zrB ((zs b).drop i) = n by rw [HZ.out, hin8, zr_end]; rfl)
          clear hin8
          by_cases hML : M < K
          · have HB2 := Lib.hid (show blL ((zs b).drop (i + 1)) (i + 1) i n = blL (zs b) 0 0 1 by
              have h := HBS.out
              rw [HZ2.out, if_pos (by have := HM.out; have := HK.out; omega)] at h
              rw [← h]; exact HB.out)
            go_wp2
            go_round
            case rel => exact ⟨i + 1, i, n, I + 1, I, K, by (first | rfl | go_num), by (first | rfl | go_num), by (first | rfl | go_num), HI2, HI, HK, H82, HB2⟩
            case measure => simp [intOf]; omega
          · have HB2 := Lib.hid (show blL ((zs b).drop (i + 1)) (i + 1) f m = blL (zs b) 0 0 1 by
              have h := HBS.out
              rw [HZ2.out, if_neg (by have := HM.out; have := HK.out; omega)] at h
              rw [← h]; exact HB.out)
            go_wp2
            go_round
            case rel => exact ⟨i + 1, f, m, I + 1, F, M, by (first | rfl | go_num), by (first | rfl | go_num), by (first | rfl | go_num), HI2, HF, HM, H82, HB2⟩
            case measure => simp [intOf]; omega
    · obtain rfl : I = 8 := by omega
      have hi8 : i = 8 := by have := HI.out; omega
      subst hi8
      have HE := HB.out
      rw [bl_end] at HE
      have hT := docT_end b
      have hR := bl_range b
      have hP := bl_pos b
      rw [← HE] at hT hR hP
      have KX := fmt12 b f m hR hP w wc (some ad) gc HW.out HG.out
      rw [hT] at KX
      have hFf := HF.out
      have hMm := HM.out
      subst hFf
      subst hMm
      repeat (first | exact KX _ _ _ _ _ _ _ _ _ _ _ _ _ _ _ _ _ _ _ _ _ _ _ _ _ _ _ _ _ _ _ _ _ _ _ _ _ _ _ _ _ _ _ _ _ _ _ _ _ _ _ _ _ _ _ _ _ _ _ _ _ _ _ _ _ _ _ _ _ _ _ _ _ _ _ _ _ _ _ _ _ _ _ _ _ _ _ _ _ _ _ _ _ _ _ _ _ _ _ _ _ _ _ _ _ _ _ _ _ _ _ _ _ _ _ _ _ | go_values | go_skip | go_guarded | go_step | go_upon | go_back)
end Go.Proofs.YtmcgkknpkocgoaaGreatDoor.Ad
