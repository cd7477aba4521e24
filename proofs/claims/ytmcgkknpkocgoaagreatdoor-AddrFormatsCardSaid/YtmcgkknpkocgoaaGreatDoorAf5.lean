/- linkboyref02.Format: the text of eight groups. -/
import Derived.Test.YtmcgkknpkocgoaaGreatDoorAf4
import Derived.Deep.DeepCutAuto
namespace Go.Proofs.YtmcgkknpkocgoaaGreatDoor.Ad
open Go.RowKit Go.Proofs.YtmcgkknpkocgoaaGreatDoor.Mem Go.Proofs.YtmcgkknpkocgoaaGreatDoor.Num Go.Proofs.YtmcgkknpkocgoaaGreatDoor.Err Go.Proofs.YtmcgkknpkocgoaaGreatDoor.AdP
open Go.Proofs.YtmcgkknpkocgoaaGreatDoor.Head (pad pad_len adCells_one adCells_len infoAd splice_ad)
open Go.Proofs.YtmcgkknpkocgoaaGreatDoor.Addr (adV adA adCells adA_size cell_box load_box cell_six)
set_option linter.unusedVariables false
set_option linter.unusedSimpArgs false
set_option maxRecDepth 100000
attribute [-go_sem] Builtin.append_ loadCells loadCellsFrom storeCells
def tailF : Nat → Code → Code
  | 0, c => c
  | n + 1, .seq _ b => tailF n b
  | _ + 1, c => c
/-- The document's format, from its n-th part on. -/
noncomputable def pF (n : Nat) : Code := tailF n (Tryz.f18.body.getD .skip)
/-- The groups, as numbers. -/
def grps (b : List UInt8) : List Int := (List.range 8).map (fun i => (grp b i : Int))
theorem grps_len (b : List UInt8) : (grps b).length = 8 := by simp [grps]
theorem grps_at (b : List UInt8) (i : Nat) (h : i < 8) : (grps b)[i]'(by rw [grps_len]; exact h) = (grp b i : Int) := by simp [grps]
theorem docT_len (b : List UInt8) (f m i : Nat) (h : f + m ≤ 8) (hi : i ≤ 8) : (docT b f m i).length ≤ 500 := by
  unfold docT
  have q1 := textsL_len b 0 f (by omega)
  have q2 := textsL_len b (f + m) i hi
  have q3 := textsL_len b 0 i hi
  split
  · simp; omega
  · omega
set_option maxHeartbeats 8000000 in
theorem fmt12 (b : List UInt8) (f m : Nat) (hfm : f + m ≤ 8) (hm1 : 1 ≤ m) (w wc : World) (gA : Option Addr) (gc : Nat) (hW : Below w.heap.size w wc) (hg : Row eInt wc (.slice gA 8 gc) (grps b))
    (u0 u1 u2 u4 u6 u9 u10 u11 u12 u13 u14 u15 u16 u17 u18 u19 u20 u21 u22 u23 u24 u25 u26 u27 u28 u29 u30 u31 u32 u33 u34 u35 u36 u37 u38 u39 u40 u41 u42 u43 u44 u45 u46 u47 u48 u49 u50 u51 u52 u53 u54 u55 u56 u57 u58 u59 u60 u61 u62 u63 u64 u65 u66 u67 u68 u69 u70 u71 u72 u73 u74 u75 u76 u77 u78 u79 u80 u81 u82 u83 u84 u85 u86 u87 u88 u89 u90 u91 u92 u93 u94 u95 u96 u97 u98 u99 u100 u101 u102 u103 u104 u105 u106 u107 u108 u109 u110 u111 u112 u113 u114 u115 u116 u117 u118 u119 u120 : Value) :
    Code.wp Tryz.prog (pF 8) (bodyPost Tryz.prog Tryz.f18 fun e w' => e = .returned (.string (str (docT b f m 8))) ∧ Below w.heap.size w w') ⟨#[u0, u1, u2, .string ByteArray.empty, u4, .slice gA 8 gc, u6, .int .i64 (f : Int), .int .i64 (m : Int), u9, u10, u11, u12, u13, u14, u15, u16, u17, u18, u19, u20, u21, u22, u23, u24, u25, u26, u27, u28, u29, u30, u31, u32, u33, u34, u35, u36, u37, u38, u39, u40, u41, u42, u43, u44, u45, u46, u47, u48, u49, u50, u51, u52, u53, u54, u55, u56, u57, u58, u59, u60, u61, u62, u63, u64, u65, u66, u67, u68, u69, u70, u71, u72, u73, u74, u75, u76, u77, u78, u79, u80, u81, u82, u83, u84, u85, u86, u87, u88, u89, u90, u91, u92, u93, u94, u95, u96, u97, u98, u99, u100, u101, u102, u103, u104, u105, u106, u107, u108, u109, u110, u111, u112, u113, u114, u115, u116, u117, u118, u119, u120], []⟩ wc := by
  have HG := Lib.hid hg
  have HW := Lib.hid hW
  have HM := Lib.hid hfm
  have HM1 := Lib.hid hm1
  have hgc := hg.cap
  have KN : Hid (∀ (n : Nat), n < 65536 → ∀ W, Calls Tryz.prog 84 #[.int .i64 (n : Int), .int .i64 16] W fun e w' => e = .returned (.string (str (numb 16 20 n))) ∧ ∃ m, w' = W.drewN m) := Lib.hid (fun n hn W => numeral_calls 16 (.inr rfl) 20 n (by omega) hn (Nat.lt_trans hn (by decide)) W)
  have hgc1 : (8 : Int) ≤ (gc : Int) := by have := hgc.1; rw [grps_len] at this; omega
  have hgc2 : (gc : Int) ≤ 9223372036854775807 := by have := hgc.2.1; unfold maxLen at this; omega
  clear hg hW hgc
  have hF0 : (0 : Int) ≤ (f : Int) := by omega
  have hM0 : (1 : Int) ≤ (m : Int) := by omega
  have hFM : (f : Int) + (m : Int) ≤ 8 := by omega
  clear hfm hm1
  obtain ⟨F, hF⟩ : ∃ F : Int, F = (f : Int) := ⟨_, rfl⟩
  obtain ⟨M, hM⟩ : ∃ M : Int, M = (m : Int) := ⟨_, rfl⟩
  rw [← hF] at hF0 hFM ⊢
  rw [← hM] at hM0 hFM ⊢
  have HF := Lib.hid hF
  have HMM := Lib.hid hM
  clear hF hM
  unfold pF
  conv => arg 2; whnf
  go_wp2
  go_loopw [3, 11] (fun sv iv wr => ∃ (i : Nat) (I : Int) (s : ByteArray), iv = .int .i64 I ∧ sv = .string s ∧ Hid (I = (i : Int)) ∧ Hid (s = str (docT b f m i)) ∧ Hid (i ≤ 8) ∧ Hid (¬ (1 < m ∧ f < i ∧ i < f + m)) ∧ Hid (Below wc.heap.size wc wr)) (fun _ iv _ => 8 - (intOf iv).toNat)
  case atStart => exact ⟨0, 0, _, rfl, rfl, Lib.hid rfl, Lib.hid (by rw [docT_zero]; rfl), Lib.hid (by omega), Lib.hid (by omega), Lib.hid (Below.refl _ _)⟩
  case round =>
    obtain ⟨i, I, s, rfl, rfl, HI, HS, HL8, HN, HB⟩ := hrel
    have hI0 : (0 : Int) ≤ I := by have := HI.out; omega
    have hI8 : I ≤ 8 := by have := HI.out; have := HL8.out; omega
    have hs1 : (s.size : Int) ≤ 500 := by rw [HS.out, sz]; have := docT_len b f m i HM.out HL8.out; omega
    have hzA : ¬ 9223372036854775807 < s.size + 2 := by omega
    have hzB : ¬ 9223372036854775807 < s.size + 1 := by omega
    by_cases hlt : I < 8
    · have hi8 : i < 8 := by have := HI.out; omega
      by_cases hh : 1 < m ∧ i = f
      · have h1M : 1 < M := by have := HMM.out; omega
        obtain rfl : I = F := by have := HI.out; have := HF.out; omega
        have HS2 := Lib.hid (show s ++ ⟨#[58, 58]⟩ = str (docT b f m (f + m)) by rw [docT_hole b f m hh.1, HS.out, hh.2, ← str_cat])
        have HIN := Lib.hid (show I + M = ((f + m : Nat) : Int) by have := HF.out; have := HMM.out; omega)
        clear hh hi8
        go_wp2
        go_roundw
        case rel => exact ⟨f + m, I + M, _, by (first | go_num | (congr 1; omega)), rfl, HIN, HS2, HM, Lib.hid (by omega), HB⟩
        case measure => simp [intOf]; omega
      · have hcell := (HG.out.below HB.out).atInt (k := i) (by rw [grps_len]; exact hi8)
        rw [grps_at b i hi8] at hcell
        obtain ⟨ad, rfl, hcell⟩ := hcell
        have hidx : I.toNat = i := by have := HI.out; omega
        replace hcell : wr.cell? (ad.add I.toNat) = some (.int .i64 (grp b i : Int)) := by rw [hidx]; exact hcell
        have KN1 := Lib.hid (KN.out (grp b i) (grp_lt b i))
        have hgl := numb_len 16 20 (grp b i)
        have hG0 : (0 : Int) ≤ (grp b i : Int) := by omega
        have hstep := docT_step b f m i hh HN.out
        have hhI : (1 < M ∧ I = F) → False := fun h => hh ⟨by have := HMM.out; omega, by have := HI.out; have := HF.out; omega⟩
        have HNX := Lib.hid (show ¬ (1 < m ∧ f < i + 1 ∧ i + 1 < f + m) by have := HN.out; omega)
        have HI2 := Lib.hid (show I + 1 = ((i + 1 : Nat) : Int) by have := HI.out; omega)
        have H82 : Hid (i + 1 ≤ 8) := Lib.hid (by omega)
        have hcol : (0 < i ∧ ¬ (1 < m ∧ i = f + m)) ↔ (0 < I ∧ ¬ (1 < M ∧ I = F + M)) := by
          have := HI.out; have := HF.out; have := HMM.out
          omega
        clear hidx hh hi8
        have hD1 : ((str (numb 16 20 (grp b i))).size : Int) ≤ 500 := by rw [sz]; omega
        by_cases hc : 0 < I ∧ ¬ (1 < M ∧ I = F + M)
        · rw [if_pos (hcol.2 hc)] at hstep
          have HST := Lib.hid (show s ++ ⟨#[58]⟩ ++ str (numb 16 20 (grp b i)) = str (docT b f m (i + 1)) by rw [hstep, HS.out, ← str_cat, ← str_cat]; rfl)
          have hzC : ¬ 9223372036854775807 < s.size + 1 + (str (numb 16 20 (grp b i))).size := by omega
          clear hstep hcol hgl
          generalize str (numb 16 20 (grp b i)) = D at *
          generalize grp b i = G at *
          have h0I := hc.1
          by_cases h1M : 1 < M
          · have hne : ¬ I = F := fun h => hhI ⟨h1M, h⟩
            have hne2 : ¬ I = F + M := fun h => hc.2 ⟨h1M, h⟩
            have hb1 : (I == F) = false := beq_eq_false_iff_ne.mpr hne
            have hb2 : (I == F + M) = false := beq_eq_false_iff_ne.mpr hne2
            clear hhI hc
            go_wp2_with (go_at_call 84; ((with_reducible refine (KN1.out _).mono ?_); rintro e w2 ⟨rfl, q, rfl⟩))
            go_roundw
            case rel => exact ⟨i + 1, I + 1, _, by (first | rfl | go_num), rfl, HI2, HST, H82, HNX, Lib.hid (below_drewN HB.out _)⟩
            case measure => simp [intOf]; omega
          · clear hhI hc
            have hM1 : M ≤ 1 := by omega
            go_wp2_with (go_at_call 84; ((with_reducible refine (KN1.out _).mono ?_); rintro e w2 ⟨rfl, q, rfl⟩))
            go_roundw
            case rel => exact ⟨i + 1, I + 1, _, by (first | rfl | go_num), rfl, HI2, HST, H82, HNX, Lib.hid (below_drewN HB.out _)⟩
            case measure => simp [intOf]; omega
        · rw [if_neg (fun h => hc (hcol.1 h))] at hstep
          have HST := Lib.hid (show s ++ str (numb 16 20 (grp b i)) = str (docT b f m (i + 1)) by rw [hstep, HS.out, List.append_nil, ← str_cat]; rfl)
          have hzC : ¬ 9223372036854775807 < s.size + (str (numb 16 20 (grp b i))).size := by omega
          clear hstep hcol hgl
          generalize str (numb 16 20 (grp b i)) = D at *
          generalize grp b i = G at *
          by_cases h0I : 0 < I
          · have h1M : 1 < M := by omega
            have hne : ¬ I = F := fun h => hhI ⟨h1M, h⟩
            obtain rfl : I = F + M := by omega
            have hb1 : (F + M == F) = false := beq_eq_false_iff_ne.mpr hne
            clear hhI hc
            go_wp2_with (go_at_call 84; ((with_reducible refine (KN1.out _).mono ?_); rintro e w2 ⟨rfl, q, rfl⟩))
            go_roundw
            case rel => exact ⟨i + 1, F + M + 1, _, by (first | rfl | go_num), rfl, HI2, HST, H82, HNX, Lib.hid (below_drewN HB.out _)⟩
            case measure => simp [intOf]; omega
          · by_cases h1M : 1 < M
            · have hne : ¬ I = F := fun h => hhI ⟨h1M, h⟩
              clear hhI hc
              go_wp2_with (go_at_call 84; ((with_reducible refine (KN1.out _).mono ?_); rintro e w2 ⟨rfl, q, rfl⟩))
              go_roundw
              case rel => exact ⟨i + 1, I + 1, _, by (first | rfl | go_num), rfl, HI2, HST, H82, HNX, Lib.hid (below_drewN HB.out _)⟩
              case measure => simp [intOf]; omega
            · clear hhI hc
              go_wp2_with (go_at_call 84; ((with_reducible refine (KN1.out _).mono ?_); rintro e w2 ⟨rfl, q, rfl⟩))
              go_roundw
              case rel => exact ⟨i + 1, I + 1, _, by (first | rfl | go_num), rfl, HI2, HST, H82, HNX, Lib.hid (below_drewN HB.out _)⟩
              case measure => simp [intOf]; omega
    · obtain rfl : I = 8 := by omega
      have hi8 : i = 8 := by have := HI.out; omega
      subst hi8
      go_wp2
      (first | exact bodyPost_ret (v := .string s) (by simp [results, Tryz.results18, go_sem]) rfl ⟨by rw [HS.out], HW.out.trans (HB.out.mono HW.out.size)⟩ | (go_step; exact bodyPost_ret (v := .string s) (by simp [results, Tryz.results18, go_sem]) rfl ⟨by rw [HS.out], HW.out.trans (HB.out.mono HW.out.size)⟩))
end Go.Proofs.YtmcgkknpkocgoaaGreatDoor.Ad
