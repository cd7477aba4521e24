/- The law HintsFilter. -/
import Derived.Test.YtcfgffkjbkpfhaaLeave2
import Derived.Test.YtcfgffkjbkpfhaaZoneR
import Derived.Deep.RegionHeld3
namespace Go.Proofs.Ytcfgffkjbkpfhaa.Cand
open Go.RowKit Go.Proofs.Ytcfgffkjbkpfhaa.SortS Go.Proofs.Ytcfgffkjbkpfhaa.Mem Go.Proofs.Ytcfgffkjbkpfhaa.Num Go.Proofs.Ytcfgffkjbkpfhaa.Key
open Go.Proofs.Ytcfgffkjbkpfhaa.Addr hiding below_allocd
set_option linter.unusedVariables false
set_option linter.unusedSimpArgs false
set_option maxRecDepth 100000
attribute [-go_sem] Builtin.append_ loadCells loadCellsFrom storeCells run_eql_struct
set_option maxHeartbeats 8000000 in
theorem hfilter_calls (v : Value) (zone : ByteArray) (xs : List Cd) (z : Cd → List ByteArray) (w : World) (hv : Cands w v xs z) (hz : ∀ x ∈ xs, ∀ s ∈ z x, s.size ≤ maxLen) (hzn : zone.size ≤ maxLen) :
    Calls Try.prog 7 #[v, .string zone] w fun e w' => e = .returned (.bool true) ∧ Below w.heap.size w w' := by
  obtain ⟨A, c, rfl, hc, hm, hr⟩ := hv.1.parts
  have HV : Hid (∀ W, Below w.heap.size w W → Cands W (.slice A xs.length c) xs z) := Lib.hid (fun W hW => hv.below hW)
  have HV1 : Hid (∀ W, Below w.heap.size w W → Row eCd W (.slice A xs.length c) xs) := Lib.hid (fun W hW => hv.1.below hW)
  have HBX := Lib.hid (fun (W : World) (x : Cd) => box_cd (P := Try.prog) W x 44 #[.bool false, .int .u8 0, .int .u8 0, .int .u8 0, .int .u8 0, .int .u8 0, .int .u8 0, .int .u8 0, .int .u8 0, .int .u8 0, .int .u8 0, .int .u8 0, .int .u8 0, .int .u8 0, .int .u8 0, .int .u8 0, .int .u8 0, .int .i64 0, .bool false, .bool false, .bool false, .bool false, .slice none 0 0] rfl)
  have KA : Hid (Calls Try.prog 24 #[] w fun e w' => e = .returned (.bool true) ∧ Below w.heap.size w w') := Lib.hid (alive18_calls w)
  have KG : Hid (∀ W, Below w.heap.size w W → Calls Try.prog 9 #[.slice A xs.length c] W fun e w' => e = .returned (.bool (candLong xs z)) ∧ Below W.heap.size W w') := Lib.hid (fun W hW => candlong_calls _ xs z W (hv.below hW) hz)
  have hzs : zone.size ≤ 9223372036854775807 := by unfold maxLen at hzn; omega
  by_cases hL : candLong xs z = true
  · rw [hL] at KG
    clear hv hr hz hL
    go_enter Try.func7, Try.ntmps7
    go_wp2_with (first
      | (go_at_call 24; ((with_reducible refine KA.out.mono ?_); rintro e w1 ⟨rfl, hb1⟩; have HB1 := Lib.hid hb1; clear hb1))
      | (go_at_call 9; ((with_reducible refine (KG.out _ HB1.out).mono ?_); rintro e w2 ⟨rfl, hb2⟩; have HB2 := Lib.hid (HB1.out.trans (hb2.mono HB1.out.size)); clear hb2)))
    go_ret
    exact ⟨rfl, HB2.out⟩
  · have hL2 : candLong xs z = false := Bool.eq_false_iff.2 hL
    rw [hL2] at KG
    by_cases hZ : (100 : Int) < (zone.size : Int)
    · clear hv hr hz hL hL2
      go_enter Try.func7, Try.ntmps7
      go_wp2_with (first
        | (go_at_call 24; ((with_reducible refine KA.out.mono ?_); rintro e w1 ⟨rfl, hb1⟩; have HB1 := Lib.hid hb1; clear hb1))
        | (go_at_call 9; ((with_reducible refine (KG.out _ HB1.out).mono ?_); rintro e w2 ⟨rfl, hb2⟩; have HB2 := Lib.hid (HB1.out.trans (hb2.mono HB1.out.size)); clear hb2)))
      go_ret
      exact ⟨rfl, HB2.out⟩
    · obtain ⟨hx60, hz400⟩ := long_zones hL2
      have hmx : Try.prog.follows .mixedOrders = true := by kernel_rfl
      obtain ⟨fs, hfs⟩ : ∃ fs, fs = filterL zone z xs := ⟨_, rfl⟩
      obtain ⟨zl, hzl⟩ : ∃ zl, zl = zonesL z xs := ⟨_, rfl⟩
      obtain ⟨ct, hct⟩ : ∃ ct, ct = countB zone z xs := ⟨_, rfl⟩
      have KO : Hid (∀ W v' L, Row eCd W v' L → L.length ≤ 100000 → Calls Try.prog 11 #[v'] W fun e w' => (∃ v2, e = .returned v2 ∧ Row eCd w' v2 L) ∧ Below W.heap.size W w') := Lib.hid (fun W v' L h hl => of_calls v' L W h hl)
      have KM : Hid (∀ x ∈ xs, ∀ W, Below w.heap.size w W → Calls Try.prog 27 #[.agg x.cells.toArray, .string zone] W fun e w' => e = .returned (.bool (memS zone (z x))) ∧ Below W.heap.size W w') := Lib.hid (fun x hx W hW => meant_calls x zone (z x) W ((hv.2 x hx).below hW))
      have KRM : Hid (∀ x ∈ xs, ∀ W, Below w.heap.size w W → Calls Try.prog 28 #[.agg x.cells.toArray, .string zone] W fun e w' => e = .returned (.bool (memS zone (z x))) ∧ Below W.heap.size W w') := Lib.hid (fun x hx W hW => rmeant_calls x zone (z x) W ((hv.2 x hx).below hW))
      have KS : Hid (∀ x ∈ xs, ∀ y ∈ xs, ∀ W, Below w.heap.size w W → Calls Try.prog 17 #[.agg x.cells.toArray, .agg y.cells.toArray] W fun e w' => e = .returned (.bool (sameB x y (z x) (z y))) ∧ Below W.heap.size W w') := Lib.hid (fun x hx y hy W hW => same_calls x y (z x) (z y) W ((hv.2 x hx).below hW) ((hv.2 y hy).below hW))
      have KRS : Hid (∀ x ∈ xs, ∀ y ∈ xs, ∀ W, Below w.heap.size w W → Calls Try.prog 29 #[.agg x.cells.toArray, .agg y.cells.toArray] W fun e w' => e = .returned (.bool (sameB x y (z x) (z y))) ∧ Below W.heap.size W w') := Lib.hid (fun x hx y hy W hW => rsame_calls x y (z x) (z y) W ((hv.2 x hx).below hW) ((hv.2 y hy).below hW))
      have KC : Hid (∀ W, Below w.heap.size w W → Calls Try.prog 30 #[.slice A xs.length c, .string zone] W fun e w' => e = .returned (.bool ct) ∧ Below W.heap.size W w') := Lib.hid (fun W hW => by rw [hct]; exact count_calls _ zone xs z W (hv.below hW) (by omega))
      have KRC : Hid (∀ W v', Below w.heap.size w W → Row eCd W v' xs → Calls Try.prog 31 #[v', .string zone] W fun e w' => e = .returned (.bool ct) ∧ Below W.heap.size W w') := Lib.hid (fun W v' hW h => by rw [hct]; exact rcount_calls v' zone xs z W ⟨h, (hv.below hW).2⟩ (by omega))
      have KF : Hid (∀ W, Below w.heap.size w W → Calls Try.prog 25 #[.slice A xs.length c, .string zone] W fun e w' => (∃ v2, e = .returned v2 ∧ Row eCd w' v2 fs) ∧ Below W.heap.size W w') := Lib.hid (fun W hW => by rw [hfs]; exact filter_calls _ zone xs z W (hv.below hW) (by omega))
      have KRF : Hid (∀ W v', Below w.heap.size w W → Row eCd W v' xs → Calls Try.prog 32 #[v', .string zone] W fun e w' => (∃ v2, e = .returned v2 ∧ Row eCd w' v2 fs) ∧ Below W.heap.size W w') := Lib.hid (fun W v' hW h => by rw [hfs]; exact rfilter_calls v' zone xs z W ⟨h, (hv.below hW).2⟩ (by omega))
      have KZ : Hid (∀ W, Below w.heap.size w W → Calls Try.prog 26 #[.slice A xs.length c] W fun e w' => (∃ v2, e = .returned v2 ∧ Row eStr w' v2 zl) ∧ Below W.heap.size W w') := Lib.hid (fun W hW => by rw [hzl]; exact zones_calls _ xs z W (hv.below hW) hx60 hz400)
      have KRZ : Hid (∀ W v', Below w.heap.size w W → Row eCd W v' xs → Calls Try.prog 34 #[v'] W fun e w' => (∃ v2, e = .returned v2 ∧ Row eStr w' v2 zl) ∧ Below W.heap.size W w') := Lib.hid (fun W v' hW h => by rw [hzl]; exact rzones_calls v' xs z W ⟨h, (hv.below hW).2⟩ hx60 hz400)
      have KA2 : Hid (∀ W v1 v2 L, Below w.heap.size w W → (∀ x ∈ L, x ∈ xs) → L.length ≤ 100000 → Row eCd W v1 L → Row eCd W v2 L → Calls Try.prog 12 #[v1, v2] W fun e w' => e = .returned (.bool true) ∧ Below W.heap.size W w') := Lib.hid (fun W v1 v2 L hW hm hl h1 h2 => all_calls v1 v2 L z W ⟨h1, fun x hx => ((hv.below hW).2 x (hm x hx))⟩ ⟨h2, fun x hx => ((hv.below hW).2 x (hm x hx))⟩ hl)
      have KT : Hid (∀ W v1 v2, Row eStr W v1 zl → Row eStr W v2 zl → Calls Try.prog 33 #[v1, v2] W fun e w' => e = .returned (.bool true) ∧ Below W.heap.size W w') := Lib.hid (fun W v1 v2 h1 h2 => by
        obtain ⟨B1, k1, rfl, _, _, h1⟩ := h1.parts
        obtain ⟨B2, k2, rfl, _, _, h2⟩ := h2.parts
        refine (sametexts_calls B1 B2 k1 k2 zl zl W h1 h2).mono ?_
        rintro e w' ⟨rfl, n, rfl⟩
        exact ⟨by rw [eqS_refl], below_drewN (Below.refl _ _) n⟩)
      have HMF : Hid ((∀ x ∈ fs, x ∈ xs) ∧ fs.length ≤ 100000) := Lib.hid ⟨fun x hx => (filterL_mem (hfs ▸ hx)).1, by rw [hfs]; exact Nat.le_trans (filterL_len _ _ _) (Nat.le_trans (List.length_filter_le _ _) (by omega))⟩
      have HMX : Hid ((∀ x ∈ xs, x ∈ xs) ∧ xs.length ≤ 100000) := Lib.hid ⟨fun x hx => hx, by omega⟩
      have hl2 : xs.length ≤ 9223372036854775807 := by omega
      clear hv hr hz hL hL2 hfs hzl hct hx60 hz400
      go_enter Try.func7, Try.ntmps7
      go_wp2_with (first
        | (go_at_call 24; ((with_reducible refine KA.out.mono ?_); rintro e w1 ⟨rfl, hb1⟩; have HB1 := Lib.hid hb1; clear hb1))
        | (go_at_call 9; ((with_reducible refine (KG.out _ HB1.out).mono ?_); rintro e w2 ⟨rfl, hb2⟩; have HB2 := Lib.hid (HB1.out.trans (hb2.mono HB1.out.size)); clear hb2))
        | (go_at_call 11; ((with_reducible refine (KO.out _ _ _ (HV1.out _ HB2.out) HMX.out.2).mono ?_); rintro e w3 ⟨⟨v3, rfl, hr3⟩, hb3⟩; have HR3 := Lib.hid hr3; have HS3 := Lib.hid hb3; have HB3 := Lib.hid (HB2.out.trans (hb3.mono HB2.out.size)); obtain ⟨A3, c3, rfl, _, _, hr3⟩ := hr3.parts; have H3 : Hid (∀ W, Below w3.heap.size w3 W → Row eCd W (.slice A3 xs.length c3) xs) := Lib.hid (fun W h => hr3.below h); clear hr3 hb3)))
      go_loopw [21] (fun iv wr => ∃ k : Nat, k ≤ xs.length ∧ iv = .int .i64 (k : Int) ∧ Hid (Below w3.heap.size w3 wr)) (fun iv _ => xs.length - (intOf iv).toNat)
      case atStart => exact ⟨0, Nat.zero_le _, rfl, Lib.hid (Below.refl _ _)⟩
      case round =>
        obtain ⟨k, hk, rfl, HW⟩ := hrel
        have HWW := Lib.hid (HB3.out.trans (HW.out.mono HB3.out.size))
        by_cases hlt : k < xs.length
        · have h0 : 0 < xs.length := by omega
          obtain ⟨ad, rfl, _⟩ := (HV1.out _ HWW.out).at hlt
          obtain ⟨bd, rfl, _⟩ := (H3.out _ HW.out).at hlt
          have hki : (k : Int) < (xs.length : Int) := by omega
          have hk0 : (0 : Int) ≤ (k : Int) := by omega
          have h0i : (0 : Int) < (xs.length : Int) := by omega
          have hld : (loadCells (ad.add (k * 23)) 23).run Try.prog wr = .ok (xs[k].cells).toArray wr := row_load (HV1.out _ HWW.out) k hlt
          have HL0 : Hid (∀ W, Below w.heap.size w W → (loadCells ad 23).run Try.prog W = .ok (xs[0].cells).toArray W) := Lib.hid (fun W hW => by have := row_load (P := Try.prog) (HV1.out W hW) 0 h0; rw [Nat.zero_mul] at this; exact this)
          have HLK : Hid (∀ W, Below w3.heap.size w3 W → (loadCells (bd.add (k * 23)) 23).run Try.prog W = .ok (xs[k].cells).toArray W) := Lib.hid (fun W hW => row_load (H3.out W hW) k hlt)
          have HLZ : Hid (∀ W, Below w3.heap.size w3 W → (loadCells bd 23).run Try.prog W = .ok (xs[0].cells).toArray W) := Lib.hid (fun W hW => by have := row_load (P := Try.prog) (H3.out W hW) 0 h0; rw [Nat.zero_mul] at this; exact this)
          have KM1 := Lib.hid (KM.out xs[k] (List.getElem_mem hlt))
          have KR1 := Lib.hid (KRM.out xs[k] (List.getElem_mem hlt))
          have KS1 := Lib.hid (KS.out xs[k] (List.getElem_mem hlt) xs[0] (List.getElem_mem h0))
          have KT1 := Lib.hid (KRS.out xs[k] (List.getElem_mem hlt) xs[0] (List.getElem_mem h0))
          generalize xs[0] = x0 at HL0 HLZ KS1 KT1
          generalize xs[k] = x at hld HLK KM1 KR1 KS1 KT1
          obtain ⟨w4, s4, k4, b4⟩ := HBX.out wr x
          have HB4 := Lib.hid (HWW.out.trans (b4.mono HWW.out.size))
          have HC4 := Lib.hid (HW.out.trans (b4.mono HW.out.size))
          have HBL : Hid (∀ W, Below w4.heap.size w4 W → (loadCells ⟨wr.heap.size, 0, none⟩ 23).run Try.prog W = .ok x.cells.toArray W) := Lib.hid (fun W hW => (k4.below hW).load 0 23 x.cells (by rw [List.drop_zero, List.take_of_length_le (by rw [Cd.len]; decide)]) (Cd.len x))
          have hsl : (x.cells.toArray).toList = x.cells := rfl
          have hsz : (x.cells.toArray).size = 23 := Cd.len x
          have hsz0 : (x0.cells.toArray).size = 23 := Cd.len x0
          clear k4 b4
          generalize x.cells.toArray = xa at hld HLK KM1 KR1 KS1 KT1 HBL hsl hsz
          generalize x0.cells.toArray = ya at HL0 HLZ KS1 KT1 hsz0
          generalize memS zone (z x) = q1 at KM1 KR1
          generalize sameB x x0 (z x) (z x0) = q2 at KS1 KT1
          have HLD : Hid (∀ W, Below w4.heap.size w4 W → (loadCells ⟨wr.heap.size, 0, none⟩ 23).run Try.prog W = .ok xa W ∧ (loadCells (bd.add (k * 23)) 23).run Try.prog W = .ok xa W ∧ (loadCells ad 23).run Try.prog W = .ok ya W ∧ (loadCells bd 23).run Try.prog W = .ok ya W) := Lib.hid (fun W hW => ⟨HBL.out W hW, HLK.out W (HC4.out.trans (hW.mono HC4.out.size)), HL0.out W (HB4.out.trans (hW.mono HB4.out.size)), HLZ.out W (HC4.out.trans (hW.mono HC4.out.size))⟩)
          have hq1 : (q1 != q1) = false := by cases q1 <;> rfl
          have hq2 : (q2 != q2) = false := by cases q2 <;> rfl
          have HD4 : Hid (Below w4.heap.size w4 w4.drew) := Lib.hid (Below.refl w4.heap.size w4).drew
          obtain ⟨l1, l2, l3, l4⟩ := HLD.out _ (Below.refl _ _)
          go_wp2
          go_region_held3 (fun W : World => (loadCells ⟨wr.heap.size, 0, none⟩ 23).run Try.prog W = .ok xa W ∧ (loadCells (bd.add (k * 23)) 23).run Try.prog W = .ok xa W ∧ (loadCells ad 23).run Try.prog W = .ok ya W ∧ (loadCells bd 23).run Try.prog W = .ok ya W) (first | exact ⟨l1, l2, l3, l4⟩ | exact HLD.out _ HD4.out | exact HLD.out _ HT5.out | exact HLD.out _ HT6.out | exact HLD.out _ HT7.out | exact HLD.out _ HT8.out) (first
            | (go_at_call 27; ((with_reducible refine (KM1.out _ HB4.out.drew).mono ?_); rintro e w5 ⟨rfl, hb5⟩; have HT5 : Hid (Below w4.heap.size w4 w5) := Lib.hid (HD4.out.trans hb5); have HB5 := Lib.hid (HB4.out.trans (HT5.out.mono HB4.out.size)); clear hb5))
            | (go_at_call 28; ((with_reducible refine (KR1.out _ HB5.out).mono ?_); rintro e w6 ⟨rfl, hb6⟩; have HT6 := Lib.hid (HT5.out.trans (hb6.mono HT5.out.size)); have HB6 := Lib.hid (HB5.out.trans (hb6.mono HB5.out.size)); clear hb6))
            | (go_at_call 17; ((with_reducible refine (KS1.out _ HB6.out).mono ?_); rintro e w7 ⟨rfl, hb7⟩; have HT7 := Lib.hid (HT6.out.trans (hb7.mono HT6.out.size)); have HB7 := Lib.hid (HB6.out.trans (hb7.mono HB6.out.size)); clear hb7))
            | (go_at_call 29; ((with_reducible refine (KT1.out _ HB7.out).mono ?_); rintro e w8 ⟨rfl, hb8⟩; have HT8 := Lib.hid (HT7.out.trans (hb8.mono HT7.out.size)); clear hb8)))
          all_goals go_wp2
          all_goals
            go_roundw
            case rel => exact ⟨k + 1, by omega, by go_num, Lib.hid (HC4.out.trans (HT8.out.mono HC4.out.size))⟩
            case measure => simp [intOf]; omega
        · have hq : (ct == ct) = true := by cases ct <;> rfl
          go_wp2_with (first
            | (go_at_call 30; ((with_reducible refine (KC.out _ HWW.out).mono ?_); rintro e w10 ⟨rfl, hb10⟩; have HS10 := Lib.hid hb10; have HB10 := Lib.hid (HWW.out.trans (hb10.mono HWW.out.size)); have HT10 := Lib.hid (HW.out.trans (hb10.mono HW.out.size)); clear hb10))
            | (go_at_call 31; ((with_reducible refine (KRC.out _ _ HB10.out (H3.out _ HT10.out)).mono ?_); rintro e w11 ⟨rfl, hb11⟩; have HS11 := Lib.hid hb11; have HB11 := Lib.hid (HB10.out.trans (hb11.mono HB10.out.size)); have HT11 := Lib.hid (HT10.out.trans (hb11.mono HT10.out.size)); clear hb11))
            | (go_at_call 25; ((with_reducible refine (KF.out _ HB11.out).mono ?_); rintro e w12 ⟨⟨v12, rfl, hr12⟩, hb12⟩; have HR12 := Lib.hid hr12; have HS12 := Lib.hid hb12; have HB12 := Lib.hid (HB11.out.trans (hb12.mono HB11.out.size)); have HT12 := Lib.hid (HT11.out.trans (hb12.mono HT11.out.size)); clear hr12 hb12))
            | (go_at_call 11; ((with_reducible refine (KO.out _ _ _ HR12.out HMF.out.2).mono ?_); rintro e w13 ⟨⟨v13, rfl, hr13⟩, hb13⟩; have HR13 := Lib.hid hr13; have HS13 := Lib.hid hb13; have HB13 := Lib.hid (HB12.out.trans (hb13.mono HB12.out.size)); have HT13 := Lib.hid (HT12.out.trans (hb13.mono HT12.out.size)); clear hr13 hb13))
            | (go_at_call 32; ((with_reducible refine (KRF.out _ _ HB13.out (H3.out _ HT13.out)).mono ?_); rintro e w14 ⟨⟨v14, rfl, hr14⟩, hb14⟩; have HR14 := Lib.hid hr14; have HS14 := Lib.hid hb14; have HB14 := Lib.hid (HB13.out.trans (hb14.mono HB13.out.size)); have HT14 := Lib.hid (HT13.out.trans (hb14.mono HT13.out.size)); have HQ13 := Lib.hid (HR13.out.below hb14); clear hr14 hb14))
            | (go_at_call 12; ((with_reducible refine (KA2.out _ _ _ _ HB14.out HMF.out.1 HMF.out.2 HQ13.out HR14.out).mono ?_); rintro e w15 ⟨rfl, hb15⟩; have HS15 := Lib.hid hb15; have HB15 := Lib.hid (HB14.out.trans (hb15.mono HB14.out.size)); have HT15 := Lib.hid (HT14.out.trans (hb15.mono HT14.out.size)); clear hb15))
            | (go_at_call 26; ((with_reducible refine (KZ.out _ HB15.out).mono ?_); rintro e w16 ⟨⟨v16, rfl, hr16⟩, hb16⟩; have HR16 := Lib.hid hr16; have HS16 := Lib.hid hb16; have HB16 := Lib.hid (HB15.out.trans (hb16.mono HB15.out.size)); have HT16 := Lib.hid (HT15.out.trans (hb16.mono HT15.out.size)); clear hr16 hb16))
            | (go_at_call 34; ((with_reducible refine (KRZ.out _ _ HB16.out (H3.out _ HT16.out)).mono ?_); rintro e w17 ⟨⟨v17, rfl, hr17⟩, hb17⟩; have HR17 := Lib.hid hr17; have HS17 := Lib.hid hb17; have HB17 := Lib.hid (HB16.out.trans (hb17.mono HB16.out.size)); have HT17 := Lib.hid (HT16.out.trans (hb17.mono HT16.out.size)); have HQ16 := Lib.hid (HR16.out.below hb17); clear hr17 hb17))
            | (go_at_call 33; ((with_reducible refine (KT.out _ _ _ HQ16.out HR17.out).mono ?_); rintro e w18 ⟨rfl, hb18⟩; have HS18 := Lib.hid hb18; have HB18 := Lib.hid (HB17.out.trans (hb18.mono HB17.out.size)); have HT18 := Lib.hid (HT17.out.trans (hb18.mono HT17.out.size)); clear hb18))
            | (go_at_call 11; ((with_reducible refine (KO.out _ _ _ (HV1.out _ HB18.out) HMX.out.2).mono ?_); rintro e w19 ⟨⟨v19, rfl, hr19⟩, hb19⟩; have HR19 := Lib.hid hr19; have HS19 := Lib.hid hb19; have HB19 := Lib.hid (HB18.out.trans (hb19.mono HB18.out.size)); have HT19 := Lib.hid (HT18.out.trans (hb19.mono HT18.out.size)); clear hr19 hb19))
            | (go_at_call 12; ((with_reducible refine (KA2.out _ _ _ _ HB19.out HMX.out.1 HMX.out.2 HR19.out (H3.out _ HT19.out)).mono ?_); rintro e w20 ⟨rfl, hb20⟩; have HS20 := Lib.hid hb20; have HB20 := Lib.hid (HB19.out.trans (hb20.mono HB19.out.size)); clear hb20)))
          go_ret
          exact ⟨by simp, HB20.out⟩
theorem hfilter_row (W : World) (v : Value) (hv : IsCands W v) (zone : ByteArray) (hz : zone.size ≤ 140737488351232) :
    Calls Try.prog 7 #[v, .string zone] W fun e W' => e = .returned (.bool true) ∧ Below W.heap.size W W' := by
  obtain ⟨xs, z, hc, hzs⟩ := hv
  exact hfilter_calls v zone xs z W hc hzs (by unfold maxLen; omega)
end Go.Proofs.Ytcfgffkjbkpfhaa.Cand
