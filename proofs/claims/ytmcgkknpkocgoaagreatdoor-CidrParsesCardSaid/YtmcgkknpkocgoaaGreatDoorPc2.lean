/- linkboyref03.Contains; both Covers, both Compares of cidrs. -/
import Derived.Test.YtmcgkknpkocgoaaGreatDoorPc1
import Derived.Test.YtmcgkknpkocgoaaGreatDoorTieC
import Derived.Test.YtmcgkknpkocgoaaGreatDoorPf1
namespace Go.Proofs.YtmcgkknpkocgoaaGreatDoor.Ad
open Go.RowKit Go.Proofs.YtmcgkknpkocgoaaGreatDoor.Mem Go.Proofs.YtmcgkknpkocgoaaGreatDoor.Num Go.Proofs.YtmcgkknpkocgoaaGreatDoor.Err Go.Proofs.YtmcgkknpkocgoaaGreatDoor.AdP
open Go.Proofs.YtmcgkknpkocgoaaGreatDoor.Head (pad pad_len adCells_one adCells_len infoAd splice_ad)
open Go.Proofs.YtmcgkknpkocgoaaGreatDoor.Addr (adV adA adCells adA_size cell_box load_box cell_six ptA ptV pt_loads)
open Go.Proofs.YtmcgkknpkocgoaaGreatDoor.Tie (cmpAd cmpI orL acompare_calls racompare_calls icompare_calls or_calls)
set_option linter.unusedVariables false
set_option linter.unusedSimpArgs false
set_option maxRecDepth 100000
attribute [-go_sem] Builtin.append_ loadCells loadCellsFrom storeCells run_eql_struct
set_option maxHeartbeats 8000000 in
theorem rcontains_calls (six : Bool) (b : List UInt8) (hb : b.length = 16) (n : Int) (s2 : Bool) (c : List UInt8) (hc : c.length = 16) (w : World) :
    Calls Tryz.prog 63 #[ptV six b n, adV s2 c] w fun e w' => e = .returned (.bool (containsC six b n s2 c)) ∧ Below w.heap.size w w' := by
  have HLD := Lib.hid (fun W h => cd2_of six b n hb s2 c hc w W h)
  have HBD : Hid (∀ W, Below ((w.alloc (.cells (ptA six b n) 74)).alloc (.cells (adA s2 c) 24)).heap.size ((w.alloc (.cells (ptA six b n) 74)).alloc (.cells (adA s2 c) 24)) W → Below w.heap.size w W) := Lib.hid (fun W h => below_allocd (below_allocd h))
  have KR : Hid (∀ W, Calls Tryz.prog 59 #[.agg (ptA six b n)] W fun e w' => e = .returned (.bool (rightC six b n)) ∧ Below W.heap.size W w') := Lib.hid (fun W => rright3_calls six b hb n W)
  have KA : Hid (∀ W, Calls Tryz.prog 17 #[.agg (adA s2 c)] W fun e w' => e = .returned (.bool (rightA s2 c)) ∧ Below W.heap.size W w') := Lib.hid (fun W => rright_calls' s2 c hc W)
  have KB1 : Hid (∀ (i : Nat), i < 128 → ∀ W, Calls Tryz.prog 112 #[.agg (adA s2 c), .int .i64 (i : Int)] W fun e w' => e = .returned (.int .i64 (bitA c i : Int)) ∧ Below W.heap.size W w') := Lib.hid (fun i hi W => bit_calls s2 c hc i hi W)
  have KB2 : Hid (∀ (i : Nat), i < 128 → ∀ W, Calls Tryz.prog 112 #[.agg (adA six b), .int .i64 (i : Int)] W fun e w' => e = .returned (.int .i64 (bitA b i : Int)) ∧ Below W.heap.size W w') := Lib.hid (fun i hi W => bit_calls six b hb i hi W)
  have HEQ : Hid (rightC six b n = true → (0 ≤ n ∧ n ≤ 128) ∧ (cutL c n.toNat = b ↔ ∀ i, i < n.toNat → bitA c i = bitA b i)) := Lib.hid (fun h => by
    unfold rightC at h
    rw [Bool.and_eq_true, Bool.and_eq_true, Bool.and_eq_true, decide_eq_true_iff, decide_eq_true_iff, decide_eq_true_iff] at h
    have h2 := width_le six
    exact ⟨⟨h.2.1, by omega⟩, cutL_same c b n.toNat 16 hc hb (by omega) h.2.2.2⟩)
  have hsz := ptA_size six b n hb
  have hsz2 := adA_size six b hb
  have hsz4 := adA_size s2 c hc
  obtain ⟨hl0, hl1, hl2, hl3, hl4, hl5⟩ := HLD.out _ (Below.refl _ _)
  show Calls Tryz.prog 63 #[.agg (ptA six b n), .agg (adA s2 c)] w fun e w' => e = .returned (.bool (containsC six b n s2 c)) ∧ Below w.heap.size w w'
  unfold containsC
  generalize hza : decide (cutL c n.toNat = b) = z at *
  have HZ := Lib.hid hza
  clear hza
  generalize adA six b = ca at *
  generalize adA s2 c = da at *
  generalize ptA six b n = pa at *
  generalize rightC six b n = r at *
  generalize rightA s2 c = a2 at *
  cases r with
  | false =>
    rw [Bool.false_and]
    go_enter Tryz.func63, Tryz.ntmps63
    go_wp2_with (go_at_call 59; ((with_reducible refine (KR.out _).mono ?_); rintro e w3 ⟨rfl, hb3⟩; have HB3 := Lib.hid hb3; clear hb3))
    go_ret
    exact ⟨by (first | rfl | simp), HBD.out _ HB3.out⟩
  | true =>
    rw [Bool.true_and]
    cases a2 with
    | false =>
      rw [Bool.false_and]
      go_enter Tryz.func63, Tryz.ntmps63
      go_wp2_with (first
        | (go_at_call 59; ((with_reducible refine (KR.out _).mono ?_); rintro e w3 ⟨rfl, hb3⟩; have HB3 := Lib.hid hb3; obtain ⟨k0, k1, k2, k3, k4, k5⟩ := HLD.out _ hb3; clear hb3))
        | (go_at_call 17; ((with_reducible refine (KA.out _).mono ?_); rintro e w4 ⟨rfl, hb4⟩; have HB4 := Lib.hid (HB3.out.trans (hb4.mono HB3.out.size)); clear hb4)))
      go_ret
      exact ⟨by (first | rfl | simp), HBD.out _ HB4.out⟩
    | true =>
      rw [Bool.true_and]
      obtain ⟨⟨hn0, hn1⟩, heq⟩ := HEQ.out rfl
      by_cases hs : s2 = six
      · subst hs
        have hse : (s2 == s2) = true := by simp
        rw [hse, Bool.true_and]
        have HQ := Lib.hid heq
        clear heq HEQ
        go_enter Tryz.func63, Tryz.ntmps63
        go_wp2_with (first
          | (go_at_call 59; ((with_reducible refine (KR.out _).mono ?_); rintro e w3 ⟨rfl, hb3⟩; have HB3 := Lib.hid hb3; obtain ⟨k0, k1, k2, k3, k4, k5⟩ := HLD.out _ hb3; clear hb3))
          | (go_at_call 17; ((with_reducible refine (KA.out _).mono ?_); rintro e w4 ⟨rfl, hb4⟩; have HB4 := Lib.hid (HB3.out.trans (hb4.mono HB3.out.size)); obtain ⟨j0, j1, j2, j3, j4, j5⟩ := HLD.out _ HB4.out; clear hb4)))
        clear k0 k1 k2 k3 k4 k5 j0 j1 j2 j3 j4 j5 hl0 hl1 hl2 hl3 hl4 hl5
        obtain ⟨W0, hW0⟩ : ∃ W0, W0 = (w.alloc (.cells pa 74)).alloc (.cells da 24) := ⟨_, rfl⟩
        rw [← hW0] at HLD HBD HB3 HB4
        clear hW0
        go_loopw [5] (fun iv wr => ∃ (i : Nat) (I : Int), iv = .int .i64 I ∧ Hid (I = (i : Int)) ∧ Hid (i ≤ n.toNat) ∧ Hid (∀ j, j < i → bitA c j = bitA b j) ∧ Hid (Below W0.heap.size W0 wr)) (fun iv _ => n.toNat - (intOf iv).toNat)
        case atStart => exact ⟨0, 0, rfl, Lib.hid rfl, Lib.hid (Nat.zero_le _), Lib.hid (fun j hj => by omega), HB4⟩
        case round =>
          obtain ⟨i, I, rfl, HI, HL, HE, HB⟩ := hrel
          have hI0 : (0 : Int) ≤ I := by have := HI.out; omega
          obtain ⟨m0, m1, m2, m3, m4, m5⟩ := HLD.out _ HB.out
          by_cases hlt : I < n
          · have hin : i < n.toNat := by have := HI.out; omega
            have hI128 : I < 128 := by omega
            have K1 := Lib.hid (KB1.out i (by omega))
            have K2 := Lib.hid (KB2.out i (by omega))
            have hie := HI.out
            rw [← hie] at K1 K2
            clear hie
            have HW : Hid (∀ W, Below wr.heap.size wr W → Below W0.heap.size W0 W) := Lib.hid (fun W h => HB.out.trans (h.mono HB.out.size))
            clear m0 m1 m3 m4 m5
            have HI2 := Lib.hid (show I + 1 = ((i + 1 : Nat) : Int) by have := HI.out; omega)
            have HL2 : Hid (i + 1 ≤ n.toNat) := Lib.hid (by omega)
            have HM := Lib.hid (show n.toNat - (I + 1).toNat < n.toNat - I.toNat by omega)
            by_cases hg : bitA c i = bitA b i
            · have HE2 : Hid (∀ j, j < i + 1 → bitA c j = bitA b j) := Lib.hid (fun j hj => by
                by_cases hji : j = i
                · rw [hji]; exact hg
                · exact HE.out j (by omega))
              rw [hg] at K1
              clear hg hin
              generalize bitA b i = G at *
              go_upto_region 6 with (fail)
              go_region_held3 (fun W : World => (loadCells ⟨w.heap.size, 0, none⟩ 17).run Tryz.prog W = .ok ca W ∧ (loadCells ⟨w.heap.size + 1, 0, none⟩ 17).run Tryz.prog W = .ok da W) (first | exact ⟨(HLD.out _ (HW.out _ (below_own_drew _))).1, (HLD.out _ (HW.out _ (below_own_drew _))).2.2.2.2.1⟩ | exact ⟨(HLD.out _ HB7.out).1, (HLD.out _ HB7.out).2.2.2.2.1⟩ | exact ⟨(HLD.out _ HB6.out).1, (HLD.out _ HB6.out).2.2.2.2.1⟩ | go_keep) (first
                | (go_at_call 112; ((with_reducible refine (K1.out _).mono ?_); rintro e w6 ⟨rfl, hb6⟩; (first | (have HB7 := Lib.hid (HB6.out.trans (hb6.mono HB6.out.size))) | (have HB6 := Lib.hid (HW.out _ (below_drewd hb6)))); clear hb6))
                | (go_at_call 112; ((with_reducible refine (K2.out _).mono ?_); rintro e w7 ⟨rfl, hb7⟩; (first | (have HB7 := Lib.hid (HB6.out.trans (hb7.mono HB6.out.size))) | (have HB6 := Lib.hid (HW.out _ (below_drewd hb7)))); clear hb7)))
              all_goals go_wp2
              all_goals go_roundw
              all_goals first
                | exact ⟨i + 1, I + 1, by (first | rfl | go_num), HI2, HL2, HE2, HB7⟩
                | exact HM.out
            · have HF := Lib.hid (show z = false by rw [← HZ.out]; exact decide_eq_false (fun h => hg (HQ.out.1 h i hin)))
              have hq0 : ((bitA c i : Int) == (bitA b i : Int)) = false := beq_eq_false_iff_ne.mpr (by omega)
              have hq1 : ((bitA c i : Int) != (bitA b i : Int)) = true := bne_iff_ne.mpr (by omega)
              have hq2 : (bitA c i == bitA b i) = false := beq_eq_false_iff_ne.mpr hg
              have hq3 : (bitA c i != bitA b i) = true := bne_iff_ne.mpr hg
              clear hin
              generalize bitA b i = G at *
              generalize bitA c i = H at *
              go_upto_region 6 with (fail)
              go_region_held3 (fun W : World => (loadCells ⟨w.heap.size, 0, none⟩ 17).run Tryz.prog W = .ok ca W ∧ (loadCells ⟨w.heap.size + 1, 0, none⟩ 17).run Tryz.prog W = .ok da W) (first | exact ⟨(HLD.out _ (HW.out _ (below_own_drew _))).1, (HLD.out _ (HW.out _ (below_own_drew _))).2.2.2.2.1⟩ | exact ⟨(HLD.out _ HB7.out).1, (HLD.out _ HB7.out).2.2.2.2.1⟩ | exact ⟨(HLD.out _ HB6.out).1, (HLD.out _ HB6.out).2.2.2.2.1⟩ | go_keep) (first
                | (go_at_call 112; ((with_reducible refine (K1.out _).mono ?_); rintro e w6 ⟨rfl, hb6⟩; (first | (have HB7 := Lib.hid (HB6.out.trans (hb6.mono HB6.out.size))) | (have HB6 := Lib.hid (HW.out _ (below_drewd hb6)))); clear hb6))
                | (go_at_call 112; ((with_reducible refine (K2.out _).mono ?_); rintro e w7 ⟨rfl, hb7⟩; (first | (have HB7 := Lib.hid (HB6.out.trans (hb7.mono HB6.out.size))) | (have HB6 := Lib.hid (HW.out _ (below_drewd hb7)))); clear hb7)))
              all_goals go_wp2
              all_goals (go_ret; exact ⟨by rw [HF.out]; rfl, HBD.out _ HB7.out⟩)
          · have HT := Lib.hid (show z = true by rw [← HZ.out]; exact decide_eq_true (HQ.out.2 (fun j hj => HE.out j (by have := HI.out; omega))))
            go_wp2
            go_ret
            exact ⟨by rw [HT.out]; rfl, HBD.out _ HB.out⟩
      · have hse : (s2 == six) = false := beq_eq_false_iff_ne.mpr hs
        have hse2 : (s2 != six) = true := bne_iff_ne.mpr hs
        rw [hse, Bool.false_and]
        clear heq HEQ
        go_enter Tryz.func63, Tryz.ntmps63
        go_wp2_with (first
          | (go_at_call 59; ((with_reducible refine (KR.out _).mono ?_); rintro e w3 ⟨rfl, hb3⟩; have HB3 := Lib.hid hb3; obtain ⟨k0, k1, k2, k3, k4, k5⟩ := HLD.out _ hb3; clear hb3))
          | (go_at_call 17; ((with_reducible refine (KA.out _).mono ?_); rintro e w4 ⟨rfl, hb4⟩; have HB4 := Lib.hid (HB3.out.trans (hb4.mono HB3.out.size)); obtain ⟨j0, j1, j2, j3, j4, j5⟩ := HLD.out _ HB4.out; clear hb4)))
        go_ret
        exact ⟨by (first | rfl | simp), HBD.out _ HB4.out⟩
/-- Does a cidr contain all of another one? -/
def coversC (six : Bool) (b : List UInt8) (n : Int) (s2 : Bool) (c : List UInt8) (m : Int) : Bool := rightC s2 c m && (decide (n ≤ m) && containsC six b n s2 c)
/-- What is loaded of two cidrs' blocks. -/
theorem cd22_of (six : Bool) (b : List UInt8) (n : Int) (hb : b.length = 16) (s2 : Bool) (c : List UInt8) (m : Int) (hc : c.length = 16) (w W : World) (h : Below ((w.alloc (.cells (ptA six b n) 74)).alloc (.cells (ptA s2 c m) 74)).heap.size ((w.alloc (.cells (ptA six b n) 74)).alloc (.cells (ptA s2 c m) 74)) W) :
    ((loadCells ⟨w.heap.size, 0, none⟩ 17).run Tryz.prog W = .ok (adA six b) W ∧ (loadCells ⟨w.heap.size, 0, none⟩ 18).run Tryz.prog W = .ok (ptA six b n) W ∧ W.cell? ⟨w.heap.size, 17, none⟩ = some (.int .i64 n)) ∧
    (loadCells ⟨w.heap.size + 1, 0, none⟩ 17).run Tryz.prog W = .ok (adA s2 c) W ∧ (loadCells ⟨w.heap.size + 1, 0, none⟩ 18).run Tryz.prog W = .ok (ptA s2 c m) W ∧ W.cell? ⟨w.heap.size + 1, 17, none⟩ = some (.int .i64 m) := by
  have h1 := below_allocd h
  have l1 := cdL_of six b n hb w W h1
  have l2 := cdL_of s2 c m hc (w.alloc (.cells (ptA six b n) 74)) W h
  unfold CdL at l1 l2
  rw [World.size_alloc] at l2
  exact ⟨l1, l2⟩
set_option maxHeartbeats 8000000 in
theorem covers_calls (six : Bool) (b : List UInt8) (hb : b.length = 16) (n : Int) (s2 : Bool) (c : List UInt8) (hc : c.length = 16) (m : Int) (w : World) :
    Calls Tryz.prog 64 #[ptV six b n, ptV s2 c m] w fun e w' => e = .returned (.bool (coversC six b n s2 c m)) ∧ Below w.heap.size w w' := by
  have HLD := Lib.hid (fun W h => cd22_of six b n hb s2 c m hc w W h)
  have HBD : Hid (∀ W, Below ((w.alloc (.cells (ptA six b n) 74)).alloc (.cells (ptA s2 c m) 74)).heap.size ((w.alloc (.cells (ptA six b n) 74)).alloc (.cells (ptA s2 c m) 74)) W → Below w.heap.size w W) := Lib.hid (fun W h => below_allocd (below_allocd h))
  have KR : Hid (∀ W, Calls Tryz.prog 58 #[.agg (ptA s2 c m)] W fun e w' => e = .returned (.bool (rightC s2 c m)) ∧ Below W.heap.size W w') := Lib.hid (fun W => cright_calls s2 c hc m W)
  have KC : Hid (∀ W, Calls Tryz.prog 62 #[.agg (ptA six b n), .agg (adA s2 c)] W fun e w' => e = .returned (.bool (containsC six b n s2 c)) ∧ Below W.heap.size W w') := Lib.hid (fun W => ccontains_calls six b hb n s2 c hc W)
  have hsz := ptA_size six b n hb
  have hsz1 := ptA_size s2 c m hc
  have hsz4 := adA_size s2 c hc
  obtain ⟨⟨hl0, hl1, hl2⟩, hl3, hl4, hl5⟩ := HLD.out _ (Below.refl _ _)
  show Calls Tryz.prog 64 #[.agg (ptA six b n), .agg (ptA s2 c m)] w fun e w' => e = .returned (.bool (coversC six b n s2 c m)) ∧ Below w.heap.size w w'
  unfold coversC
  generalize adA six b = ca at *
  generalize adA s2 c = da at *
  generalize ptA six b n = pa at *
  generalize ptA s2 c m = qa at *
  generalize rightC s2 c m = r at *
  generalize containsC six b n s2 c = k at *
  have HBD0 := Lib.hid (HBD.out _ (Below.refl _ _))
  cases r with
  | false =>
    rw [Bool.false_and]
    go_enter Tryz.func64, Tryz.ntmps64
    go_wp2_with (go_at_call 58; ((with_reducible refine (KR.out _).mono ?_); rintro e w3 ⟨rfl, hb3⟩; have HB3 := Lib.hid hb3; clear hb3))
    go_ret
    exact ⟨by (first | rfl | simp), HBD.out _ HB3.out⟩
  | true =>
    rw [Bool.true_and]
    by_cases hnm : n ≤ m
    · have d0 : decide (n ≤ m) = true := decide_eq_true hnm
      rw [d0, Bool.true_and]
      go_enter Tryz.func64, Tryz.ntmps64
      go_wp2_with (first
        | (go_at_call 58; ((with_reducible refine (KR.out _).mono ?_); rintro e w3 ⟨rfl, hb3⟩; have HB3 := Lib.hid hb3; obtain ⟨⟨k0, k1, k2⟩, k3, k4, k5⟩ := HLD.out _ hb3; clear hb3))
        | (go_at_call 62; ((with_reducible refine (KC.out _).mono ?_); rintro e w4 ⟨rfl, hb4⟩; have HB4 := Lib.hid (HB3.out.trans (hb4.mono HB3.out.size)); clear hb4)))
      go_ret
      exact ⟨by (first | rfl | simp), HBD.out _ HB4.out⟩
    · have d0 : decide (n ≤ m) = false := decide_eq_false hnm
      rw [d0, Bool.false_and]
      go_enter Tryz.func64, Tryz.ntmps64
      go_wp2_with (go_at_call 58; ((with_reducible refine (KR.out _).mono ?_); rintro e w3 ⟨rfl, hb3⟩; have HB3 := Lib.hid hb3; obtain ⟨⟨k0, k1, k2⟩, k3, k4, k5⟩ := HLD.out _ hb3; clear hb3))
      go_ret
      exact ⟨by (first | rfl | simp), HBD.out _ HB3.out⟩
set_option maxHeartbeats 8000000 in
theorem rcovers_calls (six : Bool) (b : List UInt8) (hb : b.length = 16) (n : Int) (s2 : Bool) (c : List UInt8) (hc : c.length = 16) (m : Int) (w : World) :
    Calls Tryz.prog 65 #[ptV six b n, ptV s2 c m] w fun e w' => e = .returned (.bool (coversC six b n s2 c m)) ∧ Below w.heap.size w w' := by
  have HLD := Lib.hid (fun W h => cd22_of six b n hb s2 c m hc w W h)
  have HBD : Hid (∀ W, Below ((w.alloc (.cells (ptA six b n) 74)).alloc (.cells (ptA s2 c m) 74)).heap.size ((w.alloc (.cells (ptA six b n) 74)).alloc (.cells (ptA s2 c m) 74)) W → Below w.heap.size w W) := Lib.hid (fun W h => below_allocd (below_allocd h))
  have KR : Hid (∀ W, Calls Tryz.prog 59 #[.agg (ptA s2 c m)] W fun e w' => e = .returned (.bool (rightC s2 c m)) ∧ Below W.heap.size W w') := Lib.hid (fun W => rright3_calls s2 c hc m W)
  have KC : Hid (∀ W, Calls Tryz.prog 63 #[.agg (ptA six b n), .agg (adA s2 c)] W fun e w' => e = .returned (.bool (containsC six b n s2 c)) ∧ Below W.heap.size W w') := Lib.hid (fun W => rcontains_calls six b hb n s2 c hc W)
  have hsz := ptA_size six b n hb
  have hsz1 := ptA_size s2 c m hc
  have hsz4 := adA_size s2 c hc
  obtain ⟨⟨hl0, hl1, hl2⟩, hl3, hl4, hl5⟩ := HLD.out _ (Below.refl _ _)
  show Calls Tryz.prog 65 #[.agg (ptA six b n), .agg (ptA s2 c m)] w fun e w' => e = .returned (.bool (coversC six b n s2 c m)) ∧ Below w.heap.size w w'
  unfold coversC
  generalize adA six b = ca at *
  generalize adA s2 c = da at *
  generalize ptA six b n = pa at *
  generalize ptA s2 c m = qa at *
  generalize rightC s2 c m = r at *
  generalize containsC six b n s2 c = k at *
  cases r with
  | false =>
    rw [Bool.false_and]
    go_enter Tryz.func65, Tryz.ntmps65
    go_wp2_with (go_at_call 59; ((with_reducible refine (KR.out _).mono ?_); rintro e w3 ⟨rfl, hb3⟩; have HB3 := Lib.hid hb3; clear hb3))
    go_ret
    exact ⟨by (first | rfl | simp), HBD.out _ HB3.out⟩
  | true =>
    rw [Bool.true_and]
    by_cases hnm : n ≤ m
    · have d0 : decide (n ≤ m) = true := decide_eq_true hnm
      rw [d0, Bool.true_and]
      cases k
      all_goals
        go_enter Tryz.func65, Tryz.ntmps65
        go_wp2_with (first
          | (go_at_call 59; ((with_reducible refine (KR.out _).mono ?_); rintro e w3 ⟨rfl, hb3⟩; have HB3 := Lib.hid hb3; obtain ⟨⟨k0, k1, k2⟩, k3, k4, k5⟩ := HLD.out _ hb3; clear hb3))
          | (go_at_call 63; ((with_reducible refine (KC.out _).mono ?_); rintro e w4 ⟨rfl, hb4⟩; have HB4 := Lib.hid (HB3.out.trans (hb4.mono HB3.out.size)); obtain ⟨⟨j0, j1, j2⟩, j3, j4, j5⟩ := HLD.out _ HB4.out; clear hb4)))
        go_ret
        exact ⟨by (first | rfl | simp), HBD.out _ HB4.out⟩
    · have d0 : decide (n ≤ m) = false := decide_eq_false hnm
      rw [d0, Bool.false_and]
      cases k
      all_goals
        go_enter Tryz.func65, Tryz.ntmps65
        go_wp2_with (first
          | (go_at_call 59; ((with_reducible refine (KR.out _).mono ?_); rintro e w3 ⟨rfl, hb3⟩; have HB3 := Lib.hid hb3; obtain ⟨⟨k0, k1, k2⟩, k3, k4, k5⟩ := HLD.out _ hb3; clear hb3))
          | (go_at_call 63; ((with_reducible refine (KC.out _).mono ?_); rintro e w4 ⟨rfl, hb4⟩; have HB4 := Lib.hid (HB3.out.trans (hb4.mono HB3.out.size)); obtain ⟨⟨j0, j1, j2⟩, j3, j4, j5⟩ := HLD.out _ HB4.out; clear hb4)))
        go_ret
        exact ⟨by (first | rfl | simp), HBD.out _ HB4.out⟩
/-- Cidrs held against each other. -/
def cmpC (six : Bool) (b : List UInt8) (n : Int) (s2 : Bool) (c : List UInt8) (m : Int) : Int := orL [cmpAd six b s2 c, cmpI n m]
set_option maxHeartbeats 8000000 in
theorem ccompare_calls (six : Bool) (b : List UInt8) (hb : b.length = 16) (n : Int) (s2 : Bool) (c : List UInt8) (hc : c.length = 16) (m : Int) (w : World) :
    Calls Tryz.prog 66 #[ptV six b n, ptV s2 c m] w fun e w' => e = .returned (.int .i64 (cmpC six b n s2 c m)) ∧ Below w.heap.size w w' := by
  have HLD := Lib.hid (fun W h => cd22_of six b n hb s2 c m hc w W h)
  have HBD : Hid (∀ W, Below ((w.alloc (.cells (ptA six b n) 74)).alloc (.cells (ptA s2 c m) 74)).heap.size ((w.alloc (.cells (ptA six b n) 74)).alloc (.cells (ptA s2 c m) 74)) W → Below w.heap.size w W) := Lib.hid (fun W h => below_allocd (below_allocd h))
  have K1 : Hid (∀ W, Calls Tryz.prog 21 #[.agg (adA six b), .agg (adA s2 c)] W fun e w' => e = .returned (.int .i64 (cmpAd six b s2 c)) ∧ Below W.heap.size W w') := Lib.hid (fun W => acompare_calls six b hb s2 c hc W)
  have K6 : Hid (∀ W, Calls Tryz.prog 114 #[.int .i64 n, .int .i64 m] W fun e w' => e = .returned (.int .i64 (cmpI n m)) ∧ W = w') := Lib.hid (fun W => icompare_calls _ _ W)
  have KO : Hid (∀ (W : World) (p q : Int), Calls Tryz.prog 113 #[.slice (some ⟨W.heap.size, 0, none⟩) 2 2] (W.alloc (.cells #[.int .i64 p, .int .i64 q] 3)) fun e w' => e = .returned (.int .i64 (orL [p, q])) ∧ Below W.heap.size W w') := Lib.hid (fun W p q => (or_calls _ _ _ (Own.lit W 0 eInt 3 [p, q] 2 rfl _ rfl (Nat.zero_le _) (by simp)).row (by simp)).mono (by rintro e w' ⟨rfl, rfl⟩; exact ⟨rfl, (Below.refl _ _).alloc (Nat.le_refl _) _⟩))
  have hsz := ptA_size six b n hb
  have hsz1 := ptA_size s2 c m hc
  have hsz3 := adA_size six b hb
  have hsz4 := adA_size s2 c hc
  obtain ⟨W2, hW2⟩ : ∃ W2, W2 = (w.alloc (.cells (ptA six b n) 74)).alloc (.cells (ptA s2 c m) 74) := ⟨_, rfl⟩
  show Calls Tryz.prog 66 #[.agg (ptA six b n), .agg (ptA s2 c m)] w fun e w' => e = .returned (.int .i64 (cmpC six b n s2 c m)) ∧ Below w.heap.size w w'
  unfold cmpC
  have HW := Lib.hid hW2
  rw [← hW2] at HLD HBD
  clear hW2
  generalize adA six b = ca at *
  generalize adA s2 c = da at *
  generalize ptA six b n = pa at *
  generalize ptA s2 c m = qa at *
  generalize cmpAd six b s2 c = p at *
  generalize cmpI n m = q at *
  go_enter Tryz.func66, Tryz.ntmps66
  go_upto_region 1 with (fail)
  rw [← HW.out]
  have HD : Hid (Below W2.heap.size W2 W2.drew) := Lib.hid (Below.refl W2.heap.size W2).drew
  go_region_held3 (fun W : World => ((loadCells ⟨w.heap.size, 0, none⟩ 17).run Tryz.prog W = .ok ca W ∧ (loadCells ⟨w.heap.size, 0, none⟩ 18).run Tryz.prog W = .ok pa W ∧ W.cell? ⟨w.heap.size, 17, none⟩ = some (.int .i64 n)) ∧
    (loadCells ⟨w.heap.size + 1, 0, none⟩ 17).run Tryz.prog W = .ok da W ∧ (loadCells ⟨w.heap.size + 1, 0, none⟩ 18).run Tryz.prog W = .ok qa W ∧ W.cell? ⟨w.heap.size + 1, 17, none⟩ = some (.int .i64 m)) (first | exact HLD.out _ HD.out | exact HLD.out _ HB9.out | exact HLD.out _ HB8.out | exact HLD.out _ HB1.out) (first
    | (go_at_call 21; ((with_reducible refine (K1.out _).mono ?_); rintro e w1 ⟨rfl, hb1⟩; have HB1 : Hid (Below W2.heap.size W2 w1) := Lib.hid (HD.out.trans hb1); have HB8 := Lib.hid (HB1.out.alloc HB1.out.size (.cells #[.int .i64 p, .int .i64 q] 3)); clear hb1))
    | (go_at_call 114; ((with_reducible refine (K6.out _).mono ?_); rintro e w6 ⟨rfl, rfl⟩))
    | (go_at_call 113; ((with_reducible refine (KO.out _ _ _).mono ?_); rintro e w9 ⟨rfl, hb9⟩; have HB9 := Lib.hid (HB1.out.trans (hb9.mono HB1.out.size)); clear hb9)))
  all_goals go_wp2
  all_goals (go_ret; exact ⟨rfl, HBD.out _ HB9.out⟩)
theorem orL_two (x y : Int) : orL [x, y] = if x ≠ 0 then x else y := by
  unfold orL
  split
  · rfl
  · unfold orL
    split
    · rfl
    · rename_i h; simp at h; unfold orL; exact h.symm
set_option maxHeartbeats 8000000 in
theorem rccompare_calls (six : Bool) (b : List UInt8) (hb : b.length = 16) (n : Int) (s2 : Bool) (c : List UInt8) (hc : c.length = 16) (m : Int) (w : World) :
    Calls Tryz.prog 67 #[ptV six b n, ptV s2 c m] w fun e w' => e = .returned (.int .i64 (cmpC six b n s2 c m)) ∧ Below w.heap.size w w' := by
  have HLD := Lib.hid (fun W h => cd22_of six b n hb s2 c m hc w W h)
  have HBD : Hid (∀ W, Below ((w.alloc (.cells (ptA six b n) 74)).alloc (.cells (ptA s2 c m) 74)).heap.size ((w.alloc (.cells (ptA six b n) 74)).alloc (.cells (ptA s2 c m) 74)) W → Below w.heap.size w W) := Lib.hid (fun W h => below_allocd (below_allocd h))
  have K1 : Hid (∀ W, Calls Tryz.prog 22 #[.agg (adA six b), .agg (adA s2 c)] W fun e w' => e = .returned (.int .i64 (cmpAd six b s2 c)) ∧ Below W.heap.size W w') := Lib.hid (fun W => racompare_calls six b hb s2 c hc W)
  have hsz := ptA_size six b n hb
  have hsz1 := ptA_size s2 c m hc
  have hsz3 := adA_size six b hb
  have hsz4 := adA_size s2 c hc
  obtain ⟨⟨hl0, hl1, hl2⟩, hl3, hl4, hl5⟩ := HLD.out _ (Below.refl _ _)
  show Calls Tryz.prog 67 #[.agg (ptA six b n), .agg (ptA s2 c m)] w fun e w' => e = .returned (.int .i64 (cmpC six b n s2 c m)) ∧ Below w.heap.size w w'
  unfold cmpC
  rw [orL_two]
  unfold cmpI
  generalize adA six b = ca at *
  generalize adA s2 c = da at *
  generalize ptA six b n = pa at *
  generalize ptA s2 c m = qa at *
  generalize cmpAd six b s2 c = p at *
  by_cases hp : p = 0
  · rw [if_neg (by simpa using hp)]
    subst hp
    by_cases h1 : n < m
    · rw [if_pos h1]
      go_enter Tryz.func67, Tryz.ntmps67
      go_wp2_with (go_at_call 22; ((with_reducible refine (K1.out _).mono ?_); rintro e w3 ⟨rfl, hb3⟩; have HB3 := Lib.hid hb3; obtain ⟨⟨k0, k1, k2⟩, k3, k4, k5⟩ := HLD.out _ hb3; clear hb3))
      go_ret
      exact ⟨rfl, HBD.out _ HB3.out⟩
    · rw [if_neg h1]
      by_cases h2 : m < n
      · rw [if_pos h2]
        go_enter Tryz.func67, Tryz.ntmps67
        go_wp2_with (go_at_call 22; ((with_reducible refine (K1.out _).mono ?_); rintro e w3 ⟨rfl, hb3⟩; have HB3 := Lib.hid hb3; obtain ⟨⟨k0, k1, k2⟩, k3, k4, k5⟩ := HLD.out _ hb3; clear hb3))
        go_ret
        exact ⟨rfl, HBD.out _ HB3.out⟩
      · rw [if_neg h2]
        go_enter Tryz.func67, Tryz.ntmps67
        go_wp2_with (go_at_call 22; ((with_reducible refine (K1.out _).mono ?_); rintro e w3 ⟨rfl, hb3⟩; have HB3 := Lib.hid hb3; obtain ⟨⟨k0, k1, k2⟩, k3, k4, k5⟩ := HLD.out _ hb3; clear hb3))
        go_ret
        exact ⟨rfl, HBD.out _ HB3.out⟩
  · rw [if_pos (by simpa using hp)]
    have hq0 : (p == 0) = false := beq_eq_false_iff_ne.mpr hp
    have hq1 : (p != 0) = true := bne_iff_ne.mpr hp
    go_enter Tryz.func67, Tryz.ntmps67
    go_wp2_with (go_at_call 22; ((with_reducible refine (K1.out _).mono ?_); rintro e w3 ⟨rfl, hb3⟩; have HB3 := Lib.hid hb3; obtain ⟨⟨k0, k1, k2⟩, k3, k4, k5⟩ := HLD.out _ hb3; clear hb3))
    go_ret
    exact ⟨rfl, HBD.out _ HB3.out⟩
end Go.Proofs.YtmcgkknpkocgoaaGreatDoor.Ad

/- linkboyref03.Cut; cidr.Of. -/
namespace Go.Proofs.YtmcgkknpkocgoaaGreatDoor.Ad
open Go.RowKit Go.Proofs.YtmcgkknpkocgoaaGreatDoor.Mem Go.Proofs.YtmcgkknpkocgoaaGreatDoor.Num Go.Proofs.YtmcgkknpkocgoaaGreatDoor.Err Go.Proofs.YtmcgkknpkocgoaaGreatDoor.AdP
open Go.Proofs.YtmcgkknpkocgoaaGreatDoor.Head (pad pad_len adCells_one adCells_len infoAd splice_ad)
open Go.Proofs.YtmcgkknpkocgoaaGreatDoor.Addr (adV adA adCells adA_size cell_box load_box cell_six ptA ptV pt_loads)
set_option linter.unusedVariables false
set_option linter.unusedSimpArgs false
set_option maxRecDepth 100000
attribute [-go_sem] Builtin.append_ loadCells loadCellsFrom storeCells run_eql_struct
theorem fold_set2C (l : List Value) : ∀ (a : Array Value) (o : Nat), o + l.length ≤ a.size → (l.zipIdx o).foldl (fun cs x => cs.setIfInBounds x.2 x.1) a = (a.toList.take o ++ l ++ a.toList.drop (o + l.length)).toArray := by
  induction l with
  | nil =>
    intro a o h
    simp
  | cons v l ih =>
    intro a o h
    have ho : o < a.toList.length := by simp at h ⊢; omega
    rw [List.zipIdx_cons, List.foldl_cons, ih _ (o + 1) (by simp at h ⊢; omega)]
    congr 1
    rw [Array.toList_setIfInBounds, List.take_succ_eq_append_getElem (by simpa using ho), List.take_set, List.set_eq_of_length_le (by rw [List.length_take]; omega), List.drop_set, if_pos (by omega)]
    simp
    congr 1
    omega
theorem afold_setC (n : Nat) (vs a : Array Value) (hn : vs.size = n) (h : n ≤ a.size) : Array.foldl (fun cs x => cs.setIfInBounds x.snd x.fst) a vs.zipIdx 0 n = (vs.toList ++ a.toList.drop n).toArray := by
  subst hn
  have hz : vs.zipIdx.size = vs.size := Array.size_zipIdx
  have := fold_set2C vs.toList a 0 (by simpa using h)
  conv => lhs; rw [← hz]
  rw [← Array.foldl_toList, Array.toList_zipIdx]
  refine this.trans ?_
  simp
abbrev zeroCd : List Value := [.bool false, .int .u8 0, .int .u8 0, .int .u8 0, .int .u8 0, .int .u8 0, .int .u8 0, .int .u8 0, .int .u8 0, .int .u8 0, .int .u8 0, .int .u8 0, .int .u8 0, .int .u8 0, .int .u8 0, .int .u8 0, .int .u8 0, .int .i64 0]
theorem zeroCd_eq : zeroCd.toArray = ptA false zero16 0 := rfl
theorem infoCd : (Tryz.prog.info? 74).map (·.size) = some 18 := by kernel_rfl
theorem cidr_fold (s : Bool) (b : List UInt8) (hb : b.length = 16) : Array.foldl (fun cs x => cs.setIfInBounds x.snd x.fst) #[.bool false, .int .u8 0, .int .u8 0, .int .u8 0, .int .u8 0, .int .u8 0, .int .u8 0, .int .u8 0, .int .u8 0, .int .u8 0, .int .u8 0, .int .u8 0, .int .u8 0, .int .u8 0, .int .u8 0, .int .u8 0, .int .u8 0, .int .i64 0] (adA s b).zipIdx 0 17 = ptA s b 0 := by
  rw [afold_setC 17 (adA s b) #[.bool false, .int .u8 0, .int .u8 0, .int .u8 0, .int .u8 0, .int .u8 0, .int .u8 0, .int .u8 0, .int .u8 0, .int .u8 0, .int .u8 0, .int .u8 0, .int .u8 0, .int .u8 0, .int .u8 0, .int .u8 0, .int .u8 0, .int .i64 0] (adA_size s b hb) (by decide)]
  rfl
theorem cidr_set (s : Bool) (b : List UInt8) (hb : b.length = 16) (n : Int) : (ptA s b 0).setIfInBounds 17 (.int .i64 n) = ptA s b n := by
  unfold ptA
  rw [List.setIfInBounds_toArray, List.set_append_right _ _ (by rw [adCells_len _ _ hb]; omega), adCells_len _ _ hb]
  rfl
theorem ptC_one (six : Bool) (b : List UInt8) (n : Int) : ∀ v ∈ adCells six b ++ [Value.int .i64 n], v.oneCell' = true := by
  intro v hv
  rcases List.mem_append.1 hv with h | h
  · exact adCells_one six b v h
  · rw [List.mem_singleton.1 h]; rfl
theorem ptC_len (six : Bool) (b : List UInt8) (n : Int) (hb : b.length = 16) : (adCells six b ++ [Value.int .i64 n]).length = 18 := by rw [List.length_append, adCells_len _ _ hb]; rfl
/-- What hands back a cidr or an error answers. -/
def RetCd (ee : Addr) (r : Option (Bool × List UInt8 × Int)) (e : Ending) : Prop := match r with
  | some (six, b, n) => e = .returned (.tuple #[ptV six b n, .nilIface])
  | none => e = .returned (.tuple #[.agg zeroCd.toArray, .iface 226 (.pointer (some ee))])
set_option maxHeartbeats 4000000 in
theorem of_bad (six : Bool) (b : List UInt8) (hb : b.length = 16) (n : Int) (w : World) (hr : rightA six b = false) (eA : Addr) (hA : Holds w 7 eA) :
    Calls Tryz.prog 68 #[adV six b, .int .i64 n] w fun e w' => RetCd eA none e ∧ Below w.heap.size w w' := by
  have KR : Hid (∀ W, Calls Tryz.prog 16 #[.agg (adA six b)] W fun e w' => e = .returned (.bool false) ∧ Below W.heap.size W w') := Lib.hid (fun W => by have h := right_calls' six b hb W; rw [hr] at h; exact h)
  have hsz := adA_size six b hb
  obtain ⟨W0, hW0⟩ : ∃ W0, W0 = (w.alloc (.cells (adA six b) 24)).alloc (.cells zeroCd.toArray 74) := ⟨_, rfl⟩
  have hB0 : Below w.heap.size w W0 := by rw [hW0]; exact ((Below.refl _ _).alloc (Nat.le_refl _) _).alloc (by simp) _
  have hK0 : Blk (w.heap.size + 1) zeroCd 74 W0 := by rw [hW0]; exact Blk.new _ _ _ _ _ rfl (by simp)
  have hl0 : (loadCells ⟨w.heap.size, 0, none⟩ 17).run Tryz.prog W0 = .ok (adA six b) W0 := by rw [hW0]; exact load_ad six b hb w _ (((Below.refl _ _).alloc (by simp) _))
  have HB0 := Lib.hid hB0
  have HK0 := Lib.hid hK0
  have HA := Lib.hid hA
  have HW0 := Lib.hid hW0
  clear hB0 hK0 hA hr
  show Calls Tryz.prog 68 #[.agg (adA six b), .int .i64 n] w fun e w' => RetCd eA none e ∧ Below w.heap.size w w'
  generalize adA six b = ca at *
  clear hW0
  go_enter Tryz.func68, Tryz.ntmps68
  go_upto_region 1 with (fail)
  rw [← HW0.out]
  go_upto_region 2 with (go_at_call 16; ((with_reducible refine (KR.out _).mono ?_); rintro e w1 ⟨rfl, hb1⟩; have HB1 := Lib.hid (HB0.out.trans (hb1.mono HB0.out.size)); have HK1 := Lib.hid (HK0.out.below hb1); clear hb1))
  have hk1 := HK1.out
  have st : (storeCells ⟨w.heap.size + 1, 0, none⟩ zeroCd).run Tryz.prog w1.drew = .ok () w1.drew := store_same (hk1.drewN 1) (ptC_one false zero16 0)
  have ld : (loadCells ⟨w.heap.size + 1, 0, none⟩ 18).run Tryz.prog w1.drew = .ok zeroCd.toArray w1.drew := (hk1.drewN 1).load 0 18 zeroCd rfl rfl
  have cF : w1.drew.cell? ⟨7, 0, none⟩ = some (.iface 226 (.pointer (some eA))) := (HA.out.below HB1.out).1
  clear hk1
  go_region
  all_goals go_wp2
  all_goals exact bodyPost_ret (v := .tuple #[.agg zeroCd.toArray, .iface 226 (.pointer (some eA))]) (by simp [results, Tryz.results68, go_sem, ld]) rfl ⟨rfl, below_drewN HB1.out 1⟩
set_option maxHeartbeats 4000000 in
theorem of_range (six : Bool) (b : List UInt8) (hb : b.length = 16) (n : Int) (w : World) (hr : rightA six b = true) (hn : (decide (0 ≤ n) && decide (n ≤ (widthA six : Int))) = false) (eR : Addr) (hR : Holds w 0 eR) :
    Calls Tryz.prog 68 #[adV six b, .int .i64 n] w fun e w' => RetCd eR none e ∧ Below w.heap.size w w' := by
  have KR : Hid (∀ W, Calls Tryz.prog 16 #[.agg (adA six b)] W fun e w' => e = .returned (.bool true) ∧ Below W.heap.size W w') := Lib.hid (fun W => by have h := right_calls' six b hb W; rw [hr] at h; exact h)
  have KF : Hid (∀ W, Calls Tryz.prog 108 #[.agg (adA six b), .int .i64 n] W fun e w' => e = .returned (.bool false) ∧ Below W.heap.size W w') := Lib.hid (fun W => by have h := fits_calls six b hb n W; rw [hn] at h; exact h)
  have HLD := Lib.hid (fun W h => load_ad six b hb w W h)
  have hsz := adA_size six b hb
  obtain ⟨W0, hW0⟩ : ∃ W0, W0 = (w.alloc (.cells (adA six b) 24)).alloc (.cells zeroCd.toArray 74) := ⟨_, rfl⟩
  have hB0 : Below w.heap.size w W0 := by rw [hW0]; exact ((Below.refl _ _).alloc (Nat.le_refl _) _).alloc (by simp) _
  have hA0 : Below (w.alloc (.cells (adA six b) 24)).heap.size (w.alloc (.cells (adA six b) 24)) W0 := by rw [hW0]; exact (Below.refl _ _).alloc (Nat.le_refl _) _
  have hK0 : Blk (w.heap.size + 1) zeroCd 74 W0 := by rw [hW0]; exact Blk.new _ _ _ _ _ rfl (by simp)
  have hl0 := HLD.out _ hA0
  have HB0 := Lib.hid hB0
  have HA0 := Lib.hid hA0
  have HK0 := Lib.hid hK0
  have HR := Lib.hid hR
  have HW0 := Lib.hid hW0
  clear hB0 hK0 hR hr hn hA0
  show Calls Tryz.prog 68 #[.agg (adA six b), .int .i64 n] w fun e w' => RetCd eR none e ∧ Below w.heap.size w w'
  generalize adA six b = ca at *
  clear hW0
  go_enter Tryz.func68, Tryz.ntmps68
  go_upto_region 1 with (fail)
  rw [← HW0.out]
  go_upto_region 4 with (first
    | (go_at_call 16; ((with_reducible refine (KR.out _).mono ?_); rintro e w1 ⟨rfl, hb1⟩; have HB1 := Lib.hid (HB0.out.trans (hb1.mono HB0.out.size)); have HK1 := Lib.hid (HK0.out.below hb1); have HA1 := Lib.hid (HA0.out.trans (hb1.mono HA0.out.size)); have hl1 := HLD.out _ HA1.out; clear hb1))
    | (go_at_call 108; ((with_reducible refine (KF.out _).mono ?_); rintro e w2 ⟨rfl, hb2⟩; have HB2 := Lib.hid (HB1.out.trans (hb2.mono HB1.out.size)); have HK2 := Lib.hid (HK1.out.below hb2); clear hb2)))
  have hk1 := HK2.out
  have st : (storeCells ⟨w.heap.size + 1, 0, none⟩ zeroCd).run Tryz.prog w2.drew = .ok () w2.drew := store_same (hk1.drewN 1) (ptC_one false zero16 0)
  have ld : (loadCells ⟨w.heap.size + 1, 0, none⟩ 18).run Tryz.prog w2.drew = .ok zeroCd.toArray w2.drew := (hk1.drewN 1).load 0 18 zeroCd rfl rfl
  have cF : w2.drew.cell? ⟨0, 0, none⟩ = some (.iface 226 (.pointer (some eR))) := (HR.out.below HB2.out).1
  clear hk1
  go_region
  all_goals go_wp2
  all_goals exact bodyPost_ret (v := .tuple #[.agg zeroCd.toArray, .iface 226 (.pointer (some eR))]) (by simp [results, Tryz.results68, go_sem, ld]) rfl ⟨rfl, below_drewN HB2.out 1⟩
set_option maxHeartbeats 4000000 in
theorem of_ok (six : Bool) (b : List UInt8) (hb : b.length = 16) (n : Int) (w : World) (hr : rightA six b = true) (hn : (decide (0 ≤ n) && decide (n ≤ (widthA six : Int))) = true) (ee : Addr) :
    Calls Tryz.prog 68 #[adV six b, .int .i64 n] w fun e w' => RetCd ee (some (six, cutL b n.toNat, n)) e ∧ Below w.heap.size w w' := by
  have KR : Hid (∀ W, Calls Tryz.prog 16 #[.agg (adA six b)] W fun e w' => e = .returned (.bool true) ∧ Below W.heap.size W w') := Lib.hid (fun W => by have h := right_calls' six b hb W; rw [hr] at h; exact h)
  have KF : Hid (∀ W, Calls Tryz.prog 108 #[.agg (adA six b), .int .i64 n] W fun e w' => e = .returned (.bool true) ∧ Below W.heap.size W w') := Lib.hid (fun W => by have h := fits_calls six b hb n W; rw [hn] at h; exact h)
  have hcl : (cutL b n.toNat).length = 16 := by rw [cutL_len]; exact hb
  have KC : Hid (∀ W, Calls Tryz.prog 109 #[.agg (adA six b), .int .i64 n] W fun e w' => e = .returned (.agg (adA six (cutL b n.toNat))) ∧ Below W.heap.size W w') := Lib.hid (fun W => by
    rw [Bool.and_eq_true, decide_eq_true_iff, decide_eq_true_iff] at hn
    have h2 := width_le six
    have h := cut3_calls six b hb n.toNat (by omega) W
    rw [show ((n.toNat : Nat) : Int) = n by omega] at h
    exact h)
  have HLD := Lib.hid (fun W h => load_ad six b hb w W h)
  have hsz := adA_size six b hb
  obtain ⟨W0, hW0⟩ : ∃ W0, W0 = (w.alloc (.cells (adA six b) 24)).alloc (.cells zeroCd.toArray 74) := ⟨_, rfl⟩
  have hB0 : Below w.heap.size w W0 := by rw [hW0]; exact ((Below.refl _ _).alloc (Nat.le_refl _) _).alloc (by simp) _
  have hA0 : Below (w.alloc (.cells (adA six b) 24)).heap.size (w.alloc (.cells (adA six b) 24)) W0 := by rw [hW0]; exact (Below.refl _ _).alloc (Nat.le_refl _) _
  have hK0 : Blk (w.heap.size + 1) zeroCd 74 W0 := by rw [hW0]; exact Blk.new _ _ _ _ _ rfl (by simp)
  have hl0 := HLD.out _ hA0
  have HB0 := Lib.hid hB0
  have HA0 := Lib.hid hA0
  have HK0 := Lib.hid hK0
  have HW0 := Lib.hid hW0
  clear hB0 hK0 hr hn hA0
  show Calls Tryz.prog 68 #[.agg (adA six b), .int .i64 n] w fun e w' => RetCd ee (some (six, cutL b n.toNat, n)) e ∧ Below w.heap.size w w'
  generalize cutL b n.toNat = c at *
  have hf := cidr_fold six c hcl
  have hs17 := cidr_set six c hcl n
  have hszc := adA_size six c hcl
  have HCL := Lib.hid hcl
  generalize adA six b = ca at *
  clear hW0
  have hcs : ptA six c n = (adCells six c ++ [Value.int .i64 n]).toArray := rfl
  have HCS := Lib.hid hcs
  have hp0 := ptA_size six c 0 hcl
  clear hcs
  generalize ptA six c 0 = za at *
  have HV : Hid (ptV six c n = .agg (ptA six c n)) := Lib.hid rfl
  generalize ptA six c n = pa at *
  generalize adA six c = ka at *
  go_enter Tryz.func68, Tryz.ntmps68
  go_upto_region 1 with (fail)
  rw [← HW0.out]
  go_wp2_with (first
    | (go_at_call 16; ((with_reducible refine (KR.out _).mono ?_); rintro e w1 ⟨rfl, hb1⟩; have HB1 := Lib.hid (HB0.out.trans (hb1.mono HB0.out.size)); have HK1 := Lib.hid (HK0.out.below hb1); have HA1 := Lib.hid (HA0.out.trans (hb1.mono HA0.out.size)); have hl1 := HLD.out _ HA1.out; clear hb1))
    | (go_at_call 108; ((with_reducible refine (KF.out _).mono ?_); rintro e w2 ⟨rfl, hb2⟩; have HB2 := Lib.hid (HB1.out.trans (hb2.mono HB1.out.size)); have HK2 := Lib.hid (HK1.out.below hb2); have HA2 := Lib.hid (HA1.out.trans (hb2.mono HA1.out.size)); have hl2 := HLD.out _ HA2.out; clear hb2))
    | (go_at_call 109; ((with_reducible refine (KC.out _).mono ?_); rintro e w3 ⟨rfl, hb3⟩; have HB3 := Lib.hid (HB2.out.trans (hb3.mono HB2.out.size)); have HK3 := Lib.hid (HK2.out.below hb3); clear hb3))
    | (refine wp_store_blk rfl 74 (.tmp 4) (.tmp 23) rfl (w.heap.size + 1) 0 zeroCd (adCells six c ++ [Value.int .i64 n]) 74 _ rfl rfl (by rw [HCS.out]; rfl) HK3.out (by rw [ptC_len _ _ _ HCL.out]; decide) (by rw [ptC_len _ _ _ HCL.out]; exact infoCd) (ptC_one _ _ _) (by rw [ptC_len _ _ _ HCL.out]; decide) ?_; intro w7 hk7 ha7; have HK7 := Lib.hid hk7; have HB7 : Hid (Below w.heap.size w w7) := Lib.hid (below_alt HB3.out ha7 HB3.out.size (fun k hk => by omega)); clear hk7 ha7))
  have hk7 := HK7.out
  rw [splice_all _ _ (by rw [ptC_len _ _ _ HCL.out]; decide)] at hk7
  have hres : (loadCells ⟨w.heap.size + 1, 0, none⟩ 18).run Tryz.prog w7 = .ok pa w7 := by
    have h := hk7.load (P := Tryz.prog) 0 18 (adCells six c ++ [Value.int .i64 n]) (by rw [List.drop_zero, List.take_of_length_le (by rw [ptC_len _ _ _ HCL.out]; omega)]) (ptC_len _ _ _ HCL.out)
    rw [HCS.out]; exact h
  exact bodyPost_ret (v := .tuple #[.agg pa, .nilIface]) (by simp [results, Tryz.results68, go_sem, hres]) rfl ⟨by rw [HCS.out]; rfl, HB7.out⟩
end Go.Proofs.YtmcgkknpkocgoaaGreatDoor.Ad

/- The text of a cidr: the code's, the document's. -/
namespace Go.Proofs.YtmcgkknpkocgoaaGreatDoor.Ad
open Go.RowKit Go.Proofs.YtmcgkknpkocgoaaGreatDoor.Mem Go.Proofs.YtmcgkknpkocgoaaGreatDoor.Num Go.Proofs.YtmcgkknpkocgoaaGreatDoor.Err Go.Proofs.YtmcgkknpkocgoaaGreatDoor.AdP
open Go.Proofs.YtmcgkknpkocgoaaGreatDoor.Head (pad pad_len adCells_one adCells_len infoAd splice_ad)
open Go.Proofs.YtmcgkknpkocgoaaGreatDoor.Addr (adV adA adCells adA_size cell_box load_box cell_six ptA ptV pt_loads)
set_option linter.unusedVariables false
set_option linter.unusedSimpArgs false
set_option maxRecDepth 100000
attribute [-go_sem] Builtin.append_ loadCells loadCellsFrom storeCells run_eql_struct
/-- The text of a cidr. -/
def txtC (six : Bool) (b : List UInt8) (n : Int) : List UInt8 := if rightC six b n = true then txtA six b ++ [47] ++ Lib.decDigits n.toNat else []
theorem dec_len (n : Nat) (h : n ≤ 1000000) : (Lib.decDigits n).length ≤ 21 := by
  rw [← numb_dec 20 n (Nat.lt_of_le_of_lt h (by decide))]
  exact numb_len _ _ _
theorem rightC_range (six : Bool) (b : List UInt8) (n : Int) (h : rightC six b n = true) : rightA six b = true ∧ 0 ≤ n ∧ n ≤ (widthA six : Int) ∧ n ≤ 128 ∧ cutL b n.toNat = b := by
  unfold rightC at h
  rw [Bool.and_eq_true, Bool.and_eq_true, Bool.and_eq_true, decide_eq_true_iff, decide_eq_true_iff, decide_eq_true_iff] at h
  have h2 := width_le six
  exact ⟨h.1, h.2.1, h.2.2.1, by omega, h.2.2.2⟩
abbrev figs10 : ByteArray := ⟨#[48, 49, 50, 51, 52, 53, 54, 55, 56, 57]⟩
theorem figs10_cut : ∀ n : Nat, n < 10 → figs10.extract n (n + 1) = str [dig n] := by
  intro n h
  have key : ∀ k : Fin 10, (figs10.extract k (k + 1)).data = (str [dig k]).data := by decide
  exact ByteArray.ext (key ⟨n, h⟩)
theorem dec1 (n : Nat) (h : n < 10) : Lib.decDigits n = [dig n] := by
  rw [← numb_dec 20 n (Nat.lt_trans h (by decide)), numb_small 10 20 n h]
theorem dec2 (n : Nat) (h : 10 ≤ n) (h2 : n < 100) : Lib.decDigits n = [dig (n / 10 % 10), dig (n % 10)] := by
  rw [← numb_dec 20 n (Nat.lt_trans h2 (by decide)), numb_big 10 19 n (by omega), numb_small 10 19 (n / 10) (by omega), Nat.mod_eq_of_lt (show n / 10 < 10 by omega)]; rfl
theorem dec3 (n : Nat) (h : 100 ≤ n) (h2 : n < 1000) : Lib.decDigits n = [dig (n / 100 % 10), dig (n / 10 % 10), dig (n % 10)] := by
  rw [← numb_dec 20 n (Nat.lt_trans h2 (by decide)), numb_big 10 19 n (by omega), numb_big 10 18 (n / 10) (by omega), numb_small 10 18 (n / 10 / 10) (by omega), show n / 10 / 10 = n / 100 % 10 by omega]; rfl
set_option maxHeartbeats 4000000 in
theorem numeral3_calls (n : Nat) (hn : n < 1000) (w : World) :
    Calls Tryz.prog 111 #[.int .i64 (n : Int)] w fun e w' => e = .returned (.string (str (Lib.decDigits n))) ∧ Below w.heap.size w w' := by
  obtain ⟨N, hN⟩ : ∃ N : Int, N = (n : Int) := ⟨_, rfl⟩
  rw [← hN]
  have h0 : 0 ≤ N := by omega
  have h1 : N < 1000 := by omega
  have a1 : N % 10 = ((n % 10 : Nat) : Int) := by rw [hN]; rfl
  have a2 : N.tmod 10 = ((n % 10 : Nat) : Int) := by rw [Int.tmod_eq_emod_of_nonneg (by omega), hN]; rfl
  have a3 : N / 10 % 10 = ((n / 10 % 10 : Nat) : Int) := by rw [hN]; rfl
  have a4 : (N.tdiv 10).tmod 10 = ((n / 10 % 10 : Nat) : Int) := by rw [Int.tdiv_eq_ediv_of_nonneg (by omega), Int.tmod_eq_emod_of_nonneg (by omega), hN]; rfl
  have a5 : N / 100 % 10 = ((n / 100 % 10 : Nat) : Int) := by rw [hN]; rfl
  have a6 : (N.tdiv 100).tmod 10 = ((n / 100 % 10 : Nat) : Int) := by rw [Int.tdiv_eq_ediv_of_nonneg (by omega), Int.tmod_eq_emod_of_nonneg (by omega), hN]; rfl
  have r0 : n % 10 < 10 := Nat.mod_lt _ (by decide)
  have r1 : n / 10 % 10 < 10 := Nat.mod_lt _ (by decide)
  have r2 : n / 100 % 10 < 10 := Nat.mod_lt _ (by decide)
  have f0 := figs10_cut _ r0
  have f1 := figs10_cut _ r1
  have f2 := figs10_cut _ r2
  by_cases c1 : n < 10
  · have HS := Lib.hid (show str [dig (n % 10)] = str (Lib.decDigits n) by rw [dec1 n c1, Nat.mod_eq_of_lt c1])
    have F0 := Lib.hid f0
    have hs0 : ((figs10.extract (n % 10) (n % 10 + 1)).size : Int) ≤ 200 := by rw [f0, sz]; simp
    have g1 : N ≤ 9 := by omega
    have i0 : ((n % 10 : Nat) : Int) < 10 := by omega
    clear a3 a4 a5 a6 r1 r2 f0 f1 f2 hN c1
    generalize n % 10 = k0 at *
    go_enter Tryz.func111, Tryz.ntmps111
    go_wp2
    go_ret
    exact ⟨by rw [← HS.out, ← F0.out]; rfl, Below.refl _ _⟩
  · by_cases c2 : n < 100
    · have HS := Lib.hid (show str [dig (n / 10 % 10)] ++ str [dig (n % 10)] = str (Lib.decDigits n) by rw [dec2 n (by omega) c2, str_cat]; rfl)
      have F0 := Lib.hid f0
      have F1 := Lib.hid f1
      have hs0 : (figs10.extract (n % 10) (n % 10 + 1)).size = 1 := by rw [f0, sz]; simp
      have hs1 : (figs10.extract (n / 10 % 10) (n / 10 % 10 + 1)).size = 1 := by rw [f1, sz]; simp
      have hz : ¬ 9223372036854775807 < (figs10.extract (n / 10 % 10) (n / 10 % 10 + 1)).size + (figs10.extract (n % 10) (n % 10 + 1)).size := by omega
      have g1 : 9 < N := by omega
      have g2 : N ≤ 99 := by omega
      have i0 : ((n % 10 : Nat) : Int) < 10 := by omega
      have i1 : ((n / 10 % 10 : Nat) : Int) < 10 := by omega
      clear a5 a6 r2 f0 f1 f2 hN c1 c2 hs0 hs1
      generalize n % 10 = k0 at *
      generalize n / 10 % 10 = k1 at *
      go_enter Tryz.func111, Tryz.ntmps111
      go_wp2
      go_ret
      exact ⟨by rw [← HS.out, ← F0.out, ← F1.out]; rfl, Below.refl _ _⟩
    · have HS := Lib.hid (show str [dig (n / 100 % 10)] ++ (str [dig (n / 10 % 10)] ++ str [dig (n % 10)]) = str (Lib.decDigits n) by rw [dec3 n (by omega) hn, str_cat, str_cat]; rfl)
      have F0 := Lib.hid f0
      have F1 := Lib.hid f1
      have F2 := Lib.hid f2
      have hs0 : (figs10.extract (n % 10) (n % 10 + 1)).size = 1 := by rw [f0, sz]; simp
      have hs1 : (figs10.extract (n / 10 % 10) (n / 10 % 10 + 1)).size = 1 := by rw [f1, sz]; simp
      have hs2 : (figs10.extract (n / 100 % 10) (n / 100 % 10 + 1)).size = 1 := by rw [f2, sz]; simp
      have hz : ¬ 9223372036854775807 < (figs10.extract (n / 10 % 10) (n / 10 % 10 + 1)).size + (figs10.extract (n % 10) (n % 10 + 1)).size := by omega
      have hz2 : ¬ 9223372036854775807 < (figs10.extract (n / 100 % 10) (n / 100 % 10 + 1)).size + ((figs10.extract (n / 10 % 10) (n / 10 % 10 + 1)).size + (figs10.extract (n % 10) (n % 10 + 1)).size) := by omega
      have g1 : 9 < N := by omega
      have g2 : 99 < N := by omega
      have i0 : ((n % 10 : Nat) : Int) < 10 := by omega
      have i1 : ((n / 10 % 10 : Nat) : Int) < 10 := by omega
      have i2 : ((n / 100 % 10 : Nat) : Int) < 10 := by omega
      clear f0 f1 f2 hN c1 c2 hs0 hs1 hs2
      generalize n % 10 = k0 at *
      generalize n / 10 % 10 = k1 at *
      generalize n / 100 % 10 = k2 at *
      go_enter Tryz.func111, Tryz.ntmps111
      go_wp2
      go_ret
      exact ⟨by rw [← HS.out, ← F0.out, ← F1.out, ← F2.out]; rfl, Below.refl _ _⟩
set_option maxHeartbeats 4000000 in
theorem cformat_calls (ea : Addr) (six : Bool) (b : List UInt8) (hb : b.length = 16) (n : Int) (w : World) (hE : Env ea w) :
    Calls Tryz.prog 60 #[ptV six b n] w fun e w' => e = .returned (.string (str (txtC six b n))) ∧ Below w.heap.size w w' := by
  have HLD : Hid (∀ W, Below (w.alloc (.cells (ptA six b n) 74)).heap.size (w.alloc (.cells (ptA six b n) 74)) W → CdL w.heap.size (adA six b) (ptA six b n) n W) := Lib.hid (fun W h => cdL_of six b n hb w W h)
  have HBD : Hid (∀ W, Below (w.alloc (.cells (ptA six b n) 74)).heap.size (w.alloc (.cells (ptA six b n) 74)) W → Below w.heap.size w W) := Lib.hid (fun W h => below_allocd h)
  have hEa := hE.alloc (.cells (ptA six b n) 74)
  have HE := Lib.hid (fun W (h : Below (w.alloc (.cells (ptA six b n) 74)).heap.size (w.alloc (.cells (ptA six b n) 74)) W) => hEa.below h)
  clear hE hEa
  have KR : Hid (∀ W, Calls Tryz.prog 58 #[.agg (ptA six b n)] W fun e w' => e = .returned (.bool (rightC six b n)) ∧ Below W.heap.size W w') := Lib.hid (fun W => cright_calls six b hb n W)
  have KF : Hid (∀ W, Env ea W → Calls Tryz.prog 15 #[.agg (adA six b)] W fun e w' => e = .returned (.string (str (txtA six b))) ∧ Below W.heap.size W w') := Lib.hid (fun W hE => format_calls ea six b hb W hE)
  have hrr := rightC_range six b n
  have hsz := ptA_size six b n hb
  have hsz2 := adA_size six b hb
  obtain ⟨hl0, hl1, hl2⟩ := HLD.out _ (Below.refl _ _)
  show Calls Tryz.prog 60 #[.agg (ptA six b n)] w fun e w' => e = .returned (.string (str (txtC six b n))) ∧ Below w.heap.size w w'
  unfold txtC
  by_cases hr : rightC six b n = true
  · rw [if_pos hr]
    obtain ⟨-, hn0, -, hn1, -⟩ := hrr hr
    rw [hr] at KR
    have KI : Hid (∀ W, Env ea W → Calls Tryz.prog 79 #[.int .i64 n] W fun e w' => e = .returned (.string (str (Lib.decDigits n.toNat))) ∧ Below W.heap.size W w') := Lib.hid (fun W hE => by
      have h := itoa_calls ea n.toNat (by omega) W hE
      rw [show ((n.toNat : Nat) : Int) = n by omega] at h
      exact h)
    have q1 := txtA_len six b
    have q2 := dec_len n.toNat (by omega)
    have hA1 := add_str (str (txtA six b)) ⟨#[47]⟩ (by rw [sz]; show (txtA six b).length + 1 ≤ 1000000; omega)
    have hA2 := add_str (str (txtA six b) ++ ⟨#[47]⟩) (str (Lib.decDigits n.toNat)) (by rw [ByteArray.size_append, sz, sz]; show (txtA six b).length + 1 + (Lib.decDigits n.toNat).length ≤ 1000000; omega)
    have hz1 : ((str (txtA six b)).size : Int) ≤ 500 := by rw [sz]; omega
    have hz2 : ((str (Lib.decDigits n.toNat)).size : Int) ≤ 100 := by rw [sz]; omega
    have HSE := Lib.hid (show str (txtA six b) ++ ⟨#[47]⟩ ++ str (Lib.decDigits n.toNat) = str (txtA six b ++ [47] ++ Lib.decDigits n.toNat) by rw [← str_cat, ← str_cat])
    clear hrr hr q1 q2
    generalize str (txtA six b ++ [47] ++ Lib.decDigits n.toNat) = S at *
    generalize str (txtA six b) = s1 at *
    generalize str (Lib.decDigits n.toNat) = s2 at *
    generalize adA six b = ca at *
    generalize ptA six b n = pa at *
    go_enter Tryz.func60, Tryz.ntmps60
    go_upto_region 3 with (go_at_call 58; ((with_reducible refine (KR.out _).mono ?_); rintro e w1 ⟨rfl, hb1⟩; have HB1 := Lib.hid hb1; clear hb1))
    clear hl0 hl1 hl2
    have HW := Lib.hid (fun W (h : Below w1.heap.size w1 W) => HB1.out.trans (h.mono HB1.out.size))
    obtain ⟨m0, m1, m2⟩ := HLD.out _ (HW.out _ (below_own_drew _))
    go_region_with (first
      | (go_at_call 15; ((with_reducible refine (KF.out _ (HE.out _ (HW.out _ (below_own_drew _)))).mono ?_); rintro e w3 ⟨rfl, hb3⟩; have HB3 := Lib.hid (HW.out _ (below_drewd hb3)); obtain ⟨k0, k1, k2⟩ := HLD.out _ HB3.out; clear hb3))
      | (go_at_call 79; ((with_reducible refine (KI.out _ (HE.out _ (HW.out _ (below_own_drew _)))).mono ?_); rintro e w3 ⟨rfl, hb3⟩; have HB3 := Lib.hid (HW.out _ (below_drewd hb3)); obtain ⟨k0, k1, k2⟩ := HLD.out _ HB3.out; clear hb3))
      | (go_at_call 79; ((with_reducible refine (KI.out _ (HE.out _ HB3.out)).mono ?_); rintro e w4 ⟨rfl, hb4⟩; have HB4 := Lib.hid (HB3.out.trans (hb4.mono HB3.out.size)); clear hb4))
      | (go_at_call 15; ((with_reducible refine (KF.out _ (HE.out _ HB3.out)).mono ?_); rintro e w4 ⟨rfl, hb4⟩; have HB4 := Lib.hid (HB3.out.trans (hb4.mono HB3.out.size)); clear hb4)))
    all_goals (go_wp2_with fail)
    all_goals (go_ret; exact ⟨by rw [HSE.out]; rfl, HBD.out _ HB4.out⟩)
  · rw [if_neg hr]
    have hr' : rightC six b n = false := by simpa using hr
    rw [hr'] at KR
    clear hrr hr hr'
    generalize adA six b = ca at *
    generalize ptA six b n = pa at *
    go_enter Tryz.func60, Tryz.ntmps60
    go_wp2_with (go_at_call 58; ((with_reducible refine (KR.out _).mono ?_); rintro e w1 ⟨rfl, hb1⟩; have HB1 := Lib.hid hb1; clear hb1))
    go_ret
    exact ⟨rfl, HBD.out _ HB1.out⟩
set_option maxHeartbeats 4000000 in
theorem rcformat_calls (six : Bool) (b : List UInt8) (hb : b.length = 16) (n : Int) (w : World) :
    Calls Tryz.prog 61 #[ptV six b n] w fun e w' => e = .returned (.string (str (txtC six b n))) ∧ Below w.heap.size w w' := by
  have HLD : Hid (∀ W, Below (w.alloc (.cells (ptA six b n) 74)).heap.size (w.alloc (.cells (ptA six b n) 74)) W → CdL w.heap.size (adA six b) (ptA six b n) n W) := Lib.hid (fun W h => cdL_of six b n hb w W h)
  have HBD : Hid (∀ W, Below (w.alloc (.cells (ptA six b n) 74)).heap.size (w.alloc (.cells (ptA six b n) 74)) W → Below w.heap.size w W) := Lib.hid (fun W h => below_allocd h)
  have KR : Hid (∀ W, Calls Tryz.prog 59 #[.agg (ptA six b n)] W fun e w' => e = .returned (.bool (rightC six b n)) ∧ Below W.heap.size W w') := Lib.hid (fun W => rright3_calls six b hb n W)
  have KF : Hid (∀ W, Calls Tryz.prog 18 #[.agg (adA six b)] W fun e w' => e = .returned (.string (str (txtA six b))) ∧ Below W.heap.size W w') := Lib.hid (fun W => rformat_calls six b hb W)
  have hrr := rightC_range six b n
  have hsz := ptA_size six b n hb
  have hsz2 := adA_size six b hb
  obtain ⟨hl0, hl1, hl2⟩ := HLD.out _ (Below.refl _ _)
  show Calls Tryz.prog 61 #[.agg (ptA six b n)] w fun e w' => e = .returned (.string (str (txtC six b n))) ∧ Below w.heap.size w w'
  unfold txtC
  by_cases hr : rightC six b n = true
  · rw [if_pos hr]
    obtain ⟨-, hn0, -, hn1, -⟩ := hrr hr
    rw [hr] at KR
    have KI : Hid (∀ W, Calls Tryz.prog 111 #[.int .i64 n] W fun e w' => e = .returned (.string (str (Lib.decDigits n.toNat))) ∧ Below W.heap.size W w') := Lib.hid (fun W => by
      have h := numeral3_calls n.toNat (by omega) W
      rw [show ((n.toNat : Nat) : Int) = n by omega] at h
      exact h)
    have q1 := txtA_len six b
    have q2 := dec_len n.toNat (by omega)
    have hA1 := add_str (str (txtA six b)) ⟨#[47]⟩ (by rw [sz]; show (txtA six b).length + 1 ≤ 1000000; omega)
    have hA2 := add_str (str (txtA six b) ++ ⟨#[47]⟩) (str (Lib.decDigits n.toNat)) (by rw [ByteArray.size_append, sz, sz]; show (txtA six b).length + 1 + (Lib.decDigits n.toNat).length ≤ 1000000; omega)
    have hz1 : ((str (txtA six b)).size : Int) ≤ 500 := by rw [sz]; omega
    have hz2 : ((str (Lib.decDigits n.toNat)).size : Int) ≤ 100 := by rw [sz]; omega
    have HSE := Lib.hid (show str (txtA six b) ++ ⟨#[47]⟩ ++ str (Lib.decDigits n.toNat) = str (txtA six b ++ [47] ++ Lib.decDigits n.toNat) by rw [← str_cat, ← str_cat])
    clear hrr hr q1 q2
    generalize str (txtA six b ++ [47] ++ Lib.decDigits n.toNat) = S at *
    generalize str (txtA six b) = s1 at *
    generalize str (Lib.decDigits n.toNat) = s2 at *
    generalize adA six b = ca at *
    generalize ptA six b n = pa at *
    go_enter Tryz.func61, Tryz.ntmps61
    go_upto_region 3 with (go_at_call 59; ((with_reducible refine (KR.out _).mono ?_); rintro e w1 ⟨rfl, hb1⟩; have HB1 := Lib.hid hb1; clear hb1))
    clear hl0 hl1 hl2
    have HW := Lib.hid (fun W (h : Below w1.heap.size w1 W) => HB1.out.trans (h.mono HB1.out.size))
    obtain ⟨m0, m1, m2⟩ := HLD.out _ (HW.out _ (below_own_drew _))
    go_region_with (first
      | (go_at_call 18; ((with_reducible refine (KF.out _).mono ?_); rintro e w3 ⟨rfl, hb3⟩; (first | (have HB4 := Lib.hid (HB3.out.trans (hb3.mono HB3.out.size))) | (have HB3 := Lib.hid (HW.out _ (below_drewd hb3)); obtain ⟨k0, k1, k2⟩ := HLD.out _ HB3.out)); clear hb3))
      | (go_at_call 111; ((with_reducible refine (KI.out _).mono ?_); rintro e w4 ⟨rfl, hb4⟩; (first | (have HB4 := Lib.hid (HB3.out.trans (hb4.mono HB3.out.size))) | (have HB3 := Lib.hid (HW.out _ (below_drewd hb4)); obtain ⟨k0, k1, k2⟩ := HLD.out _ HB3.out)); clear hb4)))
    all_goals (go_wp2_with fail)
    all_goals (go_ret; exact ⟨by rw [HSE.out]; rfl, HBD.out _ HB4.out⟩)
  · rw [if_neg hr]
    have hr' : rightC six b n = false := by simpa using hr
    rw [hr'] at KR
    clear hrr hr hr'
    generalize adA six b = ca at *
    generalize ptA six b n = pa at *
    go_enter Tryz.func61, Tryz.ntmps61
    go_wp2_with (go_at_call 59; ((with_reducible refine (KR.out _).mono ?_); rintro e w1 ⟨rfl, hb1⟩; have HB1 := Lib.hid hb1; clear hb1))
    go_ret
    exact ⟨rfl, HBD.out _ HB1.out⟩
end Go.Proofs.YtmcgkknpkocgoaaGreatDoor.Ad

