/- linkboyref19.Usable and Choose. -/
import Derived.Test.YtcfgffkjbkpfhaaCand15
namespace Go.Proofs.Ytcfgffkjbkpfhaa.Cand
open Go.RowKit Go.Proofs.Ytcfgffkjbkpfhaa.Mem Go.Proofs.Ytcfgffkjbkpfhaa.Num Go.Proofs.Ytcfgffkjbkpfhaa.Key
open Go.Proofs.Ytcfgffkjbkpfhaa.Addr hiding below_allocd
set_option linter.unusedVariables false
set_option linter.unusedSimpArgs false
set_option maxRecDepth 100000
attribute [-go_sem] Builtin.append_ loadCells loadCellsFrom storeCells run_eql_struct
theorem app_other {e : TypeId} {base : Nat} {W w4 : World} {av bv v4 : Value} {ys : List Cd} (hB : Own eCd e base W bv ys) (hd : ∃ i j, av.ownBlock = some i ∧ bv.ownBlock = some j ∧ i ≠ j) (hg : W.grownBy w4 av.ownBlock) (hat : v4.ownBlock = av.ownBlock ∨ v4.ownBlock = some W.heap.size) :
    Own eCd e base w4 bv ys ∧ ∃ i j, v4.ownBlock = some i ∧ bv.ownBlock = some j ∧ i ≠ j := by
  obtain ⟨i, j, h1, h2, h3⟩ := hd
  refine ⟨hB.kept hg (.inr (by rw [h1, h2]; intro h; injection h with h; omega)), ?_⟩
  rcases hat with h | h
  · exact ⟨i, j, h.trans h1, h2, h3⟩
  · exact ⟨_, j, h, h2, by have := (hB.block j h2).2; omega⟩
theorem two_flip {av bv : Value} (h : ∃ i j, av.ownBlock = some i ∧ bv.ownBlock = some j ∧ i ≠ j) : ∃ i j, bv.ownBlock = some i ∧ av.ownBlock = some j ∧ i ≠ j := by
  obtain ⟨i, j, h1, h2, h3⟩ := h
  exact ⟨j, i, h2, h1, fun e => h3 e.symm⟩
theorem blk_grown {b : Nat} {cs : List Value} {t : TypeId} {W w4 : World} {row : Option Nat} (h : Blk b cs t W) (hg : W.grownBy w4 row) (hn : ∀ g, row = some g → g ≠ b) : Blk b cs t w4 := (hg.block b h.lt (fun e => hn b e.symm rfl)).trans h
theorem cd_box {b : Nat} {x : Cd} {t : TypeId} {W : World} (h : Blk b x.cells t W) : (loadCells ⟨b, 0, none⟩ 23).run Try.prog W = .ok x.cells.toArray W ∧ W.cell? ⟨b, 18, none⟩ = some (.bool x.loc) ∧ W.cell? ⟨b, 19, none⟩ = some (.bool x.rdy) ∧ W.cell? ⟨b, 20, none⟩ = some (.bool x.srv) ∧ W.cell? ⟨b, 21, none⟩ = some (.bool x.trm) :=
  ⟨h.load 0 23 x.cells (by rw [List.drop_zero, List.take_of_length_le (by rw [Cd.len]; decide)]) (Cd.len x), h.cell 18 _ x.at.1, h.cell 19 _ x.at.2.1, h.cell 20 _ x.at.2.2.1, h.cell 21 _ x.at.2.2.2.1⟩
set_option maxHeartbeats 4000000 in
theorem rusable_calls (v : Value) (xs : List Cd) (w : World) (hv : Row eCd w v xs) (hl : xs.length ≤ 100000) :
    Calls Try.prog 14 #[v] w fun e w' => (∃ v', e = .returned v' ∧ Row eCd w' v' (usableL xs)) ∧ Below w.heap.size w w' := by
  obtain ⟨A, c, rfl, _, _, hr⟩ := hv.parts
  have HV : Hid (∀ W, Below w.heap.size w W → Row eCd W (.slice A xs.length c) xs) := Lib.hid (fun W hW => hr.below hW)
  have HBX := Lib.hid (fun (W : World) (x : Cd) => HBXr (P := Try.prog) W x)
  have hl2 : xs.length ≤ 9223372036854775807 := by omega
  obtain ⟨U, hU⟩ : ∃ U, U = usableL xs := ⟨_, rfl⟩
  rw [← hU]
  obtain ⟨p, hp⟩ : ∃ p : Cd → Bool, p = fun x => x.rdy := ⟨_, rfl⟩
  obtain ⟨r, hr2⟩ : ∃ r : Cd → Bool, r = fun x => x.srv && x.trm := ⟨_, rfl⟩
  have HP : Hid (∀ x : Cd, p x = x.rdy) := Lib.hid (fun x => by rw [hp])
  have HR : Hid (∀ x : Cd, r x = (x.srv && x.trm)) := Lib.hid (fun x => by rw [hr2])
  have HU : Hid (U = if 0 < (xs.filter p).length then xs.filter p else xs.filter r) := Lib.hid (by rw [hU, hp, hr2]; rfl)
  have HLN := Lib.hid (fun q k => take_filter_len xs q k hl)
  have HS0 : Hid (Own eCd 66 w.heap.size ((w.alloc (.cells #[] 66)).alloc (.cells #[] 66)) (.slice (some ⟨w.heap.size, 0, none⟩) 0 0) [] ∧ Own eCd 66 w.heap.size ((w.alloc (.cells #[] 66)).alloc (.cells #[] 66)) (.slice (some ⟨w.heap.size + 1, 0, none⟩) 0 0) []) := Lib.hid ⟨(Own.lit w w.heap.size eCd 66 [] 0 rfl _ rfl (Nat.le_refl _) (by simp)).alloc _, Own.lit' _ (w.heap.size + 1) (by simp) w.heap.size eCd 66 [] 0 rfl _ rfl (by simp) (by simp)⟩
  clear hv hr hl hU hp hr2
  go_enter Try.func14, Try.ntmps14
  go_wp2
  go_loopw [3, 4, 11] (fun av bv iv wr => ∃ k : Nat, k ≤ xs.length ∧ iv = .int .i64 (k : Int) ∧ Hid (Own eCd 66 w.heap.size wr av ((xs.take k).filter p)) ∧ Hid (Own eCd 66 w.heap.size wr bv ((xs.take k).filter r)) ∧ Hid (∃ i j, av.ownBlock = some i ∧ bv.ownBlock = some j ∧ i ≠ j) ∧ Hid (Below w.heap.size w wr)) (fun _ _ iv _ => xs.length - (intOf iv).toNat)
  case atStart => exact ⟨0, Nat.zero_le _, rfl, Lib.hid HS0.out.1, Lib.hid HS0.out.2, Lib.hid ⟨w.heap.size, w.heap.size + 1, rfl, rfl, Nat.ne_of_lt (Nat.lt_succ_self _)⟩, Lib.hid (((Below.refl _ _).alloc (Nat.le_refl _) _).alloc (by simp) _)⟩
  case round =>
    obtain ⟨k, hk, rfl, HA, HBV, HD, HW⟩ := hrel
    by_cases hlt : k < xs.length
    · have HF0 := trivial
      obtain ⟨ad, rfl, _⟩ := (HV.out _ HW.out).at hlt
      have hld : (loadCells (ad.add (k * 23)) 23).run Try.prog wr = .ok (xs[k].cells).toArray wr := row_load (HV.out _ HW.out) k hlt
      have HF1 := Lib.hid (filter_step xs p k hlt)
      have HF2 := Lib.hid (filter_step xs r k hlt)
      generalize xs[k] = x at hld HF1 HF2
      have HPX := Lib.hid (HP.out x)
      have HRX := Lib.hid (HR.out x)
      obtain ⟨w2, s2, k2, b2⟩ := HBX.out wr x
      obtain ⟨l2, _, c19, c20, c21⟩ := cd_box k2
      have HKB := Lib.hid k2
      have HB2 := Lib.hid (HW.out.trans (b2.mono HW.out.size))
      have HA2 := Lib.hid (HA.out.below b2)
      have HV2 := Lib.hid (HBV.out.below b2)
      have HLT : Hid (∀ g, u3.ownBlock = some g → g ≠ wr.heap.size) := Lib.hid (fun g hg => by have := (HA.out.block g hg).2; omega)
      have hsl : (x.cells.toArray).toList = x.cells := rfl
      have hsz : (x.cells.toArray).size = 23 := Cd.len x
      clear k2 b2
      cases g0 : x.rdy <;> cases g1 : x.srv <;> cases g2 : x.trm
      · have HE1 : Hid ((xs.take (k + 1)).filter p = (xs.take k).filter p) := Lib.hid (by rw [HF1.out, HPX.out]; simp [g0, g1, g2])
        have HE2 : Hid ((xs.take (k + 1)).filter r = (xs.take k).filter r) := Lib.hid (by rw [HF2.out, HRX.out]; simp [g0, g1, g2])
        rw [g0] at c19
        rw [g1] at c20
        rw [g2] at c21
        clear g0 g1 g2
        go_wp2
        go_roundw
        case rel => exact ⟨k + 1, by omega, by go_num, Lib.hid (by rw [HE1.out]; exact HA2.out), Lib.hid (by rw [HE2.out]; exact HV2.out), HD, HB2⟩
        case measure => simp [intOf]; omega
      · have HE1 : Hid ((xs.take (k + 1)).filter p = (xs.take k).filter p) := Lib.hid (by rw [HF1.out, HPX.out]; simp [g0, g1, g2])
        have HE2 : Hid ((xs.take (k + 1)).filter r = (xs.take k).filter r) := Lib.hid (by rw [HF2.out, HRX.out]; simp [g0, g1, g2])
        rw [g0] at c19
        rw [g1] at c20
        rw [g2] at c21
        clear g0 g1 g2
        go_wp2
        go_roundw
        case rel => exact ⟨k + 1, by omega, by go_num, Lib.hid (by rw [HE1.out]; exact HA2.out), Lib.hid (by rw [HE2.out]; exact HV2.out), HD, HB2⟩
        case measure => simp [intOf]; omega
      · have HE1 : Hid ((xs.take (k + 1)).filter p = (xs.take k).filter p) := Lib.hid (by rw [HF1.out, HPX.out]; simp [g0, g1, g2])
        have HE2 : Hid ((xs.take (k + 1)).filter r = (xs.take k).filter r) := Lib.hid (by rw [HF2.out, HRX.out]; simp [g0, g1, g2])
        rw [g0] at c19
        rw [g1] at c20
        rw [g2] at c21
        clear g0 g1 g2
        go_wp2
        go_roundw
        case rel => exact ⟨k + 1, by omega, by go_num, Lib.hid (by rw [HE1.out]; exact HA2.out), Lib.hid (by rw [HE2.out]; exact HV2.out), HD, HB2⟩
        case measure => simp [intOf]; omega
      · have HE1 : Hid ((xs.take (k + 1)).filter p = (xs.take k).filter p) := Lib.hid (by rw [HF1.out, HPX.out]; simp [g0, g1, g2])
        have HE2 : Hid ((xs.take (k + 1)).filter r = (xs.take k).filter r ++ [x]) := Lib.hid (by rw [HF2.out, HRX.out]; simp [g0, g1, g2])
        rw [g0] at c19
        rw [g1] at c20
        rw [g2] at c21
        clear g0 g1 g2
        go_wp2_with (at_builtin; refine wp_append (E := eCd) w.heap.size rfl (.tmp 27) (.tmp 29) 28 66 _ 64 rfl Try.underlying28 infoRc rfl (by decide) _ _ ((xs.take k).filter r) [x] rfl rfl (HV2.out.alloc _) (Own.lit w2 0 eCd 66 [x] 1 rfl _ (fold_cd x) (Nat.zero_le _) (by simp)).row (by have := HB2.out.size; simp; omega) (by have := HLN.out r k; simp; omega) ?_; intro v5 w5 ho5 hg5 hat5; have HO5 : Hid (Own eCd 66 w.heap.size w5 v5 ((xs.take (k + 1)).filter r)) := Lib.hid (by rw [HE2.out]; exact ho5); have HB5 := Lib.hid (below_app (HB2.out.alloc HB2.out.size _) (size_alloc_le HB2.out _) (HV2.out.alloc _) hg5); have HX5 := Lib.hid (app_other (v4 := v5) (HA2.out.alloc _) (two_flip HD.out) hg5 hat5); have HA5 := Lib.hid HX5.out.1; have HD5 := Lib.hid (two_flip HX5.out.2); clear ho5 hg5 hat5)
        go_roundw
        case rel => exact ⟨k + 1, by omega, by go_num, Lib.hid (by rw [HE1.out]; exact HA5.out), HO5, HD5, HB5⟩
        case measure => simp [intOf]; omega
      · have HE1 : Hid ((xs.take (k + 1)).filter p = (xs.take k).filter p ++ [x]) := Lib.hid (by rw [HF1.out, HPX.out]; simp [g0, g1, g2])
        have HE2 : Hid ((xs.take (k + 1)).filter r = (xs.take k).filter r) := Lib.hid (by rw [HF2.out, HRX.out]; simp [g0, g1, g2])
        rw [g0] at c19
        rw [g1] at c20
        rw [g2] at c21
        clear g0
        go_wp2_with (at_builtin; refine wp_append (E := eCd) w.heap.size rfl (.tmp 17) (.tmp 19) 28 66 _ 64 rfl Try.underlying28 infoRc rfl (by decide) _ _ ((xs.take k).filter p) [x] rfl rfl (HA2.out.alloc _) (Own.lit w2 0 eCd 66 [x] 1 rfl _ (fold_cd x) (Nat.zero_le _) (by simp)).row (by have := HB2.out.size; simp; omega) (by have := HLN.out p k; simp; omega) ?_; intro v4 w4 ho4 hg4 hat4; have HO4 : Hid (Own eCd 66 w.heap.size w4 v4 ((xs.take (k + 1)).filter p)) := Lib.hid (by rw [HE1.out]; exact ho4); have HB4 := Lib.hid (below_app (HB2.out.alloc HB2.out.size _) (size_alloc_le HB2.out _) (HA2.out.alloc _) hg4); have HX4 := Lib.hid (app_other (v4 := v4) (HV2.out.alloc _) HD.out hg4 hat4); obtain ⟨l4, _, _, d20, d21⟩ := cd_box (blk_grown (HKB.out.alloc _) hg4 HLT.out); have HV4 := Lib.hid HX4.out.1; have HD4 := Lib.hid HX4.out.2; rw [g1] at d20; rw [g2] at d21; clear g1 g2 ho4 hg4 hat4)
        go_roundw
        case rel => exact ⟨k + 1, by omega, by go_num, HO4, Lib.hid (by rw [HE2.out]; exact HV4.out), HD4, HB4⟩
        case measure => simp [intOf]; omega
      · have HE1 : Hid ((xs.take (k + 1)).filter p = (xs.take k).filter p ++ [x]) := Lib.hid (by rw [HF1.out, HPX.out]; simp [g0, g1, g2])
        have HE2 : Hid ((xs.take (k + 1)).filter r = (xs.take k).filter r) := Lib.hid (by rw [HF2.out, HRX.out]; simp [g0, g1, g2])
        rw [g0] at c19
        rw [g1] at c20
        rw [g2] at c21
        clear g0
        go_wp2_with (at_builtin; refine wp_append (E := eCd) w.heap.size rfl (.tmp 17) (.tmp 19) 28 66 _ 64 rfl Try.underlying28 infoRc rfl (by decide) _ _ ((xs.take k).filter p) [x] rfl rfl (HA2.out.alloc _) (Own.lit w2 0 eCd 66 [x] 1 rfl _ (fold_cd x) (Nat.zero_le _) (by simp)).row (by have := HB2.out.size; simp; omega) (by have := HLN.out p k; simp; omega) ?_; intro v4 w4 ho4 hg4 hat4; have HO4 : Hid (Own eCd 66 w.heap.size w4 v4 ((xs.take (k + 1)).filter p)) := Lib.hid (by rw [HE1.out]; exact ho4); have HB4 := Lib.hid (below_app (HB2.out.alloc HB2.out.size _) (size_alloc_le HB2.out _) (HA2.out.alloc _) hg4); have HX4 := Lib.hid (app_other (v4 := v4) (HV2.out.alloc _) HD.out hg4 hat4); obtain ⟨l4, _, _, d20, d21⟩ := cd_box (blk_grown (HKB.out.alloc _) hg4 HLT.out); have HV4 := Lib.hid HX4.out.1; have HD4 := Lib.hid HX4.out.2; rw [g1] at d20; rw [g2] at d21; clear g1 g2 ho4 hg4 hat4)
        go_roundw
        case rel => exact ⟨k + 1, by omega, by go_num, HO4, Lib.hid (by rw [HE2.out]; exact HV4.out), HD4, HB4⟩
        case measure => simp [intOf]; omega
      · have HE1 : Hid ((xs.take (k + 1)).filter p = (xs.take k).filter p ++ [x]) := Lib.hid (by rw [HF1.out, HPX.out]; simp [g0, g1, g2])
        have HE2 : Hid ((xs.take (k + 1)).filter r = (xs.take k).filter r) := Lib.hid (by rw [HF2.out, HRX.out]; simp [g0, g1, g2])
        rw [g0] at c19
        rw [g1] at c20
        rw [g2] at c21
        clear g0
        go_wp2_with (at_builtin; refine wp_append (E := eCd) w.heap.size rfl (.tmp 17) (.tmp 19) 28 66 _ 64 rfl Try.underlying28 infoRc rfl (by decide) _ _ ((xs.take k).filter p) [x] rfl rfl (HA2.out.alloc _) (Own.lit w2 0 eCd 66 [x] 1 rfl _ (fold_cd x) (Nat.zero_le _) (by simp)).row (by have := HB2.out.size; simp; omega) (by have := HLN.out p k; simp; omega) ?_; intro v4 w4 ho4 hg4 hat4; have HO4 : Hid (Own eCd 66 w.heap.size w4 v4 ((xs.take (k + 1)).filter p)) := Lib.hid (by rw [HE1.out]; exact ho4); have HB4 := Lib.hid (below_app (HB2.out.alloc HB2.out.size _) (size_alloc_le HB2.out _) (HA2.out.alloc _) hg4); have HX4 := Lib.hid (app_other (v4 := v4) (HV2.out.alloc _) HD.out hg4 hat4); obtain ⟨l4, _, _, d20, d21⟩ := cd_box (blk_grown (HKB.out.alloc _) hg4 HLT.out); have HV4 := Lib.hid HX4.out.1; have HD4 := Lib.hid HX4.out.2; rw [g1] at d20; rw [g2] at d21; clear g1 g2 ho4 hg4 hat4)
        go_roundw
        case rel => exact ⟨k + 1, by omega, by go_num, HO4, Lib.hid (by rw [HE2.out]; exact HV4.out), HD4, HB4⟩
        case measure => simp [intOf]; omega
      · have HE1 : Hid ((xs.take (k + 1)).filter p = (xs.take k).filter p ++ [x]) := Lib.hid (by rw [HF1.out, HPX.out]; simp [g0, g1, g2])
        have HE2 : Hid ((xs.take (k + 1)).filter r = (xs.take k).filter r ++ [x]) := Lib.hid (by rw [HF2.out, HRX.out]; simp [g0, g1, g2])
        rw [g0] at c19
        rw [g1] at c20
        rw [g2] at c21
        clear g0
        go_wp2_with (first
          | (at_builtin; refine wp_append (E := eCd) w.heap.size rfl (.tmp 17) (.tmp 19) 28 66 _ 64 rfl Try.underlying28 infoRc rfl (by decide) _ _ ((xs.take k).filter p) [x] rfl rfl (HA2.out.alloc _) (Own.lit w2 0 eCd 66 [x] 1 rfl _ (fold_cd x) (Nat.zero_le _) (by simp)).row (by have := HB2.out.size; simp; omega) (by have := HLN.out p k; simp; omega) ?_; intro v4 w4 ho4 hg4 hat4; have HO4 : Hid (Own eCd 66 w.heap.size w4 v4 ((xs.take (k + 1)).filter p)) := Lib.hid (by rw [HE1.out]; exact ho4); have HB4 := Lib.hid (below_app (HB2.out.alloc HB2.out.size _) (size_alloc_le HB2.out _) (HA2.out.alloc _) hg4); have HX4 := Lib.hid (app_other (v4 := v4) (HV2.out.alloc _) HD.out hg4 hat4); obtain ⟨l4, _, _, d20, d21⟩ := cd_box (blk_grown (HKB.out.alloc _) hg4 HLT.out); have HV4 := Lib.hid HX4.out.1; have HD4 := Lib.hid HX4.out.2; rw [g1] at d20; rw [g2] at d21; clear g1 g2 ho4 hg4 hat4)
          | (at_builtin; refine wp_append (E := eCd) w.heap.size rfl (.tmp 27) (.tmp 29) 28 66 _ 64 rfl Try.underlying28 infoRc rfl (by decide) _ _ ((xs.take k).filter r) [x] rfl rfl (HV4.out.alloc _) (Own.lit w4 0 eCd 66 [x] 1 rfl _ (fold_cd x) (Nat.zero_le _) (by simp)).row (by have := HB4.out.size; simp; omega) (by have := HLN.out r k; simp; omega) ?_; intro v5 w5 ho5 hg5 hat5; have HO5 : Hid (Own eCd 66 w.heap.size w5 v5 ((xs.take (k + 1)).filter r)) := Lib.hid (by rw [HE2.out]; exact ho5); have HB5 := Lib.hid (below_app (HB4.out.alloc HB4.out.size _) (size_alloc_le HB4.out _) (HV4.out.alloc _) hg5); have HX5 := Lib.hid (app_other (v4 := v5) (HO4.out.alloc _) (two_flip HD4.out) hg5 hat5); have HA5 := Lib.hid HX5.out.1; have HD5 := Lib.hid (two_flip HX5.out.2); clear ho5 hg5 hat5))
        go_roundw
        case rel => exact ⟨k + 1, by omega, by go_num, HA5, HO5, HD5, HB5⟩
        case measure => simp [intOf]; omega
    · have HA3 : Hid (Own eCd 66 w.heap.size wr u3 (xs.filter p)) := Lib.hid (by have := HA.out; rw [List.take_of_length_le (by omega)] at this; exact this)
      have HB3 : Hid (Own eCd 66 w.heap.size wr u4 (xs.filter r)) := Lib.hid (by have := HBV.out; rw [List.take_of_length_le (by omega)] at this; exact this)
      obtain ⟨A3, c3, rfl, _, hm3, _⟩ := HA3.out.row.parts
      by_cases h0 : 0 < (xs.filter p).length
      · have HE : Hid (U = xs.filter p) := Lib.hid (HU.out.trans (if_pos h0))
        have h0' : (0 : Int) < ((xs.filter p).length : Int) := by omega
        have hl3 : (xs.filter p).length ≤ 9223372036854775807 := by omega
        go_wp2
        go_ret
        exact ⟨⟨_, rfl, by rw [HE.out]; exact HA3.out.row⟩, HW.out⟩
      · have HE : Hid (U = xs.filter r) := Lib.hid (HU.out.trans (if_neg h0))
        have h0' : ¬ (0 : Int) < ((xs.filter p).length : Int) := by omega
        go_wp2
        go_ret
        exact ⟨⟨_, rfl, by rw [HE.out]; exact HB3.out.row⟩, HW.out⟩
end Go.Proofs.Ytcfgffkjbkpfhaa.Cand
