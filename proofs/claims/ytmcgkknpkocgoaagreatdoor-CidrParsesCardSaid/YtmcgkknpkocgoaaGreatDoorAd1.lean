/- The document's address of four numbers. -/
import Derived.Test.YtmcgkknpkocgoaaGreatDoorAdY
namespace Go.Proofs.YtmcgkknpkocgoaaGreatDoor.Ad
open Go.RowKit Go.Proofs.YtmcgkknpkocgoaaGreatDoor.Mem Go.Proofs.YtmcgkknpkocgoaaGreatDoor.Num Go.Proofs.YtmcgkknpkocgoaaGreatDoor.Err Go.Proofs.YtmcgkknpkocgoaaGreatDoor.AdP
open Go.Proofs.YtmcgkknpkocgoaaGreatDoor.Head (pad pad_len adCells_one adCells_len infoAd splice_ad)
open Go.Proofs.YtmcgkknpkocgoaaGreatDoor.Addr (adV adA adCells)
set_option linter.unusedVariables false
set_option linter.unusedSimpArgs false
set_option maxRecDepth 100000
attribute [-go_sem] Builtin.append_ loadCells loadCellsFrom storeCells
/-- What the document's parse of an address answers. -/
def RetR (r : Option (Bool × List UInt8)) (e : Ending) : Prop := match r with
  | some (six, b) => e = .returned (.tuple #[adV six b, .bool true])
  | none => e = .returned (.tuple #[adV false zero16, .bool false])
theorem retR_none : RetR none (.returned (.tuple #[.agg zeroCs.toArray, .bool false])) := rfl
theorem number10_range (s : List UInt8) : number s 10 3 = -1 ∨ (0 ≤ number s 10 3 ∧ number s 10 3 ≤ 9999) := by
  unfold number
  split
  · exact .inl rfl
  · rename_i h
    have key : ∀ (l : List UInt8) (n : Int) (k : Nat), 0 ≤ n → n < 10 ^ k → numL 10 n l = -1 ∨ (0 ≤ numL 10 n l ∧ numL 10 n l < 10 ^ (k + l.length)) := by
      intro l
      induction l with
      | nil => intro n k h1 h2; exact .inr ⟨h1, h2⟩
      | cons c l ih =>
        intro n k h1 h2
        unfold numL
        split
        · exact .inl rfl
        · have := ih (n * 10 + fig c) (k + 1) (by omega) (by rw [Int.pow_succ]; omega)
          rw [show k + 1 + l.length = k + (c :: l).length by simp; omega] at this
          exact this
    rcases key s 0 0 (by omega) (by decide) with h1 | ⟨h1, h2⟩
    · exact .inl h1
    · refine .inr ⟨h1, ?_⟩
      have : s.length = 1 ∨ s.length = 2 ∨ s.length = 3 := by omega
      rcases this with e | e | e <;> rw [e] at h2 <;> have : numL 10 0 s < 1000 := Int.lt_of_lt_of_le h2 (by decide) <;> omega
set_option maxHeartbeats 2000000 in
theorem four_calls (ea : Addr) (s : ByteArray) (w : World) (hE : Env ea w) (hs : s.size ≤ 1000) :
    Calls Tryz.prog 90 #[.string s] w fun e w' => RetR ((dotted s.data.toList).map (fun b => (false, b))) e ∧ Below w.heap.size w w' := by
  have hsl : s.data.toList.length = s.size := Array.length_toList
  have KS := Lib.hid (fun W => rsplit_calls s 46 W hs)
  change Hid (∀ W, Calls Tryz.prog 91 #[.string s, .int .u8 46] W fun e w' => RetSplit2 w' (parts 46 s.data.toList) e ∧ Below W.heap.size W w') at KS
  have HPL := Lib.hid (parts_len 46 s.data.toList)
  have HM := Lib.hid (Mid.start hE)
  have HSL := Lib.hid (hsl ▸ hs : s.data.toList.length ≤ 1000)
  have HPC := Lib.hid (parts_count 46 s.data.toList)
  unfold dotted
  clear hsl hE hs
  generalize parts 46 s.data.toList = ls at *
  by_cases h4 : ls.length = 4
  · rw [if_pos h4]
    have H4 := Lib.hid h4
    clear h4
    go_enter Tryz.func90, Tryz.ntmps90
    go_wp2_with (first
      | (go_at_call 91; ((with_reducible refine (KS.out _).mono ?_); rintro e w1 ⟨⟨g, cp, xs, rfl, hxs, htx, hc1, hc2⟩, hb1⟩; have HX := Lib.hid hxs; have HT := Lib.hid htx; have HM1 := Lib.hid (HM.out.below hb1); clear hb1; have hxl : (xs.length : Int) = 4 := (by have h1 := congrArg List.length HX.out; have := H4.out; simp at h1; omega); have hx4n : xs.length = 4 := (by omega); rw [hx4n] at hc1; have HX4 := Lib.hid hx4n; clear hxs htx hx4n))
      | (refine wp_store_blk rfl 24 (.tmp 5) (.tmp 11) rfl w1.heap.size 0 (adCells false zero16) (adCells false zero16) 24 _ rfl rfl rfl (Blk.new _ _ _ _ _ rfl rfl) (by decide) infoAd (adCells_one _ _) (by decide) ?_; intro w1' hk4 ha4; have HK0 : Hid (Blk w1.heap.size (adCells false ([] ++ List.replicate (16 - 0) 0)) 24 w1') := Lib.hid hk4; have HB0 := Lib.hid (below_alt (below_own_alloc w1 _) ha4 (by simp) (fun k hk => by omega)); clear hk4 ha4))
    clear KS HM
    go_loopw [18] (fun iv wr => ∃ (k : Nat) (acc : List UInt8), iv = .int .i64 (k : Int) ∧ Hid (k ≤ 4 ∧ acc.length = k) ∧ Hid (dotP ls = (dotP (ls.drop k)).map (acc ++ ·)) ∧ Hid (Blk w1.heap.size (adCells false (acc ++ List.replicate (16 - k) 0)) 24 wr) ∧ Hid (Below w1.heap.size w1 wr)) (fun iv _ => 4 - (intOf iv).toNat)
    case atStart => exact ⟨0, [], rfl, Lib.hid ⟨by omega, rfl⟩, Lib.hid (by simp), HK0, HB0⟩
    case round =>
      obtain ⟨k, acc, rfl, HA, HR, HK, HB⟩ := hrel
      by_cases hlt : k < 4
      · have hx4 : xs.length = 4 := by omega
        have hcell := (HT.out.below HB.out) k (by omega)
        have hll : xs.length = ls.length := by rw [← HX.out]; simp
        have hlk : ls[k]'(by omega) = (xs[k]'(by omega)).data.toList := by
          have := HX.out
          subst this
          simp
        have hd : ls.drop k = (xs[k]'(by omega)).data.toList :: ls.drop (k + 1) := by rw [← hlk]; exact List.drop_eq_getElem_cons (by omega)
        have hsz : (xs[k]'(by omega)).size ≤ 1000 := by
          have h1 := HPL.out (xs[k]'(by omega)).data.toList (by rw [← hlk]; exact List.getElem_mem _)
          have h2 : (xs[k]'(by omega)).data.toList.length = (xs[k]'(by omega)).size := Array.length_toList
          have h3 := HSL.out
          omega
        have hstep : dotP ls = (if decP (xs[k]'(by omega)).data.toList < 0 then none else (dotP (ls.drop (k + 1))).map (UInt8.ofNat (decP (xs[k]'(by omega)).data.toList).toNat :: ·)).map (acc ++ ·) := by rw [HR.out, hd]; rfl
        rw [dec_eq] at hstep
        have KD := Lib.hid (fun W => rnumber_calls (xs[k]'(by omega)) 10 3 (.inr ⟨rfl, rfl⟩) W hsz)
        change Hid (∀ W, Calls Tryz.prog 92 #[.string (xs[k]'(by omega)), .int .i64 10, .int .i64 3] W fun e w' => e = .returned (.int .i64 (number (xs[k]'(by omega)).data.toList 10 3)) ∧ W = w') at KD
        have hki : (k : Int) < 4 := by omega
        have hstep2 : dotP ls = (if decR (xs[k]'(by omega)).data.toList < 0 then none else (dotP (ls.drop (k + 1))).map (UInt8.ofNat (decR (xs[k]'(by omega)).data.toList).toNat :: ·)).map (acc ++ ·) := hstep
        have hnb := number10_range (xs[k]'(by omega)).data.toList
        have hsl1 : (xs[k]'(by omega)).data.toList.length = (xs[k]'(by omega)).size := Array.length_toList
        have hx0 : (xs[k]'(by omega)).data.toList[0]? = some 48 ↔ ∃ h : 0 < (xs[k]'(by omega)).size, (xs[k]'(by omega))[0] = 48 := by
          constructor
          · intro h
            obtain ⟨h1, h2⟩ := List.getElem?_eq_some_iff.1 h
            exact ⟨by rw [← hsl1]; exact h1, h2⟩
          · rintro ⟨h1, h2⟩
            exact List.getElem?_eq_some_iff.2 ⟨by rw [hsl1]; exact h1, h2⟩
        have hcase : (decR (xs[k]'(by omega)).data.toList = -1 ∧ (number (xs[k]'(by omega)).data.toList 10 3 < 0 ∨ 255 < number (xs[k]'(by omega)).data.toList 10 3 ∨ (1 < (xs[k]'(by omega)).size ∧ ∃ h : 0 < (xs[k]'(by omega)).size, (xs[k]'(by omega))[0] = 48))) ∨ (decR (xs[k]'(by omega)).data.toList = number (xs[k]'(by omega)).data.toList 10 3 ∧ 0 ≤ number (xs[k]'(by omega)).data.toList 10 3 ∧ number (xs[k]'(by omega)).data.toList 10 3 ≤ 255 ∧ ¬ (1 < (xs[k]'(by omega)).size ∧ ∃ h : 0 < (xs[k]'(by omega)).size, (xs[k]'(by omega))[0] = 48)) := by
          unfold decR
          rw [← hx0, ← hsl1]
          by_cases hb : number (xs[k]'(by omega)).data.toList 10 3 < 0 ∨ 255 < number (xs[k]'(by omega)).data.toList 10 3 ∨ (1 < (xs[k]'(by omega)).data.toList.length ∧ (xs[k]'(by omega)).data.toList[0]? = some 48)
          · exact .inl ⟨if_pos hb, hb⟩
          · exact .inr ⟨if_neg hb, by omega, by omega, fun h => hb (.inr (.inr h))⟩
        clear hlk hd hll hstep hx0
        have hkx : (k : Int) < (xs.length : Int) := by omega
        clear hx4
        generalize decR (xs[k]'(by omega)).data.toList = d at *
        generalize number (xs[k]'(by omega)).data.toList 10 3 = n at *
        generalize (xs[k]'(by omega)) = x at *
        clear hsl1
        have hszi : (x.size : Int) ≤ 1000 := by omega
        have HMr := Lib.hid (HM1.out.below HB.out)
        rcases hcase with ⟨rfl, hbad⟩ | ⟨rfl, hn0, hn1, hbad⟩
        · have HST : Hid (dotP ls = none) := Lib.hid (by rw [hstep2]; rfl)
          have st := HMr.out.store0
          have ld := HMr.out.load0
          have HB2 := Lib.hid HMr.out.bel
          clear hstep2 HM1 HMr HK HR
          by_cases hn0 : n < 0
          · obtain rfl : n = -1 := by omega
            clear hbad hn0 hnb
            go_wp2_with (go_at_call 92; ((with_reducible refine (KD.out _).mono ?_); rintro e w2 ⟨rfl, rfl⟩))
            exact bodyPost_ret (v := .tuple #[.agg zeroCs.toArray, .bool false]) (by simp [results, Tryz.results90, go_sem, ld]) rfl ⟨by rw [HST.out]; exact retR_none, HB2.out⟩
          · have hn1 : 0 ≤ n := by omega
            by_cases hn2 : 255 < n
            · have hn3 : n ≤ 9999 := by omega
              clear hbad hn0 hnb
              go_wp2_with (go_at_call 92; ((with_reducible refine (KD.out _).mono ?_); rintro e w2 ⟨rfl, rfl⟩))
              exact bodyPost_ret (v := .tuple #[.agg zeroCs.toArray, .bool false]) (by simp [results, Tryz.results90, go_sem, ld]) rfl ⟨by rw [HST.out]; exact retR_none, HB2.out⟩
            · have hn3 : n ≤ 255 := by omega
              have hs1 : 1 < x.size := by rcases hbad with h | h | h <;> first | omega | exact h.1
              obtain ⟨hp0, hx48⟩ : ∃ h : 0 < x.size, x[0] = 48 := by rcases hbad with h | h | h <;> first | omega | exact h.2
              have hs1i : (1 : Int) < (x.size : Int) := by omega
              have hx48i : ((x[0].toNat : Int) == 48) = true := by rw [hx48]; rfl
              clear hbad hn0 hn2 hnb hx48
              go_wp2_with (go_at_call 92; ((with_reducible refine (KD.out _).mono ?_); rintro e w2 ⟨rfl, rfl⟩))
              exact bodyPost_ret (v := .tuple #[.agg zeroCs.toArray, .bool false]) (by simp [results, Tryz.results90, go_sem, ld]) rfl ⟨by rw [HST.out]; exact retR_none, HB2.out⟩
        · have HST : Hid (dotP ls = (dotP (ls.drop (k + 1))).map ((acc ++ [UInt8.ofNat d.toNat]) ++ ·)) := Lib.hid (by rw [hstep2, if_neg (by omega), Option.map_map]; congr 1; funext t; simp)
          have hu8 : ((UInt8.ofNat d.toNat).toNat : Int) = d := by rw [UInt8.toNat_ofNat_of_lt' (by show d.toNat < 256; omega)]; omega
          have HST2 := Lib.hid hu8
          have HA2 := Lib.hid (show k + 1 ≤ 4 ∧ (acc ++ [UInt8.ofNat d.toNat]).length = k + 1 by have := HA.out; simp; omega)
          clear hu8
          generalize UInt8.ofNat d.toNat = x8 at *
          obtain ⟨c0, hc0⟩ : ∃ c0, wr.cell? ⟨w1.heap.size, 1 + k, none⟩ = some c0 := ⟨_, HK.out.cell (1 + k) _ (List.getElem?_eq_getElem (by have := HA.out; simp [adCells]; omega))⟩
          have hf0 := HK.out.free (1 + k)
          have hso := store_one (P := Tryz.prog) HK.out (1 + k) (by have := HA.out; simp [adCells]; omega) (.int .u8 d) rfl
          have HK3 : Hid (Blk w1.heap.size (adCells false ((acc ++ [x8]) ++ List.replicate (16 - (k + 1)) 0)) 24 (wr.setCell ⟨w1.heap.size, 1 + k, none⟩ (.int .u8 d))) := Lib.hid (by
            have := blk_set1 HK.out (1 + k) (.int .u8 (x8.toNat : Int))
            rw [fill_set acc k HA.out.2 (by omega) x8, HST2.out] at this
            exact this)
          have HB3 := Lib.hid (HB.out.setCell (p := ⟨w1.heap.size, 1 + k, none⟩) (Nat.le_refl _) (.int .u8 d))
          have hk16 : (k : Int) < 16 := by omega
          have hk0 : (0 : Int) ≤ (k : Int) := by omega
          by_cases hs1 : 1 < x.size
          · have hp0 : 0 < x.size := by omega
            have hx48 : ¬ x[0] = 48 := fun h => hbad ⟨hs1, hp0, h⟩
            have hs1i : (1 : Int) < (x.size : Int) := by omega
            have hx48i : ((x[0].toNat : Int) == 48) = false := beq_eq_false_iff_ne.mpr (fun h => hx48 (UInt8.toNat_inj.1 (by have h3 : x[0].toNat = 48 := (by omega); simpa using h3)))
            clear HK HB hstep2 hbad hnb hx48 HMr HR
            go_wp2_with (go_at_call 92; ((with_reducible refine (KD.out _).mono ?_); rintro e w2 ⟨rfl, rfl⟩))
            go_roundw
            case rel => exact ⟨k + 1, acc ++ [x8], by go_num, HA2, HST, HK3, HB3⟩
            case measure => simp [intOf]; omega
          · have hs1i : (x.size : Int) ≤ 1 := by omega
            clear HK HB hstep2 hbad hnb HMr HR
            go_wp2_with (go_at_call 92; ((with_reducible refine (KD.out _).mono ?_); rintro e w2 ⟨rfl, rfl⟩))
            go_roundw
            case rel => exact ⟨k + 1, acc ++ [x8], by go_num, HA2, HST, HK3, HB3⟩
            case measure => simp [intOf]; omega
      · obtain rfl : k = 4 := by have := HA.out; omega
        have hst : dotP ls = some acc := by
          rw [HR.out, List.drop_of_length_le (by have := H4.out; omega)]
          simp [dotP]
        have HST := Lib.hid hst
        clear hst
        have HKF : Hid (Blk w1.heap.size (adCells false (acc ++ List.replicate 12 0)) 24 wr) := HK
        have hL : (acc ++ List.replicate 12 0).length = 16 := by have := HA.out; simp; omega
        generalize hq : acc ++ List.replicate 12 0 = bb at *
        have HQ := Lib.hid hq
        have HL := Lib.hid hL
        have hld : (loadCells ⟨w1.heap.size, 0, none⟩ 17).run Tryz.prog wr = .ok (adA false bb) wr := HKF.out.load 0 17 (adCells false bb) (by rw [List.drop_zero, List.take_of_length_le (by rw [adCells_len _ _ hL]; omega)]) (adCells_len _ _ hL)
        have HMr := Lib.hid (HM1.out.below HB.out)
        clear hq hL HK
        go_wp2_with ((refine wp_store_blk rfl 24 (.tmp 2) (.tmp 48) rfl w.heap.size 0 (adCells false zero16) (adCells false bb) 24 _ rfl rfl rfl HMr.out.1 (by rw [adCells_len _ _ HL.out]; decide) (by rw [adCells_len _ _ HL.out]; exact infoAd) (adCells_one _ _) (by rw [adCells_len _ _ HL.out]; decide) ?_; intro w7 hk7 ha7; have HK7 := Lib.hid hk7; have HB7 : Hid (Below w.heap.size w w7) := Lib.hid (below_alt HMr.out.bel ha7 HMr.out.bel.size (fun k hk => by omega)); clear hk7 ha7))
        have hk7 := HK7.out
        rw [splice_all _ _ (by rw [adCells_len _ _ HL.out]; decide)] at hk7
        have hres : (loadCells ⟨w.heap.size, 0, none⟩ 17).run Tryz.prog w7 = .ok (adA false bb) w7 := hk7.load 0 17 (adCells false bb) (by rw [List.drop_zero, List.take_of_length_le (by rw [adCells_len _ _ HL.out]; omega)]) (adCells_len _ _ HL.out)
        exact bodyPost_ret (v := .tuple #[adV false bb, .bool true]) (by simp [results, Tryz.results90, go_sem, hres]) rfl ⟨by rw [HST.out]; simp only [Option.map_some]; rw [HQ.out]; rfl, HB7.out⟩
  · rw [if_neg h4]
    have H4 := Lib.hid h4
    clear h4
    go_enter Tryz.func90, Tryz.ntmps90
    go_wp2_with (first
      | (go_at_call 91; ((with_reducible refine (KS.out _).mono ?_); rintro e w1 ⟨⟨g, cp, xs, rfl, hxs, htx, hc1, hc2⟩, hb1⟩; have HX := Lib.hid hxs; have HM1 := Lib.hid (HM.out.below hb1); clear hb1; have hxl : ((xs.length : Int) == 4) = false := (beq_eq_false_iff_ne.mpr (by have h1 := congrArg List.length HX.out; have := H4.out; simp at h1; omega)); have hxl2 : ((xs.length : Int) != 4) = true := (by rw [bne, hxl]; rfl); have hxi : (xs.length : Int) ≤ 1001 := (by have h1 := congrArg List.length HX.out; have h2 := HPC.out; have h3 := HSL.out; simp at h1; omega); clear hxs htx))
      | (refine wp_store_blk rfl 24 (.tmp 5) (.tmp 11) rfl w1.heap.size 0 (adCells false zero16) (adCells false zero16) 24 _ rfl rfl rfl (Blk.new _ _ _ _ _ rfl rfl) (by decide) infoAd (adCells_one _ _) (by decide) ?_; intro w1' hk4 ha4; have hld := (show Blk w1.heap.size (adCells false zero16) 24 w1' from hk4).load (P := Tryz.prog) 0 17 zeroCs rfl rfl; have HB0 := Lib.hid (below_alt (below_own_alloc w1 _) ha4 (by simp) (fun k hk => by omega)); have st := (HM1.out.below HB0.out).store0; have ld := (HM1.out.below HB0.out).load0; have HB1 := Lib.hid (HM1.out.below HB0.out).bel; clear hk4 ha4))
    exact bodyPost_ret (v := .tuple #[.agg zeroCs.toArray, .bool false]) (by simp [results, Tryz.results90, go_sem, ld]) rfl ⟨retR_none, HB1.out⟩
end Go.Proofs.YtmcgkknpkocgoaaGreatDoor.Ad
