/- addr.dotted; addr.Parse of every text. -/
import Derived.Test.YtmcgkknpkocgoaaGreatDoorAdQ
namespace Go.Proofs.YtmcgkknpkocgoaaGreatDoor.Ad
open Go.RowKit Go.Proofs.YtmcgkknpkocgoaaGreatDoor.Mem Go.Proofs.YtmcgkknpkocgoaaGreatDoor.Num Go.Proofs.YtmcgkknpkocgoaaGreatDoor.Err Go.Proofs.YtmcgkknpkocgoaaGreatDoor.AdP
open Go.Proofs.YtmcgkknpkocgoaaGreatDoor.Head (pad pad_len adCells_one adCells_len infoAd splice_ad)
open Go.Proofs.YtmcgkknpkocgoaaGreatDoor.Addr (adV adA adCells)
set_option linter.unusedVariables false
set_option linter.unusedSimpArgs false
set_option maxRecDepth 100000
attribute [-go_sem] Builtin.append_ loadCells loadCellsFrom storeCells
theorem decP_range (s : List UInt8) : decP s = -1 ∨ (0 ≤ decP s ∧ decP s ≤ 255) := by
  unfold decP
  match hp : Lib.parseUintB 8 s with
  | .ok u =>
    have := parB_le _ u hp
    simp only
    split
    · exact .inl rfl
    · split
      · exact .inr (by omega)
      · exact .inl rfl
  | Lib.NumEnd.syntax => exact .inl rfl
  | Lib.NumEnd.range => exact .inl rfl
def dotP : List (List UInt8) → Option (List UInt8)
  | [] => some []
  | x :: r => if decP x < 0 then none else (dotP r).map (UInt8.ofNat (decP x).toNat :: ·)
theorem dotP_len : ∀ (l : List (List UInt8)) (b : List UInt8), dotP l = some b → b.length = l.length
  | [], b, h => by simp [dotP] at h; subst h; rfl
  | x :: r, b, h => by
    unfold dotP at h
    split at h
    · cases h
    · obtain ⟨t, h1, rfl⟩ := Option.map_eq_some_iff.1 h
      have := dotP_len r t h1
      simp [this]
/-- The address of four numbers. -/
def dotted (s : List UInt8) : Option (List UInt8) := if (parts 46 s).length = 4 then (dotP (parts 46 s)).map (· ++ List.replicate 12 0) else none
theorem dotted_len (s b : List UInt8) (h : dotted s = some b) : b.length = 16 := by
  unfold dotted at h
  split at h
  · rename_i h4
    obtain ⟨t, h1, rfl⟩ := Option.map_eq_some_iff.1 h
    have := dotP_len _ _ h1
    simp; omega
  · cases h
theorem fill_set (acc : List UInt8) (k : Nat) (hk : acc.length = k) (h4 : k < 16) (x : UInt8) : (adCells false (acc ++ List.replicate (16 - k) 0)).set (1 + k) (.int .u8 (x.toNat : Int)) = adCells false ((acc ++ [x]) ++ List.replicate (16 - (k + 1)) 0) := by
  subst hk
  unfold adCells
  rw [Nat.add_comm, List.set_cons_succ, show 16 - acc.length = (16 - (acc.length + 1)) + 1 by omega, List.replicate_succ]
  simp only [List.map_append, List.map_cons, List.map_nil, List.append_assoc, List.singleton_append]
  congr 1
  simp [List.set_append]
theorem store_one {P : Program} {b : Nat} {cs : List Value} {t : TypeId} {w : World} (hb : Blk b cs t w) (o : Nat) (h : o < cs.length) (v : Value) (hv : v.oneCell' = true) : (storeCells ⟨b, o, none⟩ [v]).run P w = .ok () (w.setCell ⟨b, o, none⟩ v) := by
  have hs := run_storeCells_cells (P := P) b o [v] 0 w (fun j hj => by simpa using ((hb.there o 1 (by omega)) j (by simpa using hj)).1) (fun j hj => by simpa using ((hb.there o 1 (by omega)) j (by simpa using hj)).2) (by simpa using hv)
  rw [Nat.add_zero] at hs
  exact hs
set_option maxHeartbeats 2000000 in
theorem dotted_calls (ea : Addr) (s : ByteArray) (w : World) (hE : Env ea w) (hs : s.size ≤ 1000) :
    Calls Tryz.prog 87 #[.string s] w fun e w' => RetAd ea ((dotted s.data.toList).map (fun b => (false, b))) e ∧ Below w.heap.size w w' := by
  have hsl : s.data.toList.length = s.size := Array.length_toList
  have KS := Lib.hid (fun W hE => split_calls ea s 46 W hE (by omega))
  have HPL := Lib.hid (parts_len 46 s.data.toList)
  have HM := Lib.hid (Mid.start hE)
  have HSL := Lib.hid (hsl ▸ hs : s.data.toList.length ≤ 1000)
  have HPC := Lib.hid (parts_count 46 s.data.toList)
  unfold dotted
  clear hsl hE hs
  generalize parts 46 s.data.toList = ls at *
  by_cases h4 : ls.length = 4
  · rw [if_pos h4]
    have H4 := Lib.hid h4
    clear h4
    go_enter Tryz.func87, Tryz.ntmps87
    go_wp2_with (go_at_call 136; ((with_reducible refine (KS.out _ HM.out.env).mono ?_); rintro e w1 ⟨⟨g, xs, rfl, hxs, htx⟩, hb1⟩; have HX := Lib.hid hxs; have HT := Lib.hid htx; have HM1 := Lib.hid (HM.out.below hb1); clear hb1; have hxl : (xs.length : Int) = 4 := (by have h1 := congrArg List.length HX.out; have := H4.out; simp at h1; omega); clear hxs htx))
    have HB0 := Lib.hid (Below.refl w1.heap.size w1 |>.alloc (Nat.le_refl _) (.cells zeroCs.toArray 24))
    have HK0 : Hid (Blk w1.heap.size (adCells false ([] ++ List.replicate (16 - 0) 0)) 24 (w1.alloc (.cells zeroCs.toArray 24))) := Lib.hid (Blk.new w1 _ _ _ _ rfl rfl)
    clear KS HM
    go_loopw [18] (fun iv wr => ∃ (k : Nat) (acc : List UInt8), iv = .int .i64 (k : Int) ∧ Hid (k ≤ 4 ∧ acc.length = k) ∧ Hid (dotP ls = (dotP (ls.drop k)).map (acc ++ ·)) ∧ Hid (Blk w1.heap.size (adCells false (acc ++ List.replicate (16 - k) 0)) 24 wr) ∧ Hid (Below w1.heap.size w1 wr)) (fun iv _ => 4 - (intOf iv).toNat)
    case atStart => exact ⟨0, [], rfl, Lib.hid ⟨by omega, rfl⟩, Lib.hid (by simp), HK0, HB0⟩
    case round =>
      obtain ⟨k, acc, rfl, HA, HR, HK, HB⟩ := hrel
      by_cases hlt : k < 4
      · have hx4 : xs.length = 4 := by omega
        have hcell := (HT.out.below HB.out) k (by omega)
        have hll : xs.length = ls.length := by rw [← HX.out]; simp
        have hlk : ls[k]'(by omega) = (xs[k]'(by omega)).data.toList := by
          have := HX.out
          subst this
          simp
        have hd : ls.drop k = (xs[k]'(by omega)).data.toList :: ls.drop (k + 1) := by rw [← hlk]; exact List.drop_eq_getElem_cons (by omega)
        have hsz : (xs[k]'(by omega)).size ≤ 1000 := by
          have h1 := HPL.out (xs[k]'(by omega)).data.toList (by rw [← hlk]; exact List.getElem_mem _)
          have h2 : (xs[k]'(by omega)).data.toList.length = (xs[k]'(by omega)).size := Array.length_toList
          have h3 := HSL.out
          omega
        have hstep : dotP ls = (if decP (xs[k]'(by omega)).data.toList < 0 then none else (dotP (ls.drop (k + 1))).map (UInt8.ofNat (decP (xs[k]'(by omega)).data.toList).toNat :: ·)).map (acc ++ ·) := by rw [HR.out, hd]; rfl
        have hnr := decP_range (xs[k]'(by omega)).data.toList
        have KD := Lib.hid (fun W hE => decimal_calls ea (xs[k]'(by omega)) W hE hsz)
        have hki : (k : Int) < 4 := by omega
        clear hlk hd hsz hll hx4
        generalize decP (xs[k]'(by omega)).data.toList = n at *
        generalize (xs[k]'(by omega)) = x at *
        by_cases hneg : n < 0
        · have HST : Hid (dotP ls = none) := Lib.hid (by rw [hstep, if_pos hneg]; rfl)
          obtain rfl : n = -1 := by omega
          clear hstep hnr hneg
          go_upto_region 10 with (go_at_call 137; ((with_reducible refine (KD.out _ (HM1.out.below HB.out).env).mono ?_); rintro e w2 ⟨rfl, hb2⟩; have HM2 := Lib.hid ((HM1.out.below HB.out).below hb2); clear hb2))
          have st := HM2.out.store1
          have ld := HM2.out.load1
          have cF := HM2.out.env.form.1
          have HB2 := Lib.hid HM2.out.bel
          unfold ev at cF
          clear HM1 HM2 KD
          go_region
          all_goals go_wp2
          all_goals exact bodyPost_ret (v := .tuple #[.agg zeroCs.toArray, .iface 226 (.pointer (some ea))]) (by simp [results, Tryz.results87, go_sem, ld]) rfl ⟨by rw [HST.out]; exact ret_none ea, below_drewN HB2.out 1⟩
        · have HST : Hid (dotP ls = (dotP (ls.drop (k + 1))).map ((acc ++ [UInt8.ofNat n.toNat]) ++ ·)) := Lib.hid (by rw [hstep, if_neg hneg, Option.map_map]; congr 1; funext t; simp)
          have hn0 : 0 ≤ n := by omega
          have hn1 : n ≤ 255 := by omega
          have hu8 : ((UInt8.ofNat n.toNat).toNat : Int) = n := by rw [UInt8.toNat_ofNat_of_lt' (by show n.toNat < 256; omega)]; omega
          have HST2 := Lib.hid hu8
          have HA2 := Lib.hid (show k + 1 ≤ 4 ∧ (acc ++ [UInt8.ofNat n.toNat]).length = k + 1 by have := HA.out; simp; omega)
          clear hstep hnr hneg hu8
          generalize UInt8.ofNat n.toNat = x8 at *
          go_upto_region 11 with (go_at_call 137; ((with_reducible refine (KD.out _ (HM1.out.below HB.out).env).mono ?_); rintro e w2 ⟨rfl, hb2⟩; have HK2 := Lib.hid (HK.out.below hb2); have HB2 := Lib.hid (HB.out.trans (hb2.mono HB.out.size)); clear hb2))
          obtain ⟨c0, hc0⟩ : ∃ c0, w2.cell? ⟨w1.heap.size, 1 + k, none⟩ = some c0 := ⟨_, HK2.out.cell (1 + k) _ (List.getElem?_eq_getElem (by have := HA.out; simp [adCells]; omega))⟩
          have hf0 := HK2.out.free (1 + k)
          have hso := store_one (P := Tryz.prog) HK2.out (1 + k) (by have := HA.out; simp [adCells]; omega) (.int .u8 n) rfl
          have HK3 : Hid (Blk w1.heap.size (adCells false ((acc ++ [x8]) ++ List.replicate (16 - (k + 1)) 0)) 24 (w2.setCell ⟨w1.heap.size, 1 + k, none⟩ (.int .u8 n))) := Lib.hid (by
            have := blk_set1 HK2.out (1 + k) (.int .u8 (x8.toNat : Int))
            rw [fill_set acc k HA.out.2 (by omega) x8, HST2.out] at this
            exact this)
          have HB3 := Lib.hid (HB2.out.setCell (p := ⟨w1.heap.size, 1 + k, none⟩) (Nat.le_refl _) (.int .u8 n))
          have hk16 : (k : Int) < 16 := by omega
          have hk0 : (0 : Int) ≤ (k : Int) := by omega
          clear HK HB HK2 HB2
          go_wp2
          go_roundw
          case rel => exact ⟨k + 1, acc ++ [x8], by go_num, HA2, HST, HK3, HB3⟩
          case measure => simp [intOf]; omega
      · obtain rfl : k = 4 := by have := HA.out; omega
        have hst : dotP ls = some acc := by
          rw [HR.out, List.drop_of_length_le (by have := H4.out; omega)]
          simp [dotP]
        have HST := Lib.hid hst
        clear hst
        have HKF : Hid (Blk w1.heap.size (adCells false (acc ++ List.replicate 12 0)) 24 wr) := HK
        have hL : (acc ++ List.replicate 12 0).length = 16 := by have := HA.out; simp; omega
        generalize hq : acc ++ List.replicate 12 0 = bb at *
        have HQ := Lib.hid hq
        have HL := Lib.hid hL
        have hld : (loadCells ⟨w1.heap.size, 0, none⟩ 17).run Tryz.prog wr = .ok (adA false bb) wr := HKF.out.load 0 17 (adCells false bb) (by rw [List.drop_zero, List.take_of_length_le (by rw [adCells_len _ _ hL]; omega)]) (adCells_len _ _ hL)
        have HMr := Lib.hid (HM1.out.below HB.out)
        clear hq hL HK
        go_wp2_with ((refine wp_store_blk rfl 24 (.tmp 2) (.tmp 35) rfl w.heap.size 0 (adCells false zero16) (adCells false bb) 24 _ rfl rfl rfl HMr.out.1 (by rw [adCells_len _ _ HL.out]; decide) (by rw [adCells_len _ _ HL.out]; exact infoAd) (adCells_one _ _) (by rw [adCells_len _ _ HL.out]; decide) ?_; intro w7 hk7 ha7; have HK7 := Lib.hid hk7; have HB7 : Hid (Below w.heap.size w w7) := Lib.hid (below_alt HMr.out.bel ha7 HMr.out.bel.size (fun k hk => by omega)); clear hk7 ha7))
        have hk7 := HK7.out
        rw [splice_all _ _ (by rw [adCells_len _ _ HL.out]; decide)] at hk7
        have hres : (loadCells ⟨w.heap.size, 0, none⟩ 17).run Tryz.prog w7 = .ok (adA false bb) w7 := hk7.load 0 17 (adCells false bb) (by rw [List.drop_zero, List.take_of_length_le (by rw [adCells_len _ _ HL.out]; omega)]) (adCells_len _ _ HL.out)
        exact bodyPost_ret (v := .tuple #[adV false bb, .nilIface]) (by simp [results, Tryz.results87, go_sem, hres]) rfl ⟨by rw [HST.out]; simp only [Option.map_some]; rw [HQ.out]; rfl, HB7.out⟩
  · rw [if_neg h4]
    have H4 := Lib.hid h4
    clear h4
    go_enter Tryz.func87, Tryz.ntmps87
    go_upto_region 3 with (go_at_call 136; ((with_reducible refine (KS.out _ HM.out.env).mono ?_); rintro e w1 ⟨⟨g, xs, rfl, hxs, htx⟩, hb1⟩; have HX := Lib.hid hxs; have HM1 := Lib.hid (HM.out.below hb1); clear hb1; have hxl : ((xs.length : Int) == 4) = false := (beq_eq_false_iff_ne.mpr (by have h1 := congrArg List.length HX.out; have := H4.out; simp at h1; omega)); have hxl2 : ((xs.length : Int) != 4) = true := (by rw [bne, hxl]; rfl); have hxi : (xs.length : Int) ≤ 1001 := (by have h1 := congrArg List.length HX.out; have h2 := HPC.out; have h3 := HSL.out; simp at h1; omega); clear hxs htx))
    have st := HM1.out.store1
    have ld := HM1.out.load1
    have cF := HM1.out.env.form.1
    have HB1 := Lib.hid HM1.out.bel
    unfold ev at cF
    clear HM HM1 KS
    go_region
    all_goals go_wp2
    all_goals exact bodyPost_ret (v := .tuple #[.agg zeroCs.toArray, .iface 226 (.pointer (some ea))]) (by simp [results, Tryz.results87, go_sem, ld]) rfl ⟨ret_none ea, below_drewN HB1.out 1⟩
end Go.Proofs.YtmcgkknpkocgoaaGreatDoor.Ad
