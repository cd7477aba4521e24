/- addr.coloned where the text is an address. -/
import Derived.Test.YtmcgkknpkocgoaaGreatDoorAdC
namespace Go.Proofs.YtmcgkknpkocgoaaGreatDoor.Ad
open Go.RowKit Go.Proofs.YtmcgkknpkocgoaaGreatDoor.Mem Go.Proofs.YtmcgkknpkocgoaaGreatDoor.Num Go.Proofs.YtmcgkknpkocgoaaGreatDoor.Err Go.Proofs.YtmcgkknpkocgoaaGreatDoor.AdP
open Go.Proofs.YtmcgkknpkocgoaaGreatDoor.Head (pad pad_len adCells_one adCells_len infoAd splice_ad)
open Go.Proofs.YtmcgkknpkocgoaaGreatDoor.Addr (adV adA adCells)
set_option linter.unusedVariables false
set_option linter.unusedSimpArgs false
set_option maxRecDepth 100000
attribute [-go_sem] Builtin.append_ loadCells loadCellsFrom storeCells
theorem mapU (l : List UInt8) : eU8.all l = l.map (fun x => Value.int .u8 (x.toNat : Int)) := all_one1 _ _ l
/-- The bytes of both rows, noughts between. -/
def both (a b : List UInt8) : List UInt8 := a ++ List.replicate (16 - a.length - b.length) 0 ++ b
theorem both_len (a b : List UInt8) (h : a.length + b.length ≤ 16) : (both a b).length = 16 := by simp [both]; omega
theorem splice_two (a b : List UInt8) (h : a.length + b.length ≤ 16) : splice (splice (adCells true zero16) 1 (eU8.all a)) (17 - b.length) (eU8.all b) = adCells true (both a b) := by
  unfold splice adCells both zero16
  simp only [mapU, List.map_append, List.map_replicate]
  generalize (Value.int .u8 ((0 : UInt8).toNat : Int)) = z
  have ha : (a.map (fun x => Value.int .u8 (x.toNat : Int))).length = a.length := List.length_map ..
  have hb : (b.map (fun x => Value.int .u8 (x.toNat : Int))).length = b.length := List.length_map ..
  generalize a.map (fun x => Value.int .u8 (x.toNat : Int)) = A at *
  generalize b.map (fun x => Value.int .u8 (x.toNat : Int)) = B at *
  rw [← ha, ← hb] at h
  rw [← ha, ← hb]
  rw [show 1 + A.length = A.length + 1 by omega, List.drop_succ_cons, List.drop_replicate]
  rw [show List.take 1 (Value.bool true :: List.replicate 16 z) = [Value.bool true] from rfl, List.singleton_append]
  rw [show 17 - B.length = (16 - B.length) + 1 by omega, List.take_succ_cons, show 16 - B.length + 1 + B.length = 16 + 1 by omega, List.drop_succ_cons]
  rw [List.take_append, List.drop_append, List.take_of_length_le (by omega), List.drop_of_length_le (l := A) (by omega), List.take_replicate, List.drop_replicate]
  rw [show min (16 - B.length - A.length) (16 - A.length) = 16 - A.length - B.length by omega, show 16 - A.length - (16 - A.length) = 0 by omega]
  simp
theorem len_spliced (a : List UInt8) (h : a.length ≤ 16) : (splice (adCells true zero16) 1 (eU8.all a)).length = 17 := by
  rw [length_splice]
  · rfl
  · rw [mapU, List.length_map]; show 1 + a.length ≤ 17; omega
theorem src_of {w : World} {A : Option Addr} {n c : Nat} {l : List UInt8} (h : Row eU8 w (.slice A n c) l) (h0 : 0 < (eU8.all l).length) : ∃ ad, A = some ad ∧ ∀ j v, (eU8.all l)[j]? = some v → w.cell? (ad.add j) = some v := by
  have hl : (eU8.all l).length = l.length := by rw [mapU, List.length_map]
  have hc := h.cap
  cases A with
  | none => have := hc.2.2 rfl; omega
  | some ad => exact ⟨ad, rfl, h.cells ad rfl⟩
set_option maxHeartbeats 2000000 in
theorem coloned_g1n (ea : Addr) (s : ByteArray) (p1 p2 : List UInt8) (p3 : Bool) (w : World) (hE : Env ea w) (hs : s.size ≤ 1000) (hp : Lib.cut s.data.toList [58, 58] = (p1, p2, p3)) (hp3 : p3 = true) (h0 : s.size ≠ 0) (a b : List UInt8) (h1 : row p1 = some a) (h2 : row p2 = some b) (hf : a.length + b.length ≤ 14) (hb0 : b.length ≠ 0) :
    Calls Tryz.prog 86 #[.string s] w fun e w' => RetAd ea (some (true, both a b)) e ∧ Below w.heap.size w w' := by
  have hsl : s.data.toList.length = s.size := Array.length_toList
  have hcl := cut_len s.data.toList [58, 58]
  rw [hp] at hcl
  have KC : Hid (∀ W, Env ea W → Calls Tryz.prog 106 #[.string s, .string ⟨#[58, 58]⟩] W fun e w' => (e = .returned (.tuple #[.string (str p1), .string (str p2), .bool p3])) ∧ Below W.heap.size W w') := Lib.hid (fun W hE => by
    have := cut_calls ea s ⟨#[58, 58]⟩ W hE (by omega)
    rw [show ((⟨#[58, 58]⟩ : ByteArray).data.toList) = [58, 58] from rfl, hp] at this
    exact this)
  have KH : Hid (∀ W, Env ea W → Calls Tryz.prog 135 #[.string (str p1)] W fun e w' => RetRow W.heap.size w' (row p1) e ∧ Below W.heap.size W w') := Lib.hid (fun W hE => row_calls ea (str p1) W hE (by rw [str_size]; simp only at hcl; omega))
  have KT : Hid (∀ W, Env ea W → Calls Tryz.prog 135 #[.string (str p2)] W fun e w' => RetRow W.heap.size w' (row p2) e ∧ Below W.heap.size W w') := Lib.hid (fun W hE => row_calls ea (str p2) W hE (by rw [str_size]; simp only at hcl; omega))
  have HM := Lib.hid (Mid.start hE)
  subst hp3
  have HR1 := Lib.hid h1
  have HR2 := Lib.hid h2
  have hnl : s.data.toList ≠ [] := fun h => by rw [h] at hsl; simp at hsl; omega
  have hne : s.toList.isEmpty = false := by
    rw [ByteArray.toList_eq]
    cases h : s.data.toList with
    | nil => exact absurd h hnl
    | cons a l => rfl
  have hne2 : (s.toList = []) = False := by
    rw [eq_iff_iff, iff_false]; intro e; rw [e] at hne; simp at hne
  have hai : (a.length : Int) ≤ 16 := by omega
  have hbi : (b.length : Int) ≤ 16 := by omega
  have hff : decide (16 - (a.length : Int) - (b.length : Int) < 2) = false := decide_eq_false (by omega)
  have hcsz : (Tryz.prog.info? 5).map (·.size) = some 1 := by kernel_rfl
  have HAL := Lib.hid (show (eU8.all a).length = a.length by rw [mapU, List.length_map])
  have HBL := Lib.hid (show (eU8.all b).length = b.length by rw [mapU, List.length_map])
  have HAB := Lib.hid (show a.length + b.length ≤ 16 by omega)
  obtain ⟨m, hm⟩ : ∃ m : Nat, 16 - (b.length : Int) = (m : Int) := ⟨16 - b.length, by omega⟩
  have HMB := Lib.hid (show m + b.length = 16 by omega)
  have HMN := Lib.hid (show b.length = Nat.min b.length (16 - m) by rw [show 16 - m = b.length by omega]; exact (Nat.min_self _).symm)
  have hm16 : (m : Int) ≤ 16 := by omega
  have hsp : (16 = m) = False := eq_false (by omega)
  clear hb0
  clear h1 h2 hf hnl h0
  clear hsl hcl hp hs hE
  go_enter Tryz.func86, Tryz.ntmps86
  go_upto_region 9 with (first
    | (go_at_call 106; ((with_reducible refine (KC.out _ HM.out.env).mono ?_); rintro e w1 ⟨rfl, hb1⟩; have HM1 := Lib.hid (HM.out.below hb1); clear hb1))
    | (go_at_call 135; ((with_reducible refine (KH.out _ HM1.out.env).mono ?_); rintro e w2 ⟨hr, hb2⟩; obtain ⟨A1, c1, rfl, hn1, hc1, HV1⟩ := ret_row_some hr HR1.out; have HM2 := Lib.hid (HM1.out.below hb2); clear hb2 hr))
    | (go_at_call 135; ((with_reducible refine (KT.out _ HM2.out.env).mono ?_); rintro e w3 ⟨hr, hb3⟩; obtain ⟨A2, c2, rfl, hn2, hc2, HV2⟩ := ret_row_some hr HR2.out; have HM3 := Lib.hid (HM2.out.below hb3); have HW1 := Lib.hid (HV1.out.below hb3); clear hb3 hr)))
  have HLT := Lib.hid HM3.out.1.lt
  clear KC KH KT HM HM1 HM2
  go_upto_region 10 with (first
    | (refine wp_store_blk rfl 24 (.tmp 12) (.tmp 64) rfl w3.heap.size 0 (adCells false zero16) (adCells true zero16) 24 _ rfl rfl rfl (Blk.new _ _ _ _ _ rfl rfl) (by decide) infoAd (adCells_one _ _) (by decide) ?_; intro w4 hk4 ha4; have HK4 : Hid (Blk w3.heap.size (adCells true zero16) 24 w4) := Lib.hid hk4; have HB4 := Lib.hid (below_alt (below_own_alloc w3 _) ha4 (by simp) (fun k hk => by omega)); clear hk4 ha4))
  go_upto_region 11 with (first
    | (refine wpList_copy_splice rfl (.tmp 66) (.tmp 67) 39 39 rfl 5 Tryz.underlying39 hcsz _ _ _ _ _ _ rfl rfl w3.heap.size 1 (adCells true zero16) 24 HK4.out (eU8.all a) (by rw [HAL.out]; exact (Nat.min_eq_left (by have := HAB.out; omega)).symm) (fun h0 => ⟨rfl, src_of (HW1.out.below HB4.out) h0⟩) (by rw [HAL.out]; have := HAB.out; show 1 + a.length ≤ 17; omega) (eU8.all_one a) w3.heap.size w3 HB4.out (Nat.le_refl _) ?_; intro w5 hg5 hb5; have HK5 : Hid (Blk w3.heap.size (splice (adCells true zero16) 1 (eU8.all a)) 24 w5) := Lib.hid hg5.out; have HB5 := Lib.hid hb5; clear hg5 hb5))
  go_wp2_with (first
    | (refine wpList_copy_splice rfl (.tmp 73) (.tmp 74) 39 39 rfl 5 Tryz.underlying39 hcsz _ _ _ _ _ _ rfl rfl w3.heap.size (1 + m) (splice (adCells true zero16) 1 (eU8.all a)) 24 HK5.out (eU8.all b) (by rw [HBL.out]; exact HMN.out) (fun h0 => ⟨rfl, src_of (HV2.out.below HB5.out) h0⟩) (by rw [HBL.out, len_spliced a (by have := HAB.out; omega)]; have := HMB.out; omega) (eU8.all_one b) w3.heap.size w3 HB5.out (Nat.le_refl _) ?_; intro w6 hg6 hb6; have HK6 : Hid (Blk w3.heap.size (adCells true (both a b)) 24 w6) := Lib.hid (by have := hg6.out; rw [show 1 + m = 17 - b.length by have := HMB.out; omega, splice_two a b HAB.out] at this; exact this); have HB6 := Lib.hid hb6; have hld : (loadCells ⟨w3.heap.size, 0, none⟩ 17).run Tryz.prog w6 = .ok (adA true (both a b)) w6 := HK6.out.load 0 17 (adCells true (both a b)) (by rw [List.drop_zero, List.take_of_length_le (by rw [adCells_len _ _ (both_len a b HAB.out)]; omega)]) (adCells_len _ _ (both_len a b HAB.out)); have HZ6 : Hid (Blk w.heap.size (adCells false zero16) 24 w6) := Lib.hid (HM3.out.1.below hb6); clear hg6 hb6)
    | (refine wp_store_blk rfl 24 (.tmp 2) (.tmp 76) rfl w.heap.size 0 (adCells false zero16) (adCells true (both a b)) 24 _ rfl rfl rfl HZ6.out (by rw [adCells_len _ _ (both_len a b HAB.out)]; decide) (by rw [adCells_len _ _ (both_len a b HAB.out)]; exact infoAd) (adCells_one _ _) (by rw [adCells_len _ _ (both_len a b HAB.out)]; decide) ?_; intro w7 hk7 ha7; have HK7 := Lib.hid hk7; have HB7 : Hid (Below w.heap.size w w7) := Lib.hid (below_alt (HM3.out.bel.trans (HB6.out.mono HM3.out.bel.size)) ha7 (Nat.le_trans HM3.out.bel.size HB6.out.size) (fun k hk => by omega)); clear hk7 ha7))
  · have hk7 := HK7.out
    rw [splice_all _ _ (by rw [adCells_len _ _ (both_len a b HAB.out)]; decide)] at hk7
    have hres : (loadCells ⟨w.heap.size, 0, none⟩ 17).run Tryz.prog w7 = .ok (adA true (both a b)) w7 := hk7.load 0 17 (adCells true (both a b)) (by rw [List.drop_zero, List.take_of_length_le (by rw [adCells_len _ _ (both_len a b HAB.out)]; omega)]) (adCells_len _ _ (both_len a b HAB.out))
    exact bodyPost_ret (v := .tuple #[adV true (both a b), .nilIface]) (by simp [results, Tryz.results86, go_sem, hres]) rfl ⟨rfl, HB7.out⟩
set_option maxHeartbeats 2000000 in
theorem coloned_g1z (ea : Addr) (s : ByteArray) (p1 p2 : List UInt8) (p3 : Bool) (w : World) (hE : Env ea w) (hs : s.size ≤ 1000) (hp : Lib.cut s.data.toList [58, 58] = (p1, p2, p3)) (hp3 : p3 = true) (h0 : s.size ≠ 0) (a b : List UInt8) (h1 : row p1 = some a) (h2 : row p2 = some b) (hf : a.length + b.length ≤ 14) (hb0 : b.length = 0) :
    Calls Tryz.prog 86 #[.string s] w fun e w' => RetAd ea (some (true, both a b)) e ∧ Below w.heap.size w w' := by
  have hsl : s.data.toList.length = s.size := Array.length_toList
  have hcl := cut_len s.data.toList [58, 58]
  rw [hp] at hcl
  have KC : Hid (∀ W, Env ea W → Calls Tryz.prog 106 #[.string s, .string ⟨#[58, 58]⟩] W fun e w' => (e = .returned (.tuple #[.string (str p1), .string (str p2), .bool p3])) ∧ Below W.heap.size W w') := Lib.hid (fun W hE => by
    have := cut_calls ea s ⟨#[58, 58]⟩ W hE (by omega)
    rw [show ((⟨#[58, 58]⟩ : ByteArray).data.toList) = [58, 58] from rfl, hp] at this
    exact this)
  have KH : Hid (∀ W, Env ea W → Calls Tryz.prog 135 #[.string (str p1)] W fun e w' => RetRow W.heap.size w' (row p1) e ∧ Below W.heap.size W w') := Lib.hid (fun W hE => row_calls ea (str p1) W hE (by rw [str_size]; simp only at hcl; omega))
  have KT : Hid (∀ W, Env ea W → Calls Tryz.prog 135 #[.string (str p2)] W fun e w' => RetRow W.heap.size w' (row p2) e ∧ Below W.heap.size W w') := Lib.hid (fun W hE => row_calls ea (str p2) W hE (by rw [str_size]; simp only at hcl; omega))
  have HM := Lib.hid (Mid.start hE)
  subst hp3
  have HR1 := Lib.hid h1
  have HR2 := Lib.hid h2
  have hnl : s.data.toList ≠ [] := fun h => by rw [h] at hsl; simp at hsl; omega
  have hne : s.toList.isEmpty = false := by
    rw [ByteArray.toList_eq]
    cases h : s.data.toList with
    | nil => exact absurd h hnl
    | cons a l => rfl
  have hne2 : (s.toList = []) = False := by
    rw [eq_iff_iff, iff_false]; intro e; rw [e] at hne; simp at hne
  have hai : (a.length : Int) ≤ 16 := by omega
  have hbi : (b.length : Int) ≤ 16 := by omega
  have hff : decide (16 - (a.length : Int) - (b.length : Int) < 2) = false := decide_eq_false (by omega)
  have hcsz : (Tryz.prog.info? 5).map (·.size) = some 1 := by kernel_rfl
  have HAL := Lib.hid (show (eU8.all a).length = a.length by rw [mapU, List.length_map])
  have HBL := Lib.hid (show (eU8.all b).length = b.length by rw [mapU, List.length_map])
  have HAB := Lib.hid (show a.length + b.length ≤ 16 by omega)
  obtain ⟨m, hm⟩ : ∃ m : Nat, 16 - (b.length : Int) = (m : Int) := ⟨16 - b.length, by omega⟩
  have HMB := Lib.hid (show m + b.length = 16 by omega)
  have HMN := Lib.hid (show b.length = Nat.min b.length (16 - m) by rw [show 16 - m = b.length by omega]; exact (Nat.min_self _).symm)
  have hm16 : (m : Int) ≤ 16 := by omega
  have hsp : (16 = m) = True := eq_true (by omega)
  have HB0 := Lib.hid (show (eU8.all b).length = 0 by rw [mapU, List.length_map]; omega)
  clear hb0
  clear h1 h2 hf hnl h0
  clear hsl hcl hp hs hE
  go_enter Tryz.func86, Tryz.ntmps86
  go_upto_region 9 with (first
    | (go_at_call 106; ((with_reducible refine (KC.out _ HM.out.env).mono ?_); rintro e w1 ⟨rfl, hb1⟩; have HM1 := Lib.hid (HM.out.below hb1); clear hb1))
    | (go_at_call 135; ((with_reducible refine (KH.out _ HM1.out.env).mono ?_); rintro e w2 ⟨hr, hb2⟩; obtain ⟨A1, c1, rfl, hn1, hc1, HV1⟩ := ret_row_some hr HR1.out; have HM2 := Lib.hid (HM1.out.below hb2); clear hb2 hr))
    | (go_at_call 135; ((with_reducible refine (KT.out _ HM2.out.env).mono ?_); rintro e w3 ⟨hr, hb3⟩; obtain ⟨A2, c2, rfl, hn2, hc2, HV2⟩ := ret_row_some hr HR2.out; have HM3 := Lib.hid (HM2.out.below hb3); have HW1 := Lib.hid (HV1.out.below hb3); clear hb3 hr)))
  have HLT := Lib.hid HM3.out.1.lt
  clear KC KH KT HM HM1 HM2
  go_upto_region 10 with (first
    | (refine wp_store_blk rfl 24 (.tmp 12) (.tmp 64) rfl w3.heap.size 0 (adCells false zero16) (adCells true zero16) 24 _ rfl rfl rfl (Blk.new _ _ _ _ _ rfl rfl) (by decide) infoAd (adCells_one _ _) (by decide) ?_; intro w4 hk4 ha4; have HK4 : Hid (Blk w3.heap.size (adCells true zero16) 24 w4) := Lib.hid hk4; have HB4 := Lib.hid (below_alt (below_own_alloc w3 _) ha4 (by simp) (fun k hk => by omega)); clear hk4 ha4))
  go_upto_region 11 with (first
    | (refine wpList_copy_splice rfl (.tmp 66) (.tmp 67) 39 39 rfl 5 Tryz.underlying39 hcsz _ _ _ _ _ _ rfl rfl w3.heap.size 1 (adCells true zero16) 24 HK4.out (eU8.all a) (by rw [HAL.out]; exact (Nat.min_eq_left (by have := HAB.out; omega)).symm) (fun h0 => ⟨rfl, src_of (HW1.out.below HB4.out) h0⟩) (by rw [HAL.out]; have := HAB.out; show 1 + a.length ≤ 17; omega) (eU8.all_one a) w3.heap.size w3 HB4.out (Nat.le_refl _) ?_; intro w5 hg5 hb5; have HK5 : Hid (Blk w3.heap.size (splice (adCells true zero16) 1 (eU8.all a)) 24 w5) := Lib.hid hg5.out; have HB5 := Lib.hid hb5; clear hg5 hb5))
  go_wp2_with (first
    | (refine wpList_copy_splice rfl (.tmp 73) (.tmp 74) 39 39 rfl 5 Tryz.underlying39 hcsz _ _ _ _ _ _ rfl rfl w3.heap.size (1 + m) (splice (adCells true zero16) 1 (eU8.all a)) 24 HK5.out (eU8.all b) (by rw [HBL.out]; exact HMN.out) (fun h0 => by exfalso; have := HB0.out; omega) (by rw [HBL.out, len_spliced a (by have := HAB.out; omega)]; have := HMB.out; omega) (eU8.all_one b) w3.heap.size w3 HB5.out (Nat.le_refl _) ?_; intro w6 hg6 hb6; have HK6 : Hid (Blk w3.heap.size (adCells true (both a b)) 24 w6) := Lib.hid (by have := hg6.out; rw [show 1 + m = 17 - b.length by have := HMB.out; omega, splice_two a b HAB.out] at this; exact this); have HB6 := Lib.hid hb6; have hld : (loadCells ⟨w3.heap.size, 0, none⟩ 17).run Tryz.prog w6 = .ok (adA true (both a b)) w6 := HK6.out.load 0 17 (adCells true (both a b)) (by rw [List.drop_zero, List.take_of_length_le (by rw [adCells_len _ _ (both_len a b HAB.out)]; omega)]) (adCells_len _ _ (both_len a b HAB.out)); have HZ6 : Hid (Blk w.heap.size (adCells false zero16) 24 w6) := Lib.hid (HM3.out.1.below hb6); clear hg6 hb6)
    | (refine wp_store_blk rfl 24 (.tmp 2) (.tmp 76) rfl w.heap.size 0 (adCells false zero16) (adCells true (both a b)) 24 _ rfl rfl rfl HZ6.out (by rw [adCells_len _ _ (both_len a b HAB.out)]; decide) (by rw [adCells_len _ _ (both_len a b HAB.out)]; exact infoAd) (adCells_one _ _) (by rw [adCells_len _ _ (both_len a b HAB.out)]; decide) ?_; intro w7 hk7 ha7; have HK7 := Lib.hid hk7; have HB7 : Hid (Below w.heap.size w w7) := Lib.hid (below_alt (HM3.out.bel.trans (HB6.out.mono HM3.out.bel.size)) ha7 (Nat.le_trans HM3.out.bel.size HB6.out.size) (fun k hk => by omega)); clear hk7 ha7))
  · have hk7 := HK7.out
    rw [splice_all _ _ (by rw [adCells_len _ _ (both_len a b HAB.out)]; decide)] at hk7
    have hres : (loadCells ⟨w.heap.size, 0, none⟩ 17).run Tryz.prog w7 = .ok (adA true (both a b)) w7 := hk7.load 0 17 (adCells true (both a b)) (by rw [List.drop_zero, List.take_of_length_le (by rw [adCells_len _ _ (both_len a b HAB.out)]; omega)]) (adCells_len _ _ (both_len a b HAB.out))
    exact bodyPost_ret (v := .tuple #[adV true (both a b), .nilIface]) (by simp [results, Tryz.results86, go_sem, hres]) rfl ⟨rfl, HB7.out⟩
set_option maxHeartbeats 2000000 in
theorem coloned_g2n (ea : Addr) (s : ByteArray) (p1 p2 : List UInt8) (p3 : Bool) (w : World) (hE : Env ea w) (hs : s.size ≤ 1000) (hp : Lib.cut s.data.toList [58, 58] = (p1, p2, p3)) (hp3 : p3 = false) (h0 : s.size ≠ 0) (a b : List UInt8) (h1 : row p1 = some a) (h2 : row p2 = some b) (hf : a.length + b.length = 16) (hb0 : b.length ≠ 0) :
    Calls Tryz.prog 86 #[.string s] w fun e w' => RetAd ea (some (true, both a b)) e ∧ Below w.heap.size w w' := by
  have hsl : s.data.toList.length = s.size := Array.length_toList
  have hcl := cut_len s.data.toList [58, 58]
  rw [hp] at hcl
  have KC : Hid (∀ W, Env ea W → Calls Tryz.prog 106 #[.string s, .string ⟨#[58, 58]⟩] W fun e w' => (e = .returned (.tuple #[.string (str p1), .string (str p2), .bool p3])) ∧ Below W.heap.size W w') := Lib.hid (fun W hE => by
    have := cut_calls ea s ⟨#[58, 58]⟩ W hE (by omega)
    rw [show ((⟨#[58, 58]⟩ : ByteArray).data.toList) = [58, 58] from rfl, hp] at this
    exact this)
  have KH : Hid (∀ W, Env ea W → Calls Tryz.prog 135 #[.string (str p1)] W fun e w' => RetRow W.heap.size w' (row p1) e ∧ Below W.heap.size W w') := Lib.hid (fun W hE => row_calls ea (str p1) W hE (by rw [str_size]; simp only at hcl; omega))
  have KT : Hid (∀ W, Env ea W → Calls Tryz.prog 135 #[.string (str p2)] W fun e w' => RetRow W.heap.size w' (row p2) e ∧ Below W.heap.size W w') := Lib.hid (fun W hE => row_calls ea (str p2) W hE (by rw [str_size]; simp only at hcl; omega))
  have HM := Lib.hid (Mid.start hE)
  subst hp3
  have HR1 := Lib.hid h1
  have HR2 := Lib.hid h2
  have hnl : s.data.toList ≠ [] := fun h => by rw [h] at hsl; simp at hsl; omega
  have hne : s.toList.isEmpty = false := by
    rw [ByteArray.toList_eq]
    cases h : s.data.toList with
    | nil => exact absurd h hnl
    | cons a l => rfl
  have hne2 : (s.toList = []) = False := by
    rw [eq_iff_iff, iff_false]; intro e; rw [e] at hne; simp at hne
  have hai : (a.length : Int) ≤ 16 := by omega
  have hbi : (b.length : Int) ≤ 16 := by omega
  have hff : (16 - (a.length : Int) - (b.length : Int) == 0) = true := beq_iff_eq.mpr (by omega)
  have hff2 : (16 - (a.length : Int) - (b.length : Int) != 0) = false := by rw [bne, hff]; rfl
  have hcsz : (Tryz.prog.info? 5).map (·.size) = some 1 := by kernel_rfl
  have HAL := Lib.hid (show (eU8.all a).length = a.length by rw [mapU, List.length_map])
  have HBL := Lib.hid (show (eU8.all b).length = b.length by rw [mapU, List.length_map])
  have HAB := Lib.hid (show a.length + b.length ≤ 16 by omega)
  obtain ⟨m, hm⟩ : ∃ m : Nat, 16 - (b.length : Int) = (m : Int) := ⟨16 - b.length, by omega⟩
  have HMB := Lib.hid (show m + b.length = 16 by omega)
  have HMN := Lib.hid (show b.length = Nat.min b.length (16 - m) by rw [show 16 - m = b.length by omega]; exact (Nat.min_self _).symm)
  have hm16 : (m : Int) ≤ 16 := by omega
  have hsp : (16 = m) = False := eq_false (by omega)
  clear hb0
  clear h1 h2 hf hnl h0
  clear hsl hcl hp hs hE
  go_enter Tryz.func86, Tryz.ntmps86
  go_upto_region 9 with (first
    | (go_at_call 106; ((with_reducible refine (KC.out _ HM.out.env).mono ?_); rintro e w1 ⟨rfl, hb1⟩; have HM1 := Lib.hid (HM.out.below hb1); clear hb1))
    | (go_at_call 135; ((with_reducible refine (KH.out _ HM1.out.env).mono ?_); rintro e w2 ⟨hr, hb2⟩; obtain ⟨A1, c1, rfl, hn1, hc1, HV1⟩ := ret_row_some hr HR1.out; have HM2 := Lib.hid (HM1.out.below hb2); clear hb2 hr))
    | (go_at_call 135; ((with_reducible refine (KT.out _ HM2.out.env).mono ?_); rintro e w3 ⟨hr, hb3⟩; obtain ⟨A2, c2, rfl, hn2, hc2, HV2⟩ := ret_row_some hr HR2.out; have HM3 := Lib.hid (HM2.out.below hb3); have HW1 := Lib.hid (HV1.out.below hb3); clear hb3 hr)))
  have HLT := Lib.hid HM3.out.1.lt
  clear KC KH KT HM HM1 HM2
  go_upto_region 10 with (first
    | (refine wp_store_blk rfl 24 (.tmp 12) (.tmp 64) rfl w3.heap.size 0 (adCells false zero16) (adCells true zero16) 24 _ rfl rfl rfl (Blk.new _ _ _ _ _ rfl rfl) (by decide) infoAd (adCells_one _ _) (by decide) ?_; intro w4 hk4 ha4; have HK4 : Hid (Blk w3.heap.size (adCells true zero16) 24 w4) := Lib.hid hk4; have HB4 := Lib.hid (below_alt (below_own_alloc w3 _) ha4 (by simp) (fun k hk => by omega)); clear hk4 ha4))
  go_upto_region 11 with (first
    | (refine wpList_copy_splice rfl (.tmp 66) (.tmp 67) 39 39 rfl 5 Tryz.underlying39 hcsz _ _ _ _ _ _ rfl rfl w3.heap.size 1 (adCells true zero16) 24 HK4.out (eU8.all a) (by rw [HAL.out]; exact (Nat.min_eq_left (by have := HAB.out; omega)).symm) (fun h0 => ⟨rfl, src_of (HW1.out.below HB4.out) h0⟩) (by rw [HAL.out]; have := HAB.out; show 1 + a.length ≤ 17; omega) (eU8.all_one a) w3.heap.size w3 HB4.out (Nat.le_refl _) ?_; intro w5 hg5 hb5; have HK5 : Hid (Blk w3.heap.size (splice (adCells true zero16) 1 (eU8.all a)) 24 w5) := Lib.hid hg5.out; have HB5 := Lib.hid hb5; clear hg5 hb5))
  go_wp2_with (first
    | (refine wpList_copy_splice rfl (.tmp 73) (.tmp 74) 39 39 rfl 5 Tryz.underlying39 hcsz _ _ _ _ _ _ rfl rfl w3.heap.size (1 + m) (splice (adCells true zero16) 1 (eU8.all a)) 24 HK5.out (eU8.all b) (by rw [HBL.out]; exact HMN.out) (fun h0 => ⟨rfl, src_of (HV2.out.below HB5.out) h0⟩) (by rw [HBL.out, len_spliced a (by have := HAB.out; omega)]; have := HMB.out; omega) (eU8.all_one b) w3.heap.size w3 HB5.out (Nat.le_refl _) ?_; intro w6 hg6 hb6; have HK6 : Hid (Blk w3.heap.size (adCells true (both a b)) 24 w6) := Lib.hid (by have := hg6.out; rw [show 1 + m = 17 - b.length by have := HMB.out; omega, splice_two a b HAB.out] at this; exact this); have HB6 := Lib.hid hb6; have hld : (loadCells ⟨w3.heap.size, 0, none⟩ 17).run Tryz.prog w6 = .ok (adA true (both a b)) w6 := HK6.out.load 0 17 (adCells true (both a b)) (by rw [List.drop_zero, List.take_of_length_le (by rw [adCells_len _ _ (both_len a b HAB.out)]; omega)]) (adCells_len _ _ (both_len a b HAB.out)); have HZ6 : Hid (Blk w.heap.size (adCells false zero16) 24 w6) := Lib.hid (HM3.out.1.below hb6); clear hg6 hb6)
    | (refine wp_store_blk rfl 24 (.tmp 2) (.tmp 76) rfl w.heap.size 0 (adCells false zero16) (adCells true (both a b)) 24 _ rfl rfl rfl HZ6.out (by rw [adCells_len _ _ (both_len a b HAB.out)]; decide) (by rw [adCells_len _ _ (both_len a b HAB.out)]; exact infoAd) (adCells_one _ _) (by rw [adCells_len _ _ (both_len a b HAB.out)]; decide) ?_; intro w7 hk7 ha7; have HK7 := Lib.hid hk7; have HB7 : Hid (Below w.heap.size w w7) := Lib.hid (below_alt (HM3.out.bel.trans (HB6.out.mono HM3.out.bel.size)) ha7 (Nat.le_trans HM3.out.bel.size HB6.out.size) (fun k hk => by omega)); clear hk7 ha7))
  · have hk7 := HK7.out
    rw [splice_all _ _ (by rw [adCells_len _ _ (both_len a b HAB.out)]; decide)] at hk7
    have hres : (loadCells ⟨w.heap.size, 0, none⟩ 17).run Tryz.prog w7 = .ok (adA true (both a b)) w7 := hk7.load 0 17 (adCells true (both a b)) (by rw [List.drop_zero, List.take_of_length_le (by rw [adCells_len _ _ (both_len a b HAB.out)]; omega)]) (adCells_len _ _ (both_len a b HAB.out))
    exact bodyPost_ret (v := .tuple #[adV true (both a b), .nilIface]) (by simp [results, Tryz.results86, go_sem, hres]) rfl ⟨rfl, HB7.out⟩
set_option maxHeartbeats 2000000 in
theorem coloned_g2z (ea : Addr) (s : ByteArray) (p1 p2 : List UInt8) (p3 : Bool) (w : World) (hE : Env ea w) (hs : s.size ≤ 1000) (hp : Lib.cut s.data.toList [58, 58] = (p1, p2, p3)) (hp3 : p3 = false) (h0 : s.size ≠ 0) (a b : List UInt8) (h1 : row p1 = some a) (h2 : row p2 = some b) (hf : a.length + b.length = 16) (hb0 : b.length = 0) :
    Calls Tryz.prog 86 #[.string s] w fun e w' => RetAd ea (some (true, both a b)) e ∧ Below w.heap.size w w' := by
  have hsl : s.data.toList.length = s.size := Array.length_toList
  have hcl := cut_len s.data.toList [58, 58]
  rw [hp] at hcl
  have KC : Hid (∀ W, Env ea W → Calls Tryz.prog 106 #[.string s, .string ⟨#[58, 58]⟩] W fun e w' => (e = .returned (.tuple #[.string (str p1), .string (str p2), .bool p3])) ∧ Below W.heap.size W w') := Lib.hid (fun W hE => by
    have := cut_calls ea s ⟨#[58, 58]⟩ W hE (by omega)
    rw [show ((⟨#[58, 58]⟩ : ByteArray).data.toList) = [58, 58] from rfl, hp] at this
    exact this)
  have KH : Hid (∀ W, Env ea W → Calls Tryz.prog 135 #[.string (str p1)] W fun e w' => RetRow W.heap.size w' (row p1) e ∧ Below W.heap.size W w') := Lib.hid (fun W hE => row_calls ea (str p1) W hE (by rw [str_size]; simp only at hcl; omega))
  have KT : Hid (∀ W, Env ea W → Calls Tryz.prog 135 #[.string (str p2)] W fun e w' => RetRow W.heap.size w' (row p2) e ∧ Below W.heap.size W w') := Lib.hid (fun W hE => row_calls ea (str p2) W hE (by rw [str_size]; simp only at hcl; omega))
  have HM := Lib.hid (Mid.start hE)
  subst hp3
  have HR1 := Lib.hid h1
  have HR2 := Lib.hid h2
  have hnl : s.data.toList ≠ [] := fun h => by rw [h] at hsl; simp at hsl; omega
  have hne : s.toList.isEmpty = false := by
    rw [ByteArray.toList_eq]
    cases h : s.data.toList with
    | nil => exact absurd h hnl
    | cons a l => rfl
  have hne2 : (s.toList = []) = False := by
    rw [eq_iff_iff, iff_false]; intro e; rw [e] at hne; simp at hne
  have hai : (a.length : Int) ≤ 16 := by omega
  have hbi : (b.length : Int) ≤ 16 := by omega
  have hff : (16 - (a.length : Int) - (b.length : Int) == 0) = true := beq_iff_eq.mpr (by omega)
  have hff2 : (16 - (a.length : Int) - (b.length : Int) != 0) = false := by rw [bne, hff]; rfl
  have hcsz : (Tryz.prog.info? 5).map (·.size) = some 1 := by kernel_rfl
  have HAL := Lib.hid (show (eU8.all a).length = a.length by rw [mapU, List.length_map])
  have HBL := Lib.hid (show (eU8.all b).length = b.length by rw [mapU, List.length_map])
  have HAB := Lib.hid (show a.length + b.length ≤ 16 by omega)
  obtain ⟨m, hm⟩ : ∃ m : Nat, 16 - (b.length : Int) = (m : Int) := ⟨16 - b.length, by omega⟩
  have HMB := Lib.hid (show m + b.length = 16 by omega)
  have HMN := Lib.hid (show b.length = Nat.min b.length (16 - m) by rw [show 16 - m = b.length by omega]; exact (Nat.min_self _).symm)
  have hm16 : (m : Int) ≤ 16 := by omega
  have hsp : (16 = m) = True := eq_true (by omega)
  have HB0 := Lib.hid (show (eU8.all b).length = 0 by rw [mapU, List.length_map]; omega)
  clear hb0
  clear h1 h2 hf hnl h0
  clear hsl hcl hp hs hE
  go_enter Tryz.func86, Tryz.ntmps86
  go_upto_region 9 with (first
    | (go_at_call 106; ((with_reducible refine (KC.out _ HM.out.env).mono ?_); rintro e w1 ⟨rfl, hb1⟩; have HM1 := Lib.hid (HM.out.below hb1); clear hb1))
    | (go_at_call 135; ((with_reducible refine (KH.out _ HM1.out.env).mono ?_); rintro e w2 ⟨hr, hb2⟩; obtain ⟨A1, c1, rfl, hn1, hc1, HV1⟩ := ret_row_some hr HR1.out; have HM2 := Lib.hid (HM1.out.below hb2); clear hb2 hr))
    | (go_at_call 135; ((with_reducible refine (KT.out _ HM2.out.env).mono ?_); rintro e w3 ⟨hr, hb3⟩; obtain ⟨A2, c2, rfl, hn2, hc2, HV2⟩ := ret_row_some hr HR2.out; have HM3 := Lib.hid (HM2.out.below hb3); have HW1 := Lib.hid (HV1.out.below hb3); clear hb3 hr)))
  have HLT := Lib.hid HM3.out.1.lt
  clear KC KH KT HM HM1 HM2
  go_upto_region 10 with (first
    | (refine wp_store_blk rfl 24 (.tmp 12) (.tmp 64) rfl w3.heap.size 0 (adCells false zero16) (adCells true zero16) 24 _ rfl rfl rfl (Blk.new _ _ _ _ _ rfl rfl) (by decide) infoAd (adCells_one _ _) (by decide) ?_; intro w4 hk4 ha4; have HK4 : Hid (Blk w3.heap.size (adCells true zero16) 24 w4) := Lib.hid hk4; have HB4 := Lib.hid (below_alt (below_own_alloc w3 _) ha4 (by simp) (fun k hk => by omega)); clear hk4 ha4))
  go_upto_region 11 with (first
    | (refine wpList_copy_splice rfl (.tmp 66) (.tmp 67) 39 39 rfl 5 Tryz.underlying39 hcsz _ _ _ _ _ _ rfl rfl w3.heap.size 1 (adCells true zero16) 24 HK4.out (eU8.all a) (by rw [HAL.out]; exact (Nat.min_eq_left (by have := HAB.out; omega)).symm) (fun h0 => ⟨rfl, src_of (HW1.out.below HB4.out) h0⟩) (by rw [HAL.out]; have := HAB.out; show 1 + a.length ≤ 17; omega) (eU8.all_one a) w3.heap.size w3 HB4.out (Nat.le_refl _) ?_; intro w5 hg5 hb5; have HK5 : Hid (Blk w3.heap.size (splice (adCells true zero16) 1 (eU8.all a)) 24 w5) := Lib.hid hg5.out; have HB5 := Lib.hid hb5; clear hg5 hb5))
  go_wp2_with (first
    | (refine wpList_copy_splice rfl (.tmp 73) (.tmp 74) 39 39 rfl 5 Tryz.underlying39 hcsz _ _ _ _ _ _ rfl rfl w3.heap.size (1 + m) (splice (adCells true zero16) 1 (eU8.all a)) 24 HK5.out (eU8.all b) (by rw [HBL.out]; exact HMN.out) (fun h0 => by exfalso; have := HB0.out; omega) (by rw [HBL.out, len_spliced a (by have := HAB.out; omega)]; have := HMB.out; omega) (eU8.all_one b) w3.heap.size w3 HB5.out (Nat.le_refl _) ?_; intro w6 hg6 hb6; have HK6 : Hid (Blk w3.heap.size (adCells true (both a b)) 24 w6) := Lib.hid (by have := hg6.out; rw [show 1 + m = 17 - b.length by have := HMB.out; omega, splice_two a b HAB.out] at this; exact this); have HB6 := Lib.hid hb6; have hld : (loadCells ⟨w3.heap.size, 0, none⟩ 17).run Tryz.prog w6 = .ok (adA true (both a b)) w6 := HK6.out.load 0 17 (adCells true (both a b)) (by rw [List.drop_zero, List.take_of_length_le (by rw [adCells_len _ _ (both_len a b HAB.out)]; omega)]) (adCells_len _ _ (both_len a b HAB.out)); have HZ6 : Hid (Blk w.heap.size (adCells false zero16) 24 w6) := Lib.hid (HM3.out.1.below hb6); clear hg6 hb6)
    | (refine wp_store_blk rfl 24 (.tmp 2) (.tmp 76) rfl w.heap.size 0 (adCells false zero16) (adCells true (both a b)) 24 _ rfl rfl rfl HZ6.out (by rw [adCells_len _ _ (both_len a b HAB.out)]; decide) (by rw [adCells_len _ _ (both_len a b HAB.out)]; exact infoAd) (adCells_one _ _) (by rw [adCells_len _ _ (both_len a b HAB.out)]; decide) ?_; intro w7 hk7 ha7; have HK7 := Lib.hid hk7; have HB7 : Hid (Below w.heap.size w w7) := Lib.hid (below_alt (HM3.out.bel.trans (HB6.out.mono HM3.out.bel.size)) ha7 (Nat.le_trans HM3.out.bel.size HB6.out.size) (fun k hk => by omega)); clear hk7 ha7))
  · have hk7 := HK7.out
    rw [splice_all _ _ (by rw [adCells_len _ _ (both_len a b HAB.out)]; decide)] at hk7
    have hres : (loadCells ⟨w.heap.size, 0, none⟩ 17).run Tryz.prog w7 = .ok (adA true (both a b)) w7 := hk7.load 0 17 (adCells true (both a b)) (by rw [List.drop_zero, List.take_of_length_le (by rw [adCells_len _ _ (both_len a b HAB.out)]; omega)]) (adCells_len _ _ (both_len a b HAB.out))
    exact bodyPost_ret (v := .tuple #[adV true (both a b), .nilIface]) (by simp [results, Tryz.results86, go_sem, hres]) rfl ⟨rfl, HB7.out⟩
theorem rowL_le (c : UInt8) (s b : List UInt8) (h : row s = some b) (hs : s.length ≤ 1000) : b.length ≤ 4096 := by
  unfold row at h
  split at h
  · injection h with h; subst h; simp
  · have h1 := rowL_len _ _ h
    have h2 := parts_count 58 s
    omega
theorem coloned_calls (ea : Addr) (s : ByteArray) (w : World) (hE : Env ea w) (hs : s.size ≤ 1000) (h0 : s.size ≠ 0) :
    Calls Tryz.prog 86 #[.string s] w fun e w' => RetAd ea ((coloned s.data.toList).map (fun b => (true, b))) e ∧ Below w.heap.size w w' := by
  have hsl : s.data.toList.length = s.size := Array.length_toList
  have hnl : s.data.toList ≠ [] := fun h => by rw [h] at hsl; simp at hsl; omega
  obtain ⟨p1, p2, p3, hp⟩ : ∃ p1 p2 p3, Lib.cut s.data.toList [58, 58] = (p1, p2, p3) := ⟨_, _, _, rfl⟩
  have hcl := cut_len s.data.toList [58, 58]
  rw [hp] at hcl
  simp only at hcl
  unfold coloned
  rw [hp]
  simp only
  cases h1 : row p1 with
  | none =>
    cases h2 : row p2 with
    | none => exact coloned_b1 ea s p1 p2 p3 w hE hs hp h1 h2
    | some b => exact coloned_b2 ea s p1 p2 p3 w hE hs hp h1 b h2 (rowL_le 0 p2 b h2 (by omega))
  | some a =>
    cases h2 : row p2 with
    | none => exact coloned_b3 ea s p1 p2 p3 w hE hs hp a h1 h2 (rowL_le 0 p1 a h1 (by omega))
    | some b =>
      have ha := rowL_le 0 p1 a h1 (by omega)
      have hb := rowL_le 0 p2 b h2 (by omega)
      simp only
      cases p3 with
      | true =>
        by_cases hf : 14 < a.length + b.length
        · rw [if_pos (.inr (.inl ⟨rfl, hf⟩))]
          exact coloned_b4 ea s p1 p2 true w hE hs hp rfl h0 a b h1 h2 ha hb hf
        · rw [if_neg (by rintro (h | ⟨_, h⟩ | ⟨h, _⟩) <;> first | exact hnl h | exact hf h | cases h)]
          by_cases hb0 : b.length = 0
          · exact coloned_g1z ea s p1 p2 true w hE hs hp rfl h0 a b h1 h2 (by omega) hb0
          · exact coloned_g1n ea s p1 p2 true w hE hs hp rfl h0 a b h1 h2 (by omega) hb0
      | false =>
        by_cases hf : a.length + b.length = 16
        · rw [if_neg (by rintro (h | ⟨h, _⟩ | ⟨_, h⟩) <;> first | exact hnl h | exact h hf | cases h)]
          by_cases hb0 : b.length = 0
          · exact coloned_g2z ea s p1 p2 false w hE hs hp rfl h0 a b h1 h2 hf hb0
          · exact coloned_g2n ea s p1 p2 false w hE hs hp rfl h0 a b h1 h2 hf hb0
        · rw [if_pos (.inr (.inr ⟨rfl, hf⟩))]
          exact coloned_b5 ea s p1 p2 false w hE hs hp rfl h0 a b h1 h2 ha hb hf
end Go.Proofs.YtmcgkknpkocgoaaGreatDoor.Ad
