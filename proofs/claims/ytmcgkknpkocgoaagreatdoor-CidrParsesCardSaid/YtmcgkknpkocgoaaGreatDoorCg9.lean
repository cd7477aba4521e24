/- cidr.Parse of every text. -/
import Derived.Test.YtmcgkknpkocgoaaGreatDoorPc2
import Derived.Test.YtmcgkknpkocgoaaGreatDoorAdQ
namespace Go.Proofs.YtmcgkknpkocgoaaGreatDoor.Ad
open Go.RowKit Go.Proofs.YtmcgkknpkocgoaaGreatDoor.Mem Go.Proofs.YtmcgkknpkocgoaaGreatDoor.Num Go.Proofs.YtmcgkknpkocgoaaGreatDoor.Err Go.Proofs.YtmcgkknpkocgoaaGreatDoor.AdP
open Go.Proofs.YtmcgkknpkocgoaaGreatDoor.Head (pad pad_len adCells_one adCells_len infoAd splice_ad)
open Go.Proofs.YtmcgkknpkocgoaaGreatDoor.Addr (adV adA adCells adA_size cell_box load_box cell_six ptA ptV pt_loads)
set_option linter.unusedVariables false
set_option linter.unusedSimpArgs false
set_option maxRecDepth 100000
attribute [-go_sem] Builtin.append_ loadCells loadCellsFrom storeCells run_eql_struct
theorem atoi_ok (s : ByteArray) (v : Int) (w : World) (hs : s.size ≤ 1000) (h : Lib.atoiAll s.data.toList = .ok v) :
    Calls Tryz.prog 107 #[.string s] w fun e w' => e = .returned (.tuple #[.int .i64 v, .nilIface]) ∧ Below w.heap.size w w' := by
  refine (Tryz.strconv_Atoi_ok s (by omega) v h w).mono ?_
  rintro e w' ⟨rfl, rfl | ⟨t, rfl⟩⟩
  · exact ⟨rfl, Below.refl _ _⟩
  · exact ⟨rfl, Joins.below_bytesWorld _ w 5 _ (Nat.le_refl _)⟩
theorem atoi_bad (ea : Addr) (s : ByteArray) (w : World) (hE : Env ea w) (hs : s.size ≤ 1000) (h : ∀ v, Lib.atoiAll s.data.toList ≠ .ok v) :
    Calls Tryz.prog 107 #[.string s] w fun e w' => (∃ (v : Int) (N : Nat), e = .returned (.tuple #[.int .i64 v, .iface 184 (.pointer (some ⟨N, 0, none⟩))])) ∧ Below w.heap.size w w' := by
  cases hr : Lib.atoiAll s.data.toList with
  | ok v => exact absurd hr (h v)
  | «syntax» =>
    obtain ⟨te, pe, hv⟩ := hE.eS
    refine (Tryz.strconv_Atoi_syntax s (by omega) hr (.iface te pe) w hv (.inr ⟨te, pe, rfl⟩)).mono ?_
    rintro e w' ⟨N, rfl, -, -, hb⟩
    exact ⟨⟨_, N, rfl⟩, hb⟩
  | range =>
    obtain ⟨te, pe, hv⟩ := hE.eR
    refine (Tryz.strconv_Atoi_range s (by omega) hr (.iface te pe) w hv (.inr ⟨te, pe, rfl⟩)).mono ?_
    rintro e w' ⟨N, rfl, -, -, hb⟩
    exact ⟨⟨_, N, rfl⟩, hb⟩
theorem atoi_any (ea : Addr) (s : ByteArray) (w : World) (hE : Env ea w) (hs : s.size ≤ 1000) :
    Calls Tryz.prog 107 #[.string s] w fun e w' => (∃ (v : Int) (q : Value), e = .returned (.tuple #[.int .i64 v, q])) ∧ Below w.heap.size w w' := by
  by_cases h : ∃ v, Lib.atoiAll s.data.toList = .ok v
  · obtain ⟨v, h⟩ := h
    refine (atoi_ok s v w hs h).mono ?_
    rintro e w' ⟨rfl, hb⟩
    exact ⟨⟨_, _, rfl⟩, hb⟩
  · refine (atoi_bad ea s w hE hs (fun v e => h ⟨v, e⟩)).mono ?_
    rintro e w' ⟨⟨v, N, rfl⟩, hb⟩
    exact ⟨⟨_, _, rfl⟩, hb⟩
theorem parse_any (ea : Addr) (s : ByteArray) (w : World) (hE : Env ea w) (hs : s.size ≤ 1000) :
    Calls Tryz.prog 19 #[.string s] w fun e w' => (∃ (six : Bool) (b : List UInt8) (q : Value), b.length = 16 ∧ e = .returned (.tuple #[.agg (adA six b), q])) ∧ Below w.heap.size w w' := by
  refine (parse_calls ea s w hE hs).mono ?_
  rintro e w' ⟨h, hb⟩
  refine ⟨?_, hb⟩
  cases hr : parseA s.data.toList with
  | none => rw [hr] at h; exact ⟨false, zero16, _, rfl, h⟩
  | some p =>
    obtain ⟨six, b⟩ := p
    rw [hr] at h
    refine ⟨six, b, _, ?_, h⟩
    unfold parseA at hr
    split at hr
    · obtain ⟨c, h1, h2⟩ := Option.map_eq_some_iff.1 hr
      injection h2 with e1 e2
      subst e2
      exact coloned_len _ _ h1
    · obtain ⟨c, h1, h2⟩ := Option.map_eq_some_iff.1 hr
      injection h2 with e1 e2
      subst e2
      exact dotted_len _ _ h1
set_option maxHeartbeats 4000000 in
theorem cparse_none (ea : Addr) (s : ByteArray) (w : World) (hE : Env ea w) (hs : s.size ≤ 1000) (h0 : (Lib.cut s.data.toList [47]).2.2 = false) :
    Calls Tryz.prog 56 #[.string s] w fun e w' => RetCd ea none e ∧ Below w.heap.size w w' := by
  have HB0 : Hid (Below w.heap.size w (w.alloc (.cells zeroCd.toArray 74))) := Lib.hid ((Below.refl _ _).alloc (Nat.le_refl _) _)
  have HK0 : Hid (Blk w.heap.size zeroCd 74 (w.alloc (.cells zeroCd.toArray 74))) := Lib.hid (Blk.new w _ _ _ _ rfl rfl)
  have HE := Lib.hid hE
  have HE0 := Lib.hid (hE.alloc (.cells zeroCd.toArray 74))
  have hcl := cut_len s.data.toList [47]
  have hsl : s.data.toList.length = s.size := Array.length_toList
  have KC : Hid (∀ W, Env ea W → Calls Tryz.prog 106 #[.string s, .string ⟨#[47]⟩] W fun e w' => e = .returned (.tuple #[.string (str (Lib.cut s.data.toList [47]).1), .string (str (Lib.cut s.data.toList [47]).2.1), .bool (Lib.cut s.data.toList [47]).2.2]) ∧ Below W.heap.size W w') := Lib.hid (fun W hE => cut_calls ea s ⟨#[47]⟩ W hE (by omega))
  have hh : (str (Lib.cut s.data.toList [47]).1).size ≤ 1000 := by rw [sz]; omega
  have ht : (str (Lib.cut s.data.toList [47]).2.1).size ≤ 1000 := by rw [sz]; omega
  rw [h0] at KC
  have KP := Lib.hid (fun W hE => parse_any ea (str (Lib.cut s.data.toList [47]).1) W hE hh)
  have KA := Lib.hid (fun W hE => atoi_any ea (str (Lib.cut s.data.toList [47]).2.1) W hE ht)
  have HH := Lib.hid hE.form
  clear h0
  generalize hH : str (Lib.cut s.data.toList [47]).1 = H at *
  generalize hT : str (Lib.cut s.data.toList [47]).2.1 = T at *
  clear hE hs hcl hsl hh ht hH hT
  go_enter Tryz.func56, Tryz.ntmps56
  go_upto_region 5 with (first
    | (go_at_call 106; ((with_reducible refine (KC.out _ HE0.out).mono ?_); rintro e w1 ⟨rfl, hb1⟩; have HB1 := Lib.hid (HB0.out.trans (hb1.mono HB0.out.size)); have HK1 := Lib.hid (HK0.out.below hb1); clear hb1))
    | (go_at_call 19; ((with_reducible refine (KP.out _ (HE.out.below HB1.out)).mono ?_); rintro e w2 ⟨⟨six, b, q, hbl, rfl⟩, hb2⟩; have HBL := Lib.hid hbl; have hsz := adA_size six b hbl; clear hbl; have HB2 := Lib.hid (HB1.out.trans (hb2.mono HB1.out.size)); have HK2 := Lib.hid (HK1.out.below hb2); clear hb2))
    | (refine wp_store_blk rfl 24 (.tmp 7) (.tmp 20) rfl w2.heap.size 0 (adCells false zero16) (adCells six b) 24 _ rfl rfl rfl (Blk.new _ _ _ _ _ rfl rfl) (by rw [adCells_len _ _ HBL.out]; decide) (by rw [adCells_len _ _ HBL.out]; exact infoAd) (adCells_one _ _) (by rw [adCells_len _ _ HBL.out]; decide) ?_; intro w3 hk3 ha3; have hb3 := below_alt (below_own_alloc w2 _) ha3 (by simp) (fun k hk => by omega); have HA3 : Hid (Blk w2.heap.size (adCells six b) 24 w3) := Lib.hid (by rw [splice_all _ _ (by rw [adCells_len _ _ HBL.out]; decide)] at hk3; exact hk3); have HB3 : Hid (Below w.heap.size w w3) := Lib.hid (HB2.out.trans (hb3.mono HB2.out.size)); have HK3 := Lib.hid (HK2.out.below hb3); clear hk3 ha3 hb3)
    | (go_at_call 107; ((with_reducible refine (KA.out _ (HE.out.below HB3.out)).mono ?_); rintro e w4 ⟨⟨v, q2, rfl⟩, hb4⟩; have HB4 := Lib.hid (HB3.out.trans (hb4.mono HB3.out.size)); have HK4 := Lib.hid (HK3.out.below hb4); have HA4 := Lib.hid (HA3.out.below hb4); clear hb4)))
  have hk9 := HK4.out
  have st : (storeCells ⟨w.heap.size, 0, none⟩ zeroCd).run Tryz.prog w4.drew = .ok () w4.drew := store_same (hk9.drewN 1) (ptC_one false zero16 0)
  have ld : (loadCells ⟨w.heap.size, 0, none⟩ 18).run Tryz.prog w4.drew = .ok zeroCd.toArray w4.drew := (hk9.drewN 1).load 0 18 zeroCd rfl rfl
  have cF : w4.drew.cell? ⟨3, 0, none⟩ = some (.iface 226 (.pointer (some ea))) := (HH.out.below HB4.out).1
  clear hk9
  go_region
  all_goals go_wp2
  all_goals exact bodyPost_ret (v := .tuple #[.agg zeroCd.toArray, .iface 226 (.pointer (some ea))]) (by simp [results, Tryz.results56, go_sem, ld]) rfl ⟨rfl, below_drewN HB4.out 1⟩
set_option maxHeartbeats 4000000 in
theorem cparse_noaddr (ea : Addr) (s : ByteArray) (w : World) (hE : Env ea w) (hs : s.size ≤ 1000) (h0 : (Lib.cut s.data.toList [47]).2.2 = true) (h1 : parseA (Lib.cut s.data.toList [47]).1 = none) :
    Calls Tryz.prog 56 #[.string s] w fun e w' => RetCd ea none e ∧ Below w.heap.size w w' := by
  have HB0 : Hid (Below w.heap.size w (w.alloc (.cells zeroCd.toArray 74))) := Lib.hid ((Below.refl _ _).alloc (Nat.le_refl _) _)
  have HK0 : Hid (Blk w.heap.size zeroCd 74 (w.alloc (.cells zeroCd.toArray 74))) := Lib.hid (Blk.new w _ _ _ _ rfl rfl)
  have HE := Lib.hid hE
  have HE0 := Lib.hid (hE.alloc (.cells zeroCd.toArray 74))
  have hcl := cut_len s.data.toList [47]
  have hsl : s.data.toList.length = s.size := Array.length_toList
  have KC : Hid (∀ W, Env ea W → Calls Tryz.prog 106 #[.string s, .string ⟨#[47]⟩] W fun e w' => e = .returned (.tuple #[.string (str (Lib.cut s.data.toList [47]).1), .string (str (Lib.cut s.data.toList [47]).2.1), .bool (Lib.cut s.data.toList [47]).2.2]) ∧ Below W.heap.size W w') := Lib.hid (fun W hE => cut_calls ea s ⟨#[47]⟩ W hE (by omega))
  have hh : (str (Lib.cut s.data.toList [47]).1).size ≤ 1000 := by rw [sz]; omega
  have ht : (str (Lib.cut s.data.toList [47]).2.1).size ≤ 1000 := by rw [sz]; omega
  rw [h0] at KC
  have KP : Hid (∀ W, Env ea W → Calls Tryz.prog 19 #[.string (str (Lib.cut s.data.toList [47]).1)] W fun e w' => e = .returned (.tuple #[.agg zeroCs.toArray, .iface 226 (.pointer (some ea))]) ∧ Below W.heap.size W w') := Lib.hid (fun W hE => by
    have h := parse_calls ea (str (Lib.cut s.data.toList [47]).1) W hE hh
    rw [show (str (Lib.cut s.data.toList [47]).1).data.toList = (Lib.cut s.data.toList [47]).1 from rfl, h1] at h
    exact h)
  have KA := Lib.hid (fun W hE => atoi_any ea (str (Lib.cut s.data.toList [47]).2.1) W hE ht)
  have HH := Lib.hid hE.form
  clear h0 h1
  generalize hH : str (Lib.cut s.data.toList [47]).1 = H at *
  generalize hT : str (Lib.cut s.data.toList [47]).2.1 = T at *
  clear hE hs hcl hsl hh ht hH hT
  go_enter Tryz.func56, Tryz.ntmps56
  go_upto_region 5 with (first
    | (go_at_call 106; ((with_reducible refine (KC.out _ HE0.out).mono ?_); rintro e w1 ⟨rfl, hb1⟩; have HB1 := Lib.hid (HB0.out.trans (hb1.mono HB0.out.size)); have HK1 := Lib.hid (HK0.out.below hb1); clear hb1))
    | (go_at_call 19; ((with_reducible refine (KP.out _ (HE.out.below HB1.out)).mono ?_); rintro e w2 ⟨rfl, hb2⟩; have HB2 := Lib.hid (HB1.out.trans (hb2.mono HB1.out.size)); have HK2 := Lib.hid (HK1.out.below hb2); clear hb2))
    | (refine wp_store_blk rfl 24 (.tmp 7) (.tmp 20) rfl w2.heap.size 0 (adCells false zero16) (adCells false zero16) 24 _ rfl rfl rfl (Blk.new _ _ _ _ _ rfl rfl) (by decide) infoAd (adCells_one _ _) (by decide) ?_; intro w3 hk3 ha3; have hb3 := below_alt (below_own_alloc w2 _) ha3 (by simp) (fun k hk => by omega); have HA3 : Hid (Blk w2.heap.size (adCells false zero16) 24 w3) := Lib.hid (by rw [splice_all (adCells false zero16) (adCells false zero16) rfl] at hk3; exact hk3); have HB3 : Hid (Below w.heap.size w w3) := Lib.hid (HB2.out.trans (hb3.mono HB2.out.size)); have HK3 := Lib.hid (HK2.out.below hb3); clear hk3 ha3 hb3)
    | (go_at_call 107; ((with_reducible refine (KA.out _ (HE.out.below HB3.out)).mono ?_); rintro e w4 ⟨⟨v, q2, rfl⟩, hb4⟩; have HB4 := Lib.hid (HB3.out.trans (hb4.mono HB3.out.size)); have HK4 := Lib.hid (HK3.out.below hb4); have HA4 := Lib.hid (HA3.out.below hb4); clear hb4)))
  have hk9 := HK4.out
  have st : (storeCells ⟨w.heap.size, 0, none⟩ zeroCd).run Tryz.prog w4.drew = .ok () w4.drew := store_same (hk9.drewN 1) (ptC_one false zero16 0)
  have ld : (loadCells ⟨w.heap.size, 0, none⟩ 18).run Tryz.prog w4.drew = .ok zeroCd.toArray w4.drew := (hk9.drewN 1).load 0 18 zeroCd rfl rfl
  have cF : w4.drew.cell? ⟨3, 0, none⟩ = some (.iface 226 (.pointer (some ea))) := (HH.out.below HB4.out).1
  clear hk9
  go_region
  all_goals go_wp2
  all_goals exact bodyPost_ret (v := .tuple #[.agg zeroCd.toArray, .iface 226 (.pointer (some ea))]) (by simp [results, Tryz.results56, go_sem, ld]) rfl ⟨rfl, below_drewN HB4.out 1⟩
set_option maxHeartbeats 4000000 in
theorem cparse_nonum (ea : Addr) (s : ByteArray) (w : World) (hE : Env ea w) (hs : s.size ≤ 1000) (h0 : (Lib.cut s.data.toList [47]).2.2 = true) (six : Bool) (b : List UInt8) (h1 : parseA (Lib.cut s.data.toList [47]).1 = some (six, b)) (hbl : b.length = 16) (h2 : ∀ v, Lib.atoiAll (Lib.cut s.data.toList [47]).2.1 ≠ .ok v) :
    Calls Tryz.prog 56 #[.string s] w fun e w' => RetCd ea none e ∧ Below w.heap.size w w' := by
  have HB0 : Hid (Below w.heap.size w (w.alloc (.cells zeroCd.toArray 74))) := Lib.hid ((Below.refl _ _).alloc (Nat.le_refl _) _)
  have HK0 : Hid (Blk w.heap.size zeroCd 74 (w.alloc (.cells zeroCd.toArray 74))) := Lib.hid (Blk.new w _ _ _ _ rfl rfl)
  have HE := Lib.hid hE
  have HE0 := Lib.hid (hE.alloc (.cells zeroCd.toArray 74))
  have hcl := cut_len s.data.toList [47]
  have hsl : s.data.toList.length = s.size := Array.length_toList
  have KC : Hid (∀ W, Env ea W → Calls Tryz.prog 106 #[.string s, .string ⟨#[47]⟩] W fun e w' => e = .returned (.tuple #[.string (str (Lib.cut s.data.toList [47]).1), .string (str (Lib.cut s.data.toList [47]).2.1), .bool (Lib.cut s.data.toList [47]).2.2]) ∧ Below W.heap.size W w') := Lib.hid (fun W hE => cut_calls ea s ⟨#[47]⟩ W hE (by omega))
  have hh : (str (Lib.cut s.data.toList [47]).1).size ≤ 1000 := by rw [sz]; omega
  have ht : (str (Lib.cut s.data.toList [47]).2.1).size ≤ 1000 := by rw [sz]; omega
  rw [h0] at KC
  have KP : Hid (∀ W, Env ea W → Calls Tryz.prog 19 #[.string (str (Lib.cut s.data.toList [47]).1)] W fun e w' => e = .returned (.tuple #[.agg (adA six b), .nilIface]) ∧ Below W.heap.size W w') := Lib.hid (fun W hE => by
    have h := parse_calls ea (str (Lib.cut s.data.toList [47]).1) W hE hh
    rw [show (str (Lib.cut s.data.toList [47]).1).data.toList = (Lib.cut s.data.toList [47]).1 from rfl, h1] at h
    exact h)
  have HBL := Lib.hid hbl
  have hsz := adA_size six b hbl
  have HLA : Hid (∀ (w2 w3 : World), Blk w2.heap.size (adCells six b) 24 w3 → (loadCells ⟨w2.heap.size, 0, none⟩ 17).run Tryz.prog w3 = .ok (adA six b) w3) := Lib.hid (fun w2 w3 h => h.load 0 17 (adCells six b) (by rw [List.drop_zero, List.take_of_length_le (by rw [adCells_len _ _ hbl]; omega)]) (adCells_len _ _ hbl))
  have KA := Lib.hid (fun W hE => atoi_bad ea (str (Lib.cut s.data.toList [47]).2.1) W hE ht h2)
  have HH := Lib.hid hE.form
  clear h0 h1 h2 hbl
  generalize hH : str (Lib.cut s.data.toList [47]).1 = H at *
  generalize hT : str (Lib.cut s.data.toList [47]).2.1 = T at *
  clear hE hs hcl hsl hh ht hH hT
  go_enter Tryz.func56, Tryz.ntmps56
  go_upto_region 5 with (first
    | (go_at_call 106; ((with_reducible refine (KC.out _ HE0.out).mono ?_); rintro e w1 ⟨rfl, hb1⟩; have HB1 := Lib.hid (HB0.out.trans (hb1.mono HB0.out.size)); have HK1 := Lib.hid (HK0.out.below hb1); clear hb1))
    | (go_at_call 19; ((with_reducible refine (KP.out _ (HE.out.below HB1.out)).mono ?_); rintro e w2 ⟨rfl, hb2⟩; have HB2 := Lib.hid (HB1.out.trans (hb2.mono HB1.out.size)); have HK2 := Lib.hid (HK1.out.below hb2); clear hb2))
    | (refine wp_store_blk rfl 24 (.tmp 7) (.tmp 20) rfl w2.heap.size 0 (adCells false zero16) (adCells six b) 24 _ rfl rfl rfl (Blk.new _ _ _ _ _ rfl rfl) (by rw [adCells_len _ _ HBL.out]; decide) (by rw [adCells_len _ _ HBL.out]; exact infoAd) (adCells_one _ _) (by rw [adCells_len _ _ HBL.out]; decide) ?_; intro w3 hk3 ha3; have hb3 := below_alt (below_own_alloc w2 _) ha3 (by simp) (fun k hk => by omega); have HA3 : Hid (Blk w2.heap.size (adCells six b) 24 w3) := Lib.hid (by rw [splice_all _ _ (by rw [adCells_len _ _ HBL.out]; decide)] at hk3; exact hk3); have HB3 : Hid (Below w.heap.size w w3) := Lib.hid (HB2.out.trans (hb3.mono HB2.out.size)); have HK3 := Lib.hid (HK2.out.below hb3); clear hk3 ha3 hb3)
    | (go_at_call 107; ((with_reducible refine (KA.out _ (HE.out.below HB3.out)).mono ?_); rintro e w4 ⟨⟨v, N, rfl⟩, hb4⟩; have HB4 := Lib.hid (HB3.out.trans (hb4.mono HB3.out.size)); have HK4 := Lib.hid (HK3.out.below hb4); have HA4 := Lib.hid (HA3.out.below hb4); clear hb4)))
  have hk9 := HK4.out
  have st : (storeCells ⟨w.heap.size, 0, none⟩ zeroCd).run Tryz.prog w4.drew = .ok () w4.drew := store_same (hk9.drewN 1) (ptC_one false zero16 0)
  have ld : (loadCells ⟨w.heap.size, 0, none⟩ 18).run Tryz.prog w4.drew = .ok zeroCd.toArray w4.drew := (hk9.drewN 1).load 0 18 zeroCd rfl rfl
  have cF : w4.drew.cell? ⟨3, 0, none⟩ = some (.iface 226 (.pointer (some ea))) := (HH.out.below HB4.out).1
  clear hk9
  go_region
  all_goals go_wp2
  all_goals exact bodyPost_ret (v := .tuple #[.agg zeroCd.toArray, .iface 226 (.pointer (some ea))]) (by simp [results, Tryz.results56, go_sem, ld]) rfl ⟨rfl, below_drewN HB4.out 1⟩
set_option maxHeartbeats 4000000 in
theorem cparse_neg (ea : Addr) (s : ByteArray) (w : World) (hE : Env ea w) (hs : s.size ≤ 1000) (h0 : (Lib.cut s.data.toList [47]).2.2 = true) (six : Bool) (b : List UInt8) (h1 : parseA (Lib.cut s.data.toList [47]).1 = some (six, b)) (hbl : b.length = 16) (v : Int) (h2 : Lib.atoiAll (Lib.cut s.data.toList [47]).2.1 = .ok v) (h3 : v < 0) :
    Calls Tryz.prog 56 #[.string s] w fun e w' => RetCd ea none e ∧ Below w.heap.size w w' := by
  have HB0 : Hid (Below w.heap.size w (w.alloc (.cells zeroCd.toArray 74))) := Lib.hid ((Below.refl _ _).alloc (Nat.le_refl _) _)
  have HK0 : Hid (Blk w.heap.size zeroCd 74 (w.alloc (.cells zeroCd.toArray 74))) := Lib.hid (Blk.new w _ _ _ _ rfl rfl)
  have HE := Lib.hid hE
  have HE0 := Lib.hid (hE.alloc (.cells zeroCd.toArray 74))
  have hcl := cut_len s.data.toList [47]
  have hsl : s.data.toList.length = s.size := Array.length_toList
  have KC : Hid (∀ W, Env ea W → Calls Tryz.prog 106 #[.string s, .string ⟨#[47]⟩] W fun e w' => e = .returned (.tuple #[.string (str (Lib.cut s.data.toList [47]).1), .string (str (Lib.cut s.data.toList [47]).2.1), .bool (Lib.cut s.data.toList [47]).2.2]) ∧ Below W.heap.size W w') := Lib.hid (fun W hE => cut_calls ea s ⟨#[47]⟩ W hE (by omega))
  have hh : (str (Lib.cut s.data.toList [47]).1).size ≤ 1000 := by rw [sz]; omega
  have ht : (str (Lib.cut s.data.toList [47]).2.1).size ≤ 1000 := by rw [sz]; omega
  rw [h0] at KC
  have KP : Hid (∀ W, Env ea W → Calls Tryz.prog 19 #[.string (str (Lib.cut s.data.toList [47]).1)] W fun e w' => e = .returned (.tuple #[.agg (adA six b), .nilIface]) ∧ Below W.heap.size W w') := Lib.hid (fun W hE => by
    have h := parse_calls ea (str (Lib.cut s.data.toList [47]).1) W hE hh
    rw [show (str (Lib.cut s.data.toList [47]).1).data.toList = (Lib.cut s.data.toList [47]).1 from rfl, h1] at h
    exact h)
  have HBL := Lib.hid hbl
  have hsz := adA_size six b hbl
  have HLA : Hid (∀ (w2 w3 : World), Blk w2.heap.size (adCells six b) 24 w3 → (loadCells ⟨w2.heap.size, 0, none⟩ 17).run Tryz.prog w3 = .ok (adA six b) w3) := Lib.hid (fun w2 w3 h => h.load 0 17 (adCells six b) (by rw [List.drop_zero, List.take_of_length_le (by rw [adCells_len _ _ hbl]; omega)]) (adCells_len _ _ hbl))
  have KA := Lib.hid (fun W => atoi_ok (str (Lib.cut s.data.toList [47]).2.1) v W ht h2)
  have HH := Lib.hid hE.form
  clear h0 h1 h2 hbl
  generalize hH : str (Lib.cut s.data.toList [47]).1 = H at *
  generalize hT : str (Lib.cut s.data.toList [47]).2.1 = T at *
  clear hE hs hcl hsl hh ht hH hT
  go_enter Tryz.func56, Tryz.ntmps56
  go_upto_region 5 with (first
    | (go_at_call 106; ((with_reducible refine (KC.out _ HE0.out).mono ?_); rintro e w1 ⟨rfl, hb1⟩; have HB1 := Lib.hid (HB0.out.trans (hb1.mono HB0.out.size)); have HK1 := Lib.hid (HK0.out.below hb1); clear hb1))
    | (go_at_call 19; ((with_reducible refine (KP.out _ (HE.out.below HB1.out)).mono ?_); rintro e w2 ⟨rfl, hb2⟩; have HB2 := Lib.hid (HB1.out.trans (hb2.mono HB1.out.size)); have HK2 := Lib.hid (HK1.out.below hb2); clear hb2))
    | (refine wp_store_blk rfl 24 (.tmp 7) (.tmp 20) rfl w2.heap.size 0 (adCells false zero16) (adCells six b) 24 _ rfl rfl rfl (Blk.new _ _ _ _ _ rfl rfl) (by rw [adCells_len _ _ HBL.out]; decide) (by rw [adCells_len _ _ HBL.out]; exact infoAd) (adCells_one _ _) (by rw [adCells_len _ _ HBL.out]; decide) ?_; intro w3 hk3 ha3; have hb3 := below_alt (below_own_alloc w2 _) ha3 (by simp) (fun k hk => by omega); have HA3 : Hid (Blk w2.heap.size (adCells six b) 24 w3) := Lib.hid (by rw [splice_all _ _ (by rw [adCells_len _ _ HBL.out]; decide)] at hk3; exact hk3); have HB3 : Hid (Below w.heap.size w w3) := Lib.hid (HB2.out.trans (hb3.mono HB2.out.size)); have HK3 := Lib.hid (HK2.out.below hb3); clear hk3 ha3 hb3)
    | (go_at_call 107; ((with_reducible refine (KA.out _ ).mono ?_); rintro e w4 ⟨rfl, hb4⟩; have HB4 := Lib.hid (HB3.out.trans (hb4.mono HB3.out.size)); have HK4 := Lib.hid (HK3.out.below hb4); have HA4 := Lib.hid (HA3.out.below hb4); clear hb4)))
  have hk9 := HK4.out
  have st : (storeCells ⟨w.heap.size, 0, none⟩ zeroCd).run Tryz.prog w4.drew = .ok () w4.drew := store_same (hk9.drewN 1) (ptC_one false zero16 0)
  have ld : (loadCells ⟨w.heap.size, 0, none⟩ 18).run Tryz.prog w4.drew = .ok zeroCd.toArray w4.drew := (hk9.drewN 1).load 0 18 zeroCd rfl rfl
  have cF : w4.drew.cell? ⟨3, 0, none⟩ = some (.iface 226 (.pointer (some ea))) := (HH.out.below HB4.out).1
  clear hk9
  go_region
  all_goals go_wp2
  all_goals exact bodyPost_ret (v := .tuple #[.agg zeroCd.toArray, .iface 226 (.pointer (some ea))]) (by simp [results, Tryz.results56, go_sem, ld]) rfl ⟨rfl, below_drewN HB4.out 1⟩
set_option maxHeartbeats 4000000 in
theorem cparse_big (ea : Addr) (s : ByteArray) (w : World) (hE : Env ea w) (hs : s.size ≤ 1000) (h0 : (Lib.cut s.data.toList [47]).2.2 = true) (six : Bool) (b : List UInt8) (h1 : parseA (Lib.cut s.data.toList [47]).1 = some (six, b)) (hbl : b.length = 16) (v : Int) (h2 : Lib.atoiAll (Lib.cut s.data.toList [47]).2.1 = .ok v) (h3 : 128 < v) :
    Calls Tryz.prog 56 #[.string s] w fun e w' => RetCd ea none e ∧ Below w.heap.size w w' := by
  have HB0 : Hid (Below w.heap.size w (w.alloc (.cells zeroCd.toArray 74))) := Lib.hid ((Below.refl _ _).alloc (Nat.le_refl _) _)
  have HK0 : Hid (Blk w.heap.size zeroCd 74 (w.alloc (.cells zeroCd.toArray 74))) := Lib.hid (Blk.new w _ _ _ _ rfl rfl)
  have HE := Lib.hid hE
  have HE0 := Lib.hid (hE.alloc (.cells zeroCd.toArray 74))
  have hcl := cut_len s.data.toList [47]
  have hsl : s.data.toList.length = s.size := Array.length_toList
  have KC : Hid (∀ W, Env ea W → Calls Tryz.prog 106 #[.string s, .string ⟨#[47]⟩] W fun e w' => e = .returned (.tuple #[.string (str (Lib.cut s.data.toList [47]).1), .string (str (Lib.cut s.data.toList [47]).2.1), .bool (Lib.cut s.data.toList [47]).2.2]) ∧ Below W.heap.size W w') := Lib.hid (fun W hE => cut_calls ea s ⟨#[47]⟩ W hE (by omega))
  have hh : (str (Lib.cut s.data.toList [47]).1).size ≤ 1000 := by rw [sz]; omega
  have ht : (str (Lib.cut s.data.toList [47]).2.1).size ≤ 1000 := by rw [sz]; omega
  rw [h0] at KC
  have KP : Hid (∀ W, Env ea W → Calls Tryz.prog 19 #[.string (str (Lib.cut s.data.toList [47]).1)] W fun e w' => e = .returned (.tuple #[.agg (adA six b), .nilIface]) ∧ Below W.heap.size W w') := Lib.hid (fun W hE => by
    have h := parse_calls ea (str (Lib.cut s.data.toList [47]).1) W hE hh
    rw [show (str (Lib.cut s.data.toList [47]).1).data.toList = (Lib.cut s.data.toList [47]).1 from rfl, h1] at h
    exact h)
  have HBL := Lib.hid hbl
  have hsz := adA_size six b hbl
  have HLA : Hid (∀ (w2 w3 : World), Blk w2.heap.size (adCells six b) 24 w3 → (loadCells ⟨w2.heap.size, 0, none⟩ 17).run Tryz.prog w3 = .ok (adA six b) w3) := Lib.hid (fun w2 w3 h => h.load 0 17 (adCells six b) (by rw [List.drop_zero, List.take_of_length_le (by rw [adCells_len _ _ hbl]; omega)]) (adCells_len _ _ hbl))
  have KA := Lib.hid (fun W => atoi_ok (str (Lib.cut s.data.toList [47]).2.1) v W ht h2)
  have HH := Lib.hid hE.form
  clear h0 h1 h2 hbl
  generalize hH : str (Lib.cut s.data.toList [47]).1 = H at *
  generalize hT : str (Lib.cut s.data.toList [47]).2.1 = T at *
  clear hE hs hcl hsl hh ht hH hT
  go_enter Tryz.func56, Tryz.ntmps56
  go_upto_region 5 with (first
    | (go_at_call 106; ((with_reducible refine (KC.out _ HE0.out).mono ?_); rintro e w1 ⟨rfl, hb1⟩; have HB1 := Lib.hid (HB0.out.trans (hb1.mono HB0.out.size)); have HK1 := Lib.hid (HK0.out.below hb1); clear hb1))
    | (go_at_call 19; ((with_reducible refine (KP.out _ (HE.out.below HB1.out)).mono ?_); rintro e w2 ⟨rfl, hb2⟩; have HB2 := Lib.hid (HB1.out.trans (hb2.mono HB1.out.size)); have HK2 := Lib.hid (HK1.out.below hb2); clear hb2))
    | (refine wp_store_blk rfl 24 (.tmp 7) (.tmp 20) rfl w2.heap.size 0 (adCells false zero16) (adCells six b) 24 _ rfl rfl rfl (Blk.new _ _ _ _ _ rfl rfl) (by rw [adCells_len _ _ HBL.out]; decide) (by rw [adCells_len _ _ HBL.out]; exact infoAd) (adCells_one _ _) (by rw [adCells_len _ _ HBL.out]; decide) ?_; intro w3 hk3 ha3; have hb3 := below_alt (below_own_alloc w2 _) ha3 (by simp) (fun k hk => by omega); have HA3 : Hid (Blk w2.heap.size (adCells six b) 24 w3) := Lib.hid (by rw [splice_all _ _ (by rw [adCells_len _ _ HBL.out]; decide)] at hk3; exact hk3); have HB3 : Hid (Below w.heap.size w w3) := Lib.hid (HB2.out.trans (hb3.mono HB2.out.size)); have HK3 := Lib.hid (HK2.out.below hb3); clear hk3 ha3 hb3)
    | (go_at_call 107; ((with_reducible refine (KA.out _ ).mono ?_); rintro e w4 ⟨rfl, hb4⟩; have HB4 := Lib.hid (HB3.out.trans (hb4.mono HB3.out.size)); have HK4 := Lib.hid (HK3.out.below hb4); have HA4 := Lib.hid (HA3.out.below hb4); clear hb4)))
  have hk9 := HK4.out
  have st : (storeCells ⟨w.heap.size, 0, none⟩ zeroCd).run Tryz.prog w4.drew = .ok () w4.drew := store_same (hk9.drewN 1) (ptC_one false zero16 0)
  have ld : (loadCells ⟨w.heap.size, 0, none⟩ 18).run Tryz.prog w4.drew = .ok zeroCd.toArray w4.drew := (hk9.drewN 1).load 0 18 zeroCd rfl rfl
  have cF : w4.drew.cell? ⟨3, 0, none⟩ = some (.iface 226 (.pointer (some ea))) := (HH.out.below HB4.out).1
  clear hk9
  go_region
  all_goals go_wp2
  all_goals exact bodyPost_ret (v := .tuple #[.agg zeroCd.toArray, .iface 226 (.pointer (some ea))]) (by simp [results, Tryz.results56, go_sem, ld]) rfl ⟨rfl, below_drewN HB4.out 1⟩
set_option maxHeartbeats 4000000 in
theorem cparse_other (ea : Addr) (s : ByteArray) (w : World) (hE : Env ea w) (hs : s.size ≤ 1000) (h0 : (Lib.cut s.data.toList [47]).2.2 = true) (six : Bool) (b : List UInt8) (h1 : parseA (Lib.cut s.data.toList [47]).1 = some (six, b)) (hbl : b.length = 16) (v : Int) (h2 : Lib.atoiAll (Lib.cut s.data.toList [47]).2.1 = .ok v) (h3 : 0 ≤ v) (h4 : v ≤ 128) (h5 : Lib.decDigits v.toNat ≠ (Lib.cut s.data.toList [47]).2.1) :
    Calls Tryz.prog 56 #[.string s] w fun e w' => RetCd ea none e ∧ Below w.heap.size w w' := by
  have HB0 : Hid (Below w.heap.size w (w.alloc (.cells zeroCd.toArray 74))) := Lib.hid ((Below.refl _ _).alloc (Nat.le_refl _) _)
  have HK0 : Hid (Blk w.heap.size zeroCd 74 (w.alloc (.cells zeroCd.toArray 74))) := Lib.hid (Blk.new w _ _ _ _ rfl rfl)
  have HE := Lib.hid hE
  have HE0 := Lib.hid (hE.alloc (.cells zeroCd.toArray 74))
  have hcl := cut_len s.data.toList [47]
  have hsl : s.data.toList.length = s.size := Array.length_toList
  have KC : Hid (∀ W, Env ea W → Calls Tryz.prog 106 #[.string s, .string ⟨#[47]⟩] W fun e w' => e = .returned (.tuple #[.string (str (Lib.cut s.data.toList [47]).1), .string (str (Lib.cut s.data.toList [47]).2.1), .bool (Lib.cut s.data.toList [47]).2.2]) ∧ Below W.heap.size W w') := Lib.hid (fun W hE => cut_calls ea s ⟨#[47]⟩ W hE (by omega))
  have hh : (str (Lib.cut s.data.toList [47]).1).size ≤ 1000 := by rw [sz]; omega
  have ht : (str (Lib.cut s.data.toList [47]).2.1).size ≤ 1000 := by rw [sz]; omega
  rw [h0] at KC
  have KP : Hid (∀ W, Env ea W → Calls Tryz.prog 19 #[.string (str (Lib.cut s.data.toList [47]).1)] W fun e w' => e = .returned (.tuple #[.agg (adA six b), .nilIface]) ∧ Below W.heap.size W w') := Lib.hid (fun W hE => by
    have h := parse_calls ea (str (Lib.cut s.data.toList [47]).1) W hE hh
    rw [show (str (Lib.cut s.data.toList [47]).1).data.toList = (Lib.cut s.data.toList [47]).1 from rfl, h1] at h
    exact h)
  have HBL := Lib.hid hbl
  have hsz := adA_size six b hbl
  have HLA : Hid (∀ (w2 w3 : World), Blk w2.heap.size (adCells six b) 24 w3 → (loadCells ⟨w2.heap.size, 0, none⟩ 17).run Tryz.prog w3 = .ok (adA six b) w3) := Lib.hid (fun w2 w3 h => h.load 0 17 (adCells six b) (by rw [List.drop_zero, List.take_of_length_le (by rw [adCells_len _ _ hbl]; omega)]) (adCells_len _ _ hbl))
  have KA := Lib.hid (fun W => atoi_ok (str (Lib.cut s.data.toList [47]).2.1) v W ht h2)
  have KI : Hid (∀ W, Env ea W → Calls Tryz.prog 79 #[.int .i64 v] W fun e w' => e = .returned (.string (str (Lib.decDigits v.toNat))) ∧ Below W.heap.size W w') := Lib.hid (fun W hE => by
    have h := itoa_calls ea v.toNat (by omega) W hE
    rw [show ((v.toNat : Nat) : Int) = v by omega] at h
    exact h)
  have hq : ((str (Lib.decDigits v.toNat)).toList == (str (Lib.cut s.data.toList [47]).2.1).toList) = false := by
    rw [ByteArray.toList_eq, ByteArray.toList_eq]
    exact beq_eq_false_iff_ne.mpr h5
  have HH := Lib.hid hE.form
  clear h0 h1 h2 hbl h5
  generalize str (Lib.decDigits v.toNat) = D at *
  generalize hH : str (Lib.cut s.data.toList [47]).1 = H at *
  generalize hT : str (Lib.cut s.data.toList [47]).2.1 = T at *
  clear hE hs hcl hsl hh ht hH hT
  go_enter Tryz.func56, Tryz.ntmps56
  go_upto_region 5 with (first
    | (go_at_call 106; ((with_reducible refine (KC.out _ HE0.out).mono ?_); rintro e w1 ⟨rfl, hb1⟩; have HB1 := Lib.hid (HB0.out.trans (hb1.mono HB0.out.size)); have HK1 := Lib.hid (HK0.out.below hb1); clear hb1))
    | (go_at_call 19; ((with_reducible refine (KP.out _ (HE.out.below HB1.out)).mono ?_); rintro e w2 ⟨rfl, hb2⟩; have HB2 := Lib.hid (HB1.out.trans (hb2.mono HB1.out.size)); have HK2 := Lib.hid (HK1.out.below hb2); clear hb2))
    | (refine wp_store_blk rfl 24 (.tmp 7) (.tmp 20) rfl w2.heap.size 0 (adCells false zero16) (adCells six b) 24 _ rfl rfl rfl (Blk.new _ _ _ _ _ rfl rfl) (by rw [adCells_len _ _ HBL.out]; decide) (by rw [adCells_len _ _ HBL.out]; exact infoAd) (adCells_one _ _) (by rw [adCells_len _ _ HBL.out]; decide) ?_; intro w3 hk3 ha3; have hb3 := below_alt (below_own_alloc w2 _) ha3 (by simp) (fun k hk => by omega); have HA3 : Hid (Blk w2.heap.size (adCells six b) 24 w3) := Lib.hid (by rw [splice_all _ _ (by rw [adCells_len _ _ HBL.out]; decide)] at hk3; exact hk3); have HB3 : Hid (Below w.heap.size w w3) := Lib.hid (HB2.out.trans (hb3.mono HB2.out.size)); have HK3 := Lib.hid (HK2.out.below hb3); clear hk3 ha3 hb3)
    | (go_at_call 107; ((with_reducible refine (KA.out _ ).mono ?_); rintro e w4 ⟨rfl, hb4⟩; have HB4 := Lib.hid (HB3.out.trans (hb4.mono HB3.out.size)); have HK4 := Lib.hid (HK3.out.below hb4); have HA4 := Lib.hid (HA3.out.below hb4); clear hb4))
    | (go_at_call 79; ((with_reducible refine (KI.out _ (HE.out.below HB4.out)).mono ?_); rintro e w5 ⟨rfl, hb5⟩; have HB5 := Lib.hid (HB4.out.trans (hb5.mono HB4.out.size)); have HK5 := Lib.hid (HK4.out.below hb5); have HA5 := Lib.hid (HA4.out.below hb5); have hl5 := HLA.out _ _ HA5.out; clear hb5)))
  have hk9 := HK5.out
  have st : (storeCells ⟨w.heap.size, 0, none⟩ zeroCd).run Tryz.prog w5.drew = .ok () w5.drew := store_same (hk9.drewN 1) (ptC_one false zero16 0)
  have ld : (loadCells ⟨w.heap.size, 0, none⟩ 18).run Tryz.prog w5.drew = .ok zeroCd.toArray w5.drew := (hk9.drewN 1).load 0 18 zeroCd rfl rfl
  have cF : w5.drew.cell? ⟨3, 0, none⟩ = some (.iface 226 (.pointer (some ea))) := (HH.out.below HB5.out).1
  clear hk9
  go_region
  all_goals go_wp2
  all_goals exact bodyPost_ret (v := .tuple #[.agg zeroCd.toArray, .iface 226 (.pointer (some ea))]) (by simp [results, Tryz.results56, go_sem, ld]) rfl ⟨rfl, below_drewN HB5.out 1⟩
set_option maxHeartbeats 4000000 in
theorem cparse_range (ea : Addr) (s : ByteArray) (w : World) (hE : Env ea w) (hs : s.size ≤ 1000) (h0 : (Lib.cut s.data.toList [47]).2.2 = true) (six : Bool) (b : List UInt8) (h1 : parseA (Lib.cut s.data.toList [47]).1 = some (six, b)) (hbl : b.length = 16) (v : Int) (h2 : Lib.atoiAll (Lib.cut s.data.toList [47]).2.1 = .ok v) (h3 : 0 ≤ v) (h4 : v ≤ 128) (h5 : Lib.decDigits v.toNat = (Lib.cut s.data.toList [47]).2.1) (h6 : (widthA six : Int) < v) (eR : Addr) (hR : Holds w 0 eR) :
    Calls Tryz.prog 56 #[.string s] w fun e w' => RetCd eR none e ∧ Below w.heap.size w w' := by
  have HB0 : Hid (Below w.heap.size w (w.alloc (.cells zeroCd.toArray 74))) := Lib.hid ((Below.refl _ _).alloc (Nat.le_refl _) _)
  have HK0 : Hid (Blk w.heap.size zeroCd 74 (w.alloc (.cells zeroCd.toArray 74))) := Lib.hid (Blk.new w _ _ _ _ rfl rfl)
  have HE := Lib.hid hE
  have HE0 := Lib.hid (hE.alloc (.cells zeroCd.toArray 74))
  have hcl := cut_len s.data.toList [47]
  have hsl : s.data.toList.length = s.size := Array.length_toList
  have KC : Hid (∀ W, Env ea W → Calls Tryz.prog 106 #[.string s, .string ⟨#[47]⟩] W fun e w' => e = .returned (.tuple #[.string (str (Lib.cut s.data.toList [47]).1), .string (str (Lib.cut s.data.toList [47]).2.1), .bool (Lib.cut s.data.toList [47]).2.2]) ∧ Below W.heap.size W w') := Lib.hid (fun W hE => cut_calls ea s ⟨#[47]⟩ W hE (by omega))
  have hh : (str (Lib.cut s.data.toList [47]).1).size ≤ 1000 := by rw [sz]; omega
  have ht : (str (Lib.cut s.data.toList [47]).2.1).size ≤ 1000 := by rw [sz]; omega
  rw [h0] at KC
  have KP : Hid (∀ W, Env ea W → Calls Tryz.prog 19 #[.string (str (Lib.cut s.data.toList [47]).1)] W fun e w' => e = .returned (.tuple #[.agg (adA six b), .nilIface]) ∧ Below W.heap.size W w') := Lib.hid (fun W hE => by
    have h := parse_calls ea (str (Lib.cut s.data.toList [47]).1) W hE hh
    rw [show (str (Lib.cut s.data.toList [47]).1).data.toList = (Lib.cut s.data.toList [47]).1 from rfl, h1] at h
    exact h)
  have HBL := Lib.hid hbl
  have hsz := adA_size six b hbl
  have HLA : Hid (∀ (w2 w3 : World), Blk w2.heap.size (adCells six b) 24 w3 → (loadCells ⟨w2.heap.size, 0, none⟩ 17).run Tryz.prog w3 = .ok (adA six b) w3) := Lib.hid (fun w2 w3 h => h.load 0 17 (adCells six b) (by rw [List.drop_zero, List.take_of_length_le (by rw [adCells_len _ _ hbl]; omega)]) (adCells_len _ _ hbl))
  have KA := Lib.hid (fun W => atoi_ok (str (Lib.cut s.data.toList [47]).2.1) v W ht h2)
  have KI : Hid (∀ W, Env ea W → Calls Tryz.prog 79 #[.int .i64 v] W fun e w' => e = .returned (.string (str (Lib.decDigits v.toNat))) ∧ Below W.heap.size W w') := Lib.hid (fun W hE => by
    have h := itoa_calls ea v.toNat (by omega) W hE
    rw [show ((v.toNat : Nat) : Int) = v by omega] at h
    exact h)
  rw [show str (Lib.decDigits v.toNat) = str (Lib.cut s.data.toList [47]).2.1 by rw [h5]] at KI
  have KF : Hid (∀ W, Calls Tryz.prog 108 #[.agg (adA six b), .int .i64 v] W fun e w' => e = .returned (.bool false) ∧ Below W.heap.size W w') := Lib.hid (fun W => by
    have h := fits_calls six b hbl v W
    rw [show (decide (0 ≤ v) && decide (v ≤ (widthA six : Int))) = false by simp; omega] at h
    exact h)
  have HH := Lib.hid hR
  clear h0 h1 h2 hbl h5 h6 hR
  generalize hH : str (Lib.cut s.data.toList [47]).1 = H at *
  generalize hT : str (Lib.cut s.data.toList [47]).2.1 = T at *
  clear hE hs hcl hsl hh ht hH hT
  go_enter Tryz.func56, Tryz.ntmps56
  go_upto_region 7 with (first
    | (go_at_call 106; ((with_reducible refine (KC.out _ HE0.out).mono ?_); rintro e w1 ⟨rfl, hb1⟩; have HB1 := Lib.hid (HB0.out.trans (hb1.mono HB0.out.size)); have HK1 := Lib.hid (HK0.out.below hb1); clear hb1))
    | (go_at_call 19; ((with_reducible refine (KP.out _ (HE.out.below HB1.out)).mono ?_); rintro e w2 ⟨rfl, hb2⟩; have HB2 := Lib.hid (HB1.out.trans (hb2.mono HB1.out.size)); have HK2 := Lib.hid (HK1.out.below hb2); clear hb2))
    | (refine wp_store_blk rfl 24 (.tmp 7) (.tmp 20) rfl w2.heap.size 0 (adCells false zero16) (adCells six b) 24 _ rfl rfl rfl (Blk.new _ _ _ _ _ rfl rfl) (by rw [adCells_len _ _ HBL.out]; decide) (by rw [adCells_len _ _ HBL.out]; exact infoAd) (adCells_one _ _) (by rw [adCells_len _ _ HBL.out]; decide) ?_; intro w3 hk3 ha3; have hb3 := below_alt (below_own_alloc w2 _) ha3 (by simp) (fun k hk => by omega); have HA3 : Hid (Blk w2.heap.size (adCells six b) 24 w3) := Lib.hid (by rw [splice_all _ _ (by rw [adCells_len _ _ HBL.out]; decide)] at hk3; exact hk3); have HB3 : Hid (Below w.heap.size w w3) := Lib.hid (HB2.out.trans (hb3.mono HB2.out.size)); have HK3 := Lib.hid (HK2.out.below hb3); clear hk3 ha3 hb3)
    | (go_at_call 107; ((with_reducible refine (KA.out _ ).mono ?_); rintro e w4 ⟨rfl, hb4⟩; have HB4 := Lib.hid (HB3.out.trans (hb4.mono HB3.out.size)); have HK4 := Lib.hid (HK3.out.below hb4); have HA4 := Lib.hid (HA3.out.below hb4); clear hb4))
    | (go_at_call 79; ((with_reducible refine (KI.out _ (HE.out.below HB4.out)).mono ?_); rintro e w5 ⟨rfl, hb5⟩; have HB5 := Lib.hid (HB4.out.trans (hb5.mono HB4.out.size)); have HK5 := Lib.hid (HK4.out.below hb5); have HA5 := Lib.hid (HA4.out.below hb5); have hl5 := HLA.out _ _ HA5.out; clear hb5))
    | (go_at_call 108; ((with_reducible refine (KF.out _ ).mono ?_); rintro e w6 ⟨rfl, hb6⟩; have HB6 := Lib.hid (HB5.out.trans (hb6.mono HB5.out.size)); have HK6 := Lib.hid (HK5.out.below hb6); have HA6 := Lib.hid (HA5.out.below hb6); have hl6 := HLA.out _ _ HA6.out; clear hb6)))
  have hk9 := HK6.out
  have st : (storeCells ⟨w.heap.size, 0, none⟩ zeroCd).run Tryz.prog w6.drew = .ok () w6.drew := store_same (hk9.drewN 1) (ptC_one false zero16 0)
  have ld : (loadCells ⟨w.heap.size, 0, none⟩ 18).run Tryz.prog w6.drew = .ok zeroCd.toArray w6.drew := (hk9.drewN 1).load 0 18 zeroCd rfl rfl
  have cF : w6.drew.cell? ⟨0, 0, none⟩ = some (.iface 226 (.pointer (some eR))) := (HH.out.below HB6.out).1
  clear hk9
  go_region
  all_goals go_wp2
  all_goals exact bodyPost_ret (v := .tuple #[.agg zeroCd.toArray, .iface 226 (.pointer (some eR))]) (by simp [results, Tryz.results56, go_sem, ld]) rfl ⟨rfl, below_drewN HB6.out 1⟩
set_option maxHeartbeats 4000000 in
theorem cparse_addr (ea : Addr) (s : ByteArray) (w : World) (hE : Env ea w) (hs : s.size ≤ 1000) (h0 : (Lib.cut s.data.toList [47]).2.2 = true) (six : Bool) (b : List UInt8) (h1 : parseA (Lib.cut s.data.toList [47]).1 = some (six, b)) (hbl : b.length = 16) (v : Int) (h2 : Lib.atoiAll (Lib.cut s.data.toList [47]).2.1 = .ok v) (h3 : 0 ≤ v) (h4 : v ≤ 128) (h5 : Lib.decDigits v.toNat = (Lib.cut s.data.toList [47]).2.1) (h6 : v ≤ (widthA six : Int)) (h7 : cutL b v.toNat ≠ b) (eA : Addr) (hA : Holds w 7 eA) :
    Calls Tryz.prog 56 #[.string s] w fun e w' => RetCd eA none e ∧ Below w.heap.size w w' := by
  have HB0 : Hid (Below w.heap.size w (w.alloc (.cells zeroCd.toArray 74))) := Lib.hid ((Below.refl _ _).alloc (Nat.le_refl _) _)
  have HK0 : Hid (Blk w.heap.size zeroCd 74 (w.alloc (.cells zeroCd.toArray 74))) := Lib.hid (Blk.new w _ _ _ _ rfl rfl)
  have HE := Lib.hid hE
  have HE0 := Lib.hid (hE.alloc (.cells zeroCd.toArray 74))
  have hcl := cut_len s.data.toList [47]
  have hsl : s.data.toList.length = s.size := Array.length_toList
  have KC : Hid (∀ W, Env ea W → Calls Tryz.prog 106 #[.string s, .string ⟨#[47]⟩] W fun e w' => e = .returned (.tuple #[.string (str (Lib.cut s.data.toList [47]).1), .string (str (Lib.cut s.data.toList [47]).2.1), .bool (Lib.cut s.data.toList [47]).2.2]) ∧ Below W.heap.size W w') := Lib.hid (fun W hE => cut_calls ea s ⟨#[47]⟩ W hE (by omega))
  have hh : (str (Lib.cut s.data.toList [47]).1).size ≤ 1000 := by rw [sz]; omega
  have ht : (str (Lib.cut s.data.toList [47]).2.1).size ≤ 1000 := by rw [sz]; omega
  rw [h0] at KC
  have KP : Hid (∀ W, Env ea W → Calls Tryz.prog 19 #[.string (str (Lib.cut s.data.toList [47]).1)] W fun e w' => e = .returned (.tuple #[.agg (adA six b), .nilIface]) ∧ Below W.heap.size W w') := Lib.hid (fun W hE => by
    have h := parse_calls ea (str (Lib.cut s.data.toList [47]).1) W hE hh
    rw [show (str (Lib.cut s.data.toList [47]).1).data.toList = (Lib.cut s.data.toList [47]).1 from rfl, h1] at h
    exact h)
  have HBL := Lib.hid hbl
  have hsz := adA_size six b hbl
  have HLA : Hid (∀ (w2 w3 : World), Blk w2.heap.size (adCells six b) 24 w3 → (loadCells ⟨w2.heap.size, 0, none⟩ 17).run Tryz.prog w3 = .ok (adA six b) w3) := Lib.hid (fun w2 w3 h => h.load 0 17 (adCells six b) (by rw [List.drop_zero, List.take_of_length_le (by rw [adCells_len _ _ hbl]; omega)]) (adCells_len _ _ hbl))
  have KA := Lib.hid (fun W => atoi_ok (str (Lib.cut s.data.toList [47]).2.1) v W ht h2)
  have KI : Hid (∀ W, Env ea W → Calls Tryz.prog 79 #[.int .i64 v] W fun e w' => e = .returned (.string (str (Lib.decDigits v.toNat))) ∧ Below W.heap.size W w') := Lib.hid (fun W hE => by
    have h := itoa_calls ea v.toNat (by omega) W hE
    rw [show ((v.toNat : Nat) : Int) = v by omega] at h
    exact h)
  rw [show str (Lib.decDigits v.toNat) = str (Lib.cut s.data.toList [47]).2.1 by rw [h5]] at KI
  have KF : Hid (∀ W, Calls Tryz.prog 108 #[.agg (adA six b), .int .i64 v] W fun e w' => e = .returned (.bool true) ∧ Below W.heap.size W w') := Lib.hid (fun W => by
    have h := fits_calls six b hbl v W
    rw [show (decide (0 ≤ v) && decide (v ≤ (widthA six : Int))) = true by simp; omega] at h
    exact h)
  have hn128 : v.toNat ≤ 128 := by omega
  have KX : Hid (∀ W, Calls Tryz.prog 109 #[.agg (adA six b), .int .i64 v] W fun e w' => e = .returned (.agg (adA six (cutL b v.toNat))) ∧ Below W.heap.size W w') := Lib.hid (fun W => by
    have h := cut3_calls six b hbl v.toNat hn128 W
    rw [show ((v.toNat : Nat) : Int) = v by omega] at h
    exact h)
  have hq := fun W => (eq_addr2 six six (cutL b v.toNat) b (by rw [cutL_len]; exact hbl) hbl W).2
  have hszk := adA_size six (cutL b v.toNat) (by rw [cutL_len]; exact hbl)
  rw [show decide (six = six ∧ cutL b v.toNat = b) = false by simp [h7]] at hq
  have HH := Lib.hid hA
  clear h0 h1 h2 hbl h5 h6 h7 hA
  generalize adA six (cutL b v.toNat) = ka at *
  generalize hH : str (Lib.cut s.data.toList [47]).1 = H at *
  generalize hT : str (Lib.cut s.data.toList [47]).2.1 = T at *
  clear hE hs hcl hsl hh ht hH hT
  go_enter Tryz.func56, Tryz.ntmps56
  go_upto_region 8 with (first
    | (go_at_call 106; ((with_reducible refine (KC.out _ HE0.out).mono ?_); rintro e w1 ⟨rfl, hb1⟩; have HB1 := Lib.hid (HB0.out.trans (hb1.mono HB0.out.size)); have HK1 := Lib.hid (HK0.out.below hb1); clear hb1))
    | (go_at_call 19; ((with_reducible refine (KP.out _ (HE.out.below HB1.out)).mono ?_); rintro e w2 ⟨rfl, hb2⟩; have HB2 := Lib.hid (HB1.out.trans (hb2.mono HB1.out.size)); have HK2 := Lib.hid (HK1.out.below hb2); clear hb2))
    | (refine wp_store_blk rfl 24 (.tmp 7) (.tmp 20) rfl w2.heap.size 0 (adCells false zero16) (adCells six b) 24 _ rfl rfl rfl (Blk.new _ _ _ _ _ rfl rfl) (by rw [adCells_len _ _ HBL.out]; decide) (by rw [adCells_len _ _ HBL.out]; exact infoAd) (adCells_one _ _) (by rw [adCells_len _ _ HBL.out]; decide) ?_; intro w3 hk3 ha3; have hb3 := below_alt (below_own_alloc w2 _) ha3 (by simp) (fun k hk => by omega); have HA3 : Hid (Blk w2.heap.size (adCells six b) 24 w3) := Lib.hid (by rw [splice_all _ _ (by rw [adCells_len _ _ HBL.out]; decide)] at hk3; exact hk3); have HB3 : Hid (Below w.heap.size w w3) := Lib.hid (HB2.out.trans (hb3.mono HB2.out.size)); have HK3 := Lib.hid (HK2.out.below hb3); clear hk3 ha3 hb3)
    | (go_at_call 107; ((with_reducible refine (KA.out _ ).mono ?_); rintro e w4 ⟨rfl, hb4⟩; have HB4 := Lib.hid (HB3.out.trans (hb4.mono HB3.out.size)); have HK4 := Lib.hid (HK3.out.below hb4); have HA4 := Lib.hid (HA3.out.below hb4); clear hb4))
    | (go_at_call 79; ((with_reducible refine (KI.out _ (HE.out.below HB4.out)).mono ?_); rintro e w5 ⟨rfl, hb5⟩; have HB5 := Lib.hid (HB4.out.trans (hb5.mono HB4.out.size)); have HK5 := Lib.hid (HK4.out.below hb5); have HA5 := Lib.hid (HA4.out.below hb5); have hl5 := HLA.out _ _ HA5.out; clear hb5))
    | (go_at_call 108; ((with_reducible refine (KF.out _ ).mono ?_); rintro e w6 ⟨rfl, hb6⟩; have HB6 := Lib.hid (HB5.out.trans (hb6.mono HB5.out.size)); have HK6 := Lib.hid (HK5.out.below hb6); have HA6 := Lib.hid (HA5.out.below hb6); have hl6 := HLA.out _ _ HA6.out; clear hb6)))
  go_region_held3 (fun W : World => (loadCells ⟨w2.heap.size, 0, none⟩ 17).run Tryz.prog W = .ok (adA six b) W) (first | exact HLA.out _ _ (HA6.out.drewN 1) | exact HLA.out _ _ HA7.out | go_keep) (first
    | (go_at_call 109; ((with_reducible refine (KX.out _).mono ?_); rintro e w7 ⟨rfl, hb7⟩; have HA7 := Lib.hid ((HA6.out.drewN 1).below hb7); have HB7 := Lib.hid (HB6.out.trans ((below_drewd hb7).mono HB6.out.size)); have HK7 := Lib.hid ((HK6.out.drewN 1).below hb7); clear hb7)))
  go_upto_region 9 with (fail)
  have hk9 := HK7.out
  have st : (storeCells ⟨w.heap.size, 0, none⟩ zeroCd).run Tryz.prog w7.drew = .ok () w7.drew := store_same (hk9.drewN 1) (ptC_one false zero16 0)
  have ld : (loadCells ⟨w.heap.size, 0, none⟩ 18).run Tryz.prog w7.drew = .ok zeroCd.toArray w7.drew := (hk9.drewN 1).load 0 18 zeroCd rfl rfl
  have cF : w7.drew.cell? ⟨7, 0, none⟩ = some (.iface 226 (.pointer (some eA))) := (HH.out.below HB7.out).1
  clear hk9
  go_region
  all_goals go_wp2
  all_goals exact bodyPost_ret (v := .tuple #[.agg zeroCd.toArray, .iface 226 (.pointer (some eA))]) (by simp [results, Tryz.results56, go_sem, ld]) rfl ⟨rfl, below_drewN HB7.out 1⟩
set_option maxHeartbeats 4000000 in
theorem cparse_ok (ea : Addr) (s : ByteArray) (w : World) (hE : Env ea w) (hs : s.size ≤ 1000) (h0 : (Lib.cut s.data.toList [47]).2.2 = true) (six : Bool) (b : List UInt8) (h1 : parseA (Lib.cut s.data.toList [47]).1 = some (six, b)) (hbl : b.length = 16) (v : Int) (h2 : Lib.atoiAll (Lib.cut s.data.toList [47]).2.1 = .ok v) (h3 : 0 ≤ v) (h4 : v ≤ 128) (h5 : Lib.decDigits v.toNat = (Lib.cut s.data.toList [47]).2.1) (h6 : v ≤ (widthA six : Int)) (h7 : cutL b v.toNat = b) (ee : Addr) :
    Calls Tryz.prog 56 #[.string s] w fun e w' => RetCd ee (some (six, b, v)) e ∧ Below w.heap.size w w' := by
  have HB0 : Hid (Below w.heap.size w (w.alloc (.cells zeroCd.toArray 74))) := Lib.hid ((Below.refl _ _).alloc (Nat.le_refl _) _)
  have HK0 : Hid (Blk w.heap.size zeroCd 74 (w.alloc (.cells zeroCd.toArray 74))) := Lib.hid (Blk.new w _ _ _ _ rfl rfl)
  have HE := Lib.hid hE
  have HE0 := Lib.hid (hE.alloc (.cells zeroCd.toArray 74))
  have hcl := cut_len s.data.toList [47]
  have hsl : s.data.toList.length = s.size := Array.length_toList
  have KC : Hid (∀ W, Env ea W → Calls Tryz.prog 106 #[.string s, .string ⟨#[47]⟩] W fun e w' => e = .returned (.tuple #[.string (str (Lib.cut s.data.toList [47]).1), .string (str (Lib.cut s.data.toList [47]).2.1), .bool (Lib.cut s.data.toList [47]).2.2]) ∧ Below W.heap.size W w') := Lib.hid (fun W hE => cut_calls ea s ⟨#[47]⟩ W hE (by omega))
  have hh : (str (Lib.cut s.data.toList [47]).1).size ≤ 1000 := by rw [sz]; omega
  have ht : (str (Lib.cut s.data.toList [47]).2.1).size ≤ 1000 := by rw [sz]; omega
  rw [h0] at KC
  have KP : Hid (∀ W, Env ea W → Calls Tryz.prog 19 #[.string (str (Lib.cut s.data.toList [47]).1)] W fun e w' => e = .returned (.tuple #[.agg (adA six b), .nilIface]) ∧ Below W.heap.size W w') := Lib.hid (fun W hE => by
    have h := parse_calls ea (str (Lib.cut s.data.toList [47]).1) W hE hh
    rw [show (str (Lib.cut s.data.toList [47]).1).data.toList = (Lib.cut s.data.toList [47]).1 from rfl, h1] at h
    exact h)
  have HBL := Lib.hid hbl
  have hsz := adA_size six b hbl
  have HLA : Hid (∀ (w2 w3 : World), Blk w2.heap.size (adCells six b) 24 w3 → (loadCells ⟨w2.heap.size, 0, none⟩ 17).run Tryz.prog w3 = .ok (adA six b) w3) := Lib.hid (fun w2 w3 h => h.load 0 17 (adCells six b) (by rw [List.drop_zero, List.take_of_length_le (by rw [adCells_len _ _ hbl]; omega)]) (adCells_len _ _ hbl))
  have KA := Lib.hid (fun W => atoi_ok (str (Lib.cut s.data.toList [47]).2.1) v W ht h2)
  have KI : Hid (∀ W, Env ea W → Calls Tryz.prog 79 #[.int .i64 v] W fun e w' => e = .returned (.string (str (Lib.decDigits v.toNat))) ∧ Below W.heap.size W w') := Lib.hid (fun W hE => by
    have h := itoa_calls ea v.toNat (by omega) W hE
    rw [show ((v.toNat : Nat) : Int) = v by omega] at h
    exact h)
  rw [show str (Lib.decDigits v.toNat) = str (Lib.cut s.data.toList [47]).2.1 by rw [h5]] at KI
  have KF : Hid (∀ W, Calls Tryz.prog 108 #[.agg (adA six b), .int .i64 v] W fun e w' => e = .returned (.bool true) ∧ Below W.heap.size W w') := Lib.hid (fun W => by
    have h := fits_calls six b hbl v W
    rw [show (decide (0 ≤ v) && decide (v ≤ (widthA six : Int))) = true by simp; omega] at h
    exact h)
  have hn128 : v.toNat ≤ 128 := by omega
  have KX : Hid (∀ W, Calls Tryz.prog 109 #[.agg (adA six b), .int .i64 v] W fun e w' => e = .returned (.agg (adA six (cutL b v.toNat))) ∧ Below W.heap.size W w') := Lib.hid (fun W => by
    have h := cut3_calls six b hbl v.toNat hn128 W
    rw [show ((v.toNat : Nat) : Int) = v by omega] at h
    exact h)
  have hq := fun W => (eq_addr2 six six (cutL b v.toNat) b (by rw [cutL_len]; exact hbl) hbl W).2
  have hszk := adA_size six (cutL b v.toNat) (by rw [cutL_len]; exact hbl)
  rw [show decide (six = six ∧ cutL b v.toNat = b) = true by simp [h7]] at hq
  rw [h7] at hq hszk KX
  have hf := cidr_fold six b hbl
  have hs17 := cidr_set six b hbl v
  have HCL := Lib.hid hbl
  have hcs : ptA six b v = (adCells six b ++ [Value.int .i64 v]).toArray := rfl
  have HCS := Lib.hid hcs
  have hp0 := ptA_size six b 0 hbl
  clear hcs h0 h1 h2 hbl h5 h6 h7
  generalize ptA six b 0 = za at *
  generalize ptA six b v = pa at *
  generalize hH : str (Lib.cut s.data.toList [47]).1 = H at *
  generalize hT : str (Lib.cut s.data.toList [47]).2.1 = T at *
  clear hE hs hcl hsl hh ht hH hT
  go_enter Tryz.func56, Tryz.ntmps56
  go_upto_region 8 with (first
    | (go_at_call 106; ((with_reducible refine (KC.out _ HE0.out).mono ?_); rintro e w1 ⟨rfl, hb1⟩; have HB1 := Lib.hid (HB0.out.trans (hb1.mono HB0.out.size)); have HK1 := Lib.hid (HK0.out.below hb1); clear hb1))
    | (go_at_call 19; ((with_reducible refine (KP.out _ (HE.out.below HB1.out)).mono ?_); rintro e w2 ⟨rfl, hb2⟩; have HB2 := Lib.hid (HB1.out.trans (hb2.mono HB1.out.size)); have HK2 := Lib.hid (HK1.out.below hb2); clear hb2))
    | (refine wp_store_blk rfl 24 (.tmp 7) (.tmp 20) rfl w2.heap.size 0 (adCells false zero16) (adCells six b) 24 _ rfl rfl rfl (Blk.new _ _ _ _ _ rfl rfl) (by rw [adCells_len _ _ HBL.out]; decide) (by rw [adCells_len _ _ HBL.out]; exact infoAd) (adCells_one _ _) (by rw [adCells_len _ _ HBL.out]; decide) ?_; intro w3 hk3 ha3; have hb3 := below_alt (below_own_alloc w2 _) ha3 (by simp) (fun k hk => by omega); have HA3 : Hid (Blk w2.heap.size (adCells six b) 24 w3) := Lib.hid (by rw [splice_all _ _ (by rw [adCells_len _ _ HBL.out]; decide)] at hk3; exact hk3); have HB3 : Hid (Below w.heap.size w w3) := Lib.hid (HB2.out.trans (hb3.mono HB2.out.size)); have HK3 := Lib.hid (HK2.out.below hb3); clear hk3 ha3 hb3)
    | (go_at_call 107; ((with_reducible refine (KA.out _ ).mono ?_); rintro e w4 ⟨rfl, hb4⟩; have HB4 := Lib.hid (HB3.out.trans (hb4.mono HB3.out.size)); have HK4 := Lib.hid (HK3.out.below hb4); have HA4 := Lib.hid (HA3.out.below hb4); clear hb4))
    | (go_at_call 79; ((with_reducible refine (KI.out _ (HE.out.below HB4.out)).mono ?_); rintro e w5 ⟨rfl, hb5⟩; have HB5 := Lib.hid (HB4.out.trans (hb5.mono HB4.out.size)); have HK5 := Lib.hid (HK4.out.below hb5); have HA5 := Lib.hid (HA4.out.below hb5); have hl5 := HLA.out _ _ HA5.out; clear hb5))
    | (go_at_call 108; ((with_reducible refine (KF.out _ ).mono ?_); rintro e w6 ⟨rfl, hb6⟩; have HB6 := Lib.hid (HB5.out.trans (hb6.mono HB5.out.size)); have HK6 := Lib.hid (HK5.out.below hb6); have HA6 := Lib.hid (HA5.out.below hb6); have hl6 := HLA.out _ _ HA6.out; clear hb6)))
  go_region_held3 (fun W : World => (loadCells ⟨w2.heap.size, 0, none⟩ 17).run Tryz.prog W = .ok (adA six b) W) (first | exact HLA.out _ _ (HA6.out.drewN 1) | exact HLA.out _ _ HA7.out | go_keep) (first
    | (go_at_call 109; ((with_reducible refine (KX.out _).mono ?_); rintro e w7 ⟨rfl, hb7⟩; have HA7 := Lib.hid ((HA6.out.drewN 1).below hb7); have HB7 := Lib.hid (HB6.out.trans ((below_drewd hb7).mono HB6.out.size)); have HK7 := Lib.hid ((HK6.out.drewN 1).below hb7); clear hb7)))
  have hl7 := HLA.out _ _ HA7.out
  go_wp2_with (refine wp_store_blk rfl 74 (.tmp 2) (.tmp 71) rfl w.heap.size 0 zeroCd (adCells six b ++ [Value.int .i64 v]) 74 _ rfl rfl (by rw [HCS.out]; rfl) HK7.out (by rw [ptC_len _ _ _ HCL.out]; decide) (by rw [ptC_len _ _ _ HCL.out]; exact infoCd) (ptC_one _ _ _) (by rw [ptC_len _ _ _ HCL.out]; decide) ?_; intro w8 hk8 ha8; have HK8 := Lib.hid hk8; have HB8 : Hid (Below w.heap.size w w8) := Lib.hid (below_alt HB7.out ha8 HB7.out.size (fun k hk => by omega)); clear hk8 ha8)
  have hk8 := HK8.out
  rw [splice_all _ _ (by rw [ptC_len _ _ _ HCL.out]; decide)] at hk8
  have hres : (loadCells ⟨w.heap.size, 0, none⟩ 18).run Tryz.prog w8 = .ok pa w8 := by
    have h := hk8.load (P := Tryz.prog) 0 18 (adCells six b ++ [Value.int .i64 v]) (by rw [List.drop_zero, List.take_of_length_le (by rw [ptC_len _ _ _ HCL.out]; omega)]) (ptC_len _ _ _ HCL.out)
    rw [HCS.out]; exact h
  exact bodyPost_ret (v := .tuple #[.agg pa, .nilIface]) (by simp [results, Tryz.results56, go_sem, hres]) rfl ⟨by rw [HCS.out]; rfl, HB8.out⟩
end Go.Proofs.YtmcgkknpkocgoaaGreatDoor.Ad
