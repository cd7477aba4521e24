/- Which texts are addresses: the walk of AddrParses. -/
import Derived.Test.YtmcgkknpkocgoaaGreatDoorPr2
import Derived.Test.YtmcgkknpkocgoaaGreatDoorAdX
import Derived.Test.YtmcgkknpkocgoaaGreatDoorAdW
import Derived.Test.YtmcgkknpkocgoaaGreatDoorKeyB
namespace Go.Proofs.YtmcgkknpkocgoaaGreatDoor.Ad
open Go.RowKit Go.Proofs.YtmcgkknpkocgoaaGreatDoor.Mem Go.Proofs.YtmcgkknpkocgoaaGreatDoor.Num Go.Proofs.YtmcgkknpkocgoaaGreatDoor.Err Go.Proofs.YtmcgkknpkocgoaaGreatDoor.AdP
open Go.Proofs.YtmcgkknpkocgoaaGreatDoor.Key (eql_deep key_addr)
open Go.Proofs.YtmcgkknpkocgoaaGreatDoor.Head (pad pad_len adCells_one adCells_len infoAd splice_ad)
open Go.Proofs.YtmcgkknpkocgoaaGreatDoor.Addr (adV adA adCells)
set_option linter.unusedVariables false
set_option linter.unusedSimpArgs false
set_option maxRecDepth 100000
attribute [-go_sem] Builtin.append_ loadCells loadCellsFrom storeCells run_eql_struct
theorem eq_addr (six : Bool) (b : List UInt8) (hb : b.length = 16) (W : World) : (binOp .eql 24 (.agg (adA six b)) (.agg (adA six b))).run Tryz.prog W = .ok (.bool true) W := by
  have hf : (Value.agg (adA six b)).formed Tryz.prog 24 = true := by
    have hc : Tryz.prog.cellsOf 24 = 17 := by kernel_rfl
    unfold Value.formed adA
    rw [Tryz.underlying24]
    simp only [hc]
    rw [List.size_toArray, adCells_len _ _ hb]
    rfl
  exact (eql_deep (by kernel_rfl) true (by simp) hf hf (key_addr 0 six b hb) (key_addr 0 six b hb) W).1
theorem num4 (W : World) (es : List Addr) (h : Errs W es) (ep : Addr) (hp : es[3]? = some ep) : Calls Tryz.prog 24 #[ev ep] W fun e w' => e = .returned (.int .i64 4) ∧ Below W.heap.size W w' := by
  have hl := h.1
  have := num_calls W es h 3 (by omega)
  obtain ⟨h1, h2⟩ := List.getElem?_eq_some_iff.1 hp
  rw [h2] at this
  exact this
theorem parseA_ok (s : List UInt8) (six : Bool) (b : List UInt8) (h : parseA s = some (six, b)) : b.length = 16 ∧ rightA six b = true := by
  unfold parseA at h
  split at h
  · obtain ⟨c, h1, h2⟩ := Option.map_eq_some_iff.1 h
    injection h2 with e1 e2
    subst e1; subst e2
    exact ⟨coloned_len _ _ h1, rfl⟩
  · obtain ⟨c, h1, h2⟩ := Option.map_eq_some_iff.1 h
    injection h2 with e1 e2
    subst e1; subst e2
    refine ⟨dotted_len _ _ h1, ?_⟩
    unfold dotted at h1
    split at h1
    · rename_i h4
      obtain ⟨d, h5, rfl⟩ := Option.map_eq_some_iff.1 h1
      have h6 := dotP_len _ _ h5
      unfold rightA
      rw [List.drop_append_of_le_length (by omega), List.drop_of_length_le (by omega)]
      decide
    · cases h1
set_option maxHeartbeats 4000000 in
theorem addr_parses (ea : Addr) (es : List Addr) (s : ByteArray) (w : World) (hE : Env ea w) (he : Errs w es) (hp : es[3]? = some ea) (hs : s.size ≤ 140737488351232) :
    Calls Tryz.prog 5 #[.string s] w fun e w' => e = .returned (.bool true) ∧ Below w.heap.size w w' := by
  have HE := Lib.hid hE
  have KA := Lib.hid (fun W hE => alive2_calls ea W hE)
  by_cases hbig : 200 < s.size
  · have hbi : 200 < (s.size : Int) := by omega
    have hsi : (s.size : Int) ≤ 140737488351232 := by omega
    clear hE he hp hs hbig
    go_enter Tryz.func5, Tryz.ntmps5
    go_wp2_with (go_at_call 14; ((with_reducible refine (KA.out _ HE.out).mono ?_); rintro e w1 ⟨rfl, hb1⟩; have HB1 := Lib.hid hb1; clear hb1))
    go_ret
    exact ⟨rfl, HB1.out⟩
  · have hbi : ¬ 200 < (s.size : Int) := by omega
    have hsi : (s.size : Int) ≤ 200 := by omega
    have KP := Lib.hid (fun W hE => parse_calls ea s W hE (by omega))
    have KR := Lib.hid (fun W hE => rparse_calls ea s W hE (by omega))
    have KN : Hid (∀ W, Below w.heap.size w W → Calls Tryz.prog 24 #[.iface 226 (.pointer (some ea))] W fun e w' => e = .returned (.int .i64 4) ∧ Below W.heap.size W w') := Lib.hid (fun W (hb : Below w.heap.size w W) => num4 W es (he.below hb) ea hp)
    have hok := parseA_ok s.data.toList
    clear hE he hp hs hbig
    cases hr : parseA s.data.toList with
    | none =>
      rw [hr] at KP KR
      clear hr hok
      have HQ := Lib.hid (fun W => eq_addr false zero16 rfl W)
      have HQ2 : Hid (∀ W, (binOp .eql 24 (.agg zeroCs.toArray) (.agg zeroCs.toArray)).run Tryz.prog W = .ok (.bool true) W) := HQ
      go_enter Tryz.func5, Tryz.ntmps5
      go_wp2_with (first
        | (go_at_call 14; ((with_reducible refine (KA.out _ HE.out).mono ?_); rintro e w1 ⟨rfl, hb1⟩; have HB1 := Lib.hid hb1; clear hb1))
        | (go_at_call 19; ((with_reducible refine (KP.out _ (HE.out.below HB1.out)).mono ?_); rintro e w2 ⟨hq, hb2⟩; obtain rfl : e = .returned (.tuple #[.agg zeroCs.toArray, .iface 226 (.pointer (some ea))]) := hq; have HB2 := Lib.hid (HB1.out.trans (hb2.mono HB1.out.size)); clear hb2))
        | (refine wp_store_blk rfl 24 (.tmp 3) (.tmp 15) rfl w2.heap.size 0 (adCells false zero16) (adCells false zero16) 24 _ rfl rfl rfl (Blk.new _ _ _ _ _ rfl rfl) (by decide) infoAd (adCells_one _ _) (by decide) ?_; intro w3 hk3 ha3; have HK3 : Hid (Blk w2.heap.size (adCells false zero16) 24 w3) := Lib.hid hk3; have HB3 : Hid (Below w.heap.size w w3) := Lib.hid (HB2.out.trans ((below_alt (below_own_alloc w2 _) ha3 (by simp) (fun k hk => by omega)).mono HB2.out.size)); clear hk3 ha3)
        | (go_at_call 23; ((with_reducible refine (KR.out _ (HE.out.below HB3.out)).mono ?_); rintro e w4 ⟨hq, hb4⟩; obtain rfl : e = .returned (.tuple #[.agg zeroCs.toArray, .bool false]) := hq; have HB4 := Lib.hid (HB3.out.trans (hb4.mono HB3.out.size)); have HK4 := Lib.hid (HK3.out.below hb4); clear hb4))
        | (refine wp_store_blk rfl 24 (.tmp 5) (.tmp 20) rfl w4.heap.size 0 (adCells false zero16) (adCells false zero16) 24 _ rfl rfl rfl (Blk.new _ _ _ _ _ rfl rfl) (by decide) infoAd (adCells_one _ _) (by decide) ?_; intro w5 hk5 ha5; have hb5 := below_alt (below_own_alloc w4 _) ha5 (by simp) (fun k hk => by omega); have HB5 : Hid (Below w.heap.size w w5) := Lib.hid (HB4.out.trans (hb5.mono HB4.out.size)); have ld := (HK4.out.below hb5).load (P := Tryz.prog) 0 17 zeroCs rfl rfl; have eqz := HQ2.out w5; clear hk5 ha5 hb5)
        | (go_at_call 24; ((with_reducible refine (KN.out _ HB5.out).mono ?_); rintro e w6 ⟨rfl, hb6⟩; have HB6 := Lib.hid (HB5.out.trans (hb6.mono HB5.out.size)); clear hb6)))
      go_ret
      exact ⟨rfl, HB6.out⟩
    | some p =>
      obtain ⟨six, b⟩ := p
      obtain ⟨hbl, hri⟩ := hok six b hr
      rw [hr] at KP KR
      have KG := Lib.hid (fun W => right_calls' six b hbl W)
      rw [hri] at KG
      have HBL := Lib.hid hbl
      have HQ2 := Lib.hid (fun W => eq_addr six b hbl W)
      have hsz : (adA six b).size = 17 := adCells_len _ _ hbl
      clear hr hok hri hbl
      go_enter Tryz.func5, Tryz.ntmps5
      go_wp2_with (first
        | (go_at_call 14; ((with_reducible refine (KA.out _ HE.out).mono ?_); rintro e w1 ⟨rfl, hb1⟩; have HB1 := Lib.hid hb1; clear hb1))
        | (go_at_call 19; ((with_reducible refine (KP.out _ (HE.out.below HB1.out)).mono ?_); rintro e w2 ⟨hq, hb2⟩; obtain rfl : e = .returned (.tuple #[.agg (adA six b), .nilIface]) := hq; have HB2 := Lib.hid (HB1.out.trans (hb2.mono HB1.out.size)); clear hb2))
        | (refine wp_store_blk rfl 24 (.tmp 3) (.tmp 15) rfl w2.heap.size 0 (adCells false zero16) (adCells six b) 24 _ rfl rfl rfl (Blk.new _ _ _ _ _ rfl rfl) (by rw [adCells_len _ _ HBL.out]; decide) (by rw [adCells_len _ _ HBL.out]; exact infoAd) (adCells_one _ _) (by rw [adCells_len _ _ HBL.out]; decide) ?_; intro w3 hk3 ha3; have HK3 : Hid (Blk w2.heap.size (adCells six b) 24 w3) := Lib.hid (by rw [splice_all _ _ (by rw [adCells_len _ _ HBL.out]; decide)] at hk3; exact hk3); have HB3 : Hid (Below w.heap.size w w3) := Lib.hid (HB2.out.trans ((below_alt (below_own_alloc w2 _) ha3 (by simp) (fun k hk => by omega)).mono HB2.out.size)); clear hk3 ha3)
        | (go_at_call 23; ((with_reducible refine (KR.out _ (HE.out.below HB3.out)).mono ?_); rintro e w4 ⟨hq, hb4⟩; obtain rfl : e = .returned (.tuple #[.agg (adA six b), .bool true]) := hq; have HB4 := Lib.hid (HB3.out.trans (hb4.mono HB3.out.size)); have HK4 := Lib.hid (HK3.out.below hb4); clear hb4))
        | (refine wp_store_blk rfl 24 (.tmp 5) (.tmp 20) rfl w4.heap.size 0 (adCells false zero16) (adCells six b) 24 _ rfl rfl rfl (Blk.new _ _ _ _ _ rfl rfl) (by rw [adCells_len _ _ HBL.out]; decide) (by rw [adCells_len _ _ HBL.out]; exact infoAd) (adCells_one _ _) (by rw [adCells_len _ _ HBL.out]; decide) ?_; intro w5 hk5 ha5; have hb5 := below_alt (below_own_alloc w4 _) ha5 (by simp) (fun k hk => by omega); have HB5 : Hid (Below w.heap.size w w5) := Lib.hid (HB4.out.trans (hb5.mono HB4.out.size)); have ld : (loadCells ⟨w2.heap.size, 0, none⟩ 17).run Tryz.prog w5 = .ok (adA six b) w5 := (HK4.out.below hb5).load 0 17 (adCells six b) (by rw [List.drop_zero, List.take_of_length_le (by rw [adCells_len _ _ HBL.out]; omega)]) (adCells_len _ _ HBL.out); have ld2 : (loadCells ⟨w4.heap.size, 0, none⟩ 17).run Tryz.prog w5 = .ok (adA six b) w5 := (show Blk w4.heap.size (adCells six b) 24 w5 by rw [splice_all _ _ (by rw [adCells_len _ _ HBL.out]; decide)] at hk5; exact hk5).load 0 17 (adCells six b) (by rw [List.drop_zero, List.take_of_length_le (by rw [adCells_len _ _ HBL.out]; omega)]) (adCells_len _ _ HBL.out); have eqz := HQ2.out w5; clear hk5 ha5 hb5)
        | (go_at_call 16; ((with_reducible refine (KG.out _).mono ?_); rintro e w6 ⟨rfl, hb6⟩; have HB6 := Lib.hid (HB5.out.trans (hb6.mono HB5.out.size)); clear hb6)))
      go_ret
      exact ⟨rfl, HB6.out⟩
theorem addr_parses_row (W : World) (es : List Addr) (el : es.length = 20) (en : es.Nodup) (eh : ∀ (k g : Nat) (a : Addr), (gl ++ [20, 19])[k]? = some g → es[k]? = some a → Holds W g a)
    (ea : Addr) (hE : Env ea W) (s : ByteArray) (hs : s.size ≤ 140737488351232) :
    Calls Tryz.prog 5 #[.string s] W fun e W' => e = .returned (.bool true) ∧ Below W.heap.size W W' := by
  refine addr_parses ea (es.take 18) s W hE (errs20 W es el en eh) ?_ hs
  have h3 : es[3]? = some es[3] := List.getElem?_eq_getElem (by omega)
  have hh := eh 3 3 _ (by decide) h3
  have h4 := hh.1.symm.trans hE.form.1
  rw [List.getElem?_take, if_pos (by decide), h3]
  have h5 := Option.some.inj h4
  unfold ev at h5
  injection h5 with h6 h7
  injection h7
end Go.Proofs.YtmcgkknpkocgoaaGreatDoor.Ad
