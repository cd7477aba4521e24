/- The law AddrFormats: the walk; its row's contract. -/
import Derived.Test.YtmcgkknpkocgoaaGreatDoorAf8
import Derived.Test.YtmcgkknpkocgoaaGreatDoorAdX
import Derived.Deep.RegionHeld3
namespace Go.Proofs.YtmcgkknpkocgoaaGreatDoor.Ad
open Go.RowKit Go.Proofs.YtmcgkknpkocgoaaGreatDoor.Mem Go.Proofs.YtmcgkknpkocgoaaGreatDoor.Num Go.Proofs.YtmcgkknpkocgoaaGreatDoor.Err Go.Proofs.YtmcgkknpkocgoaaGreatDoor.AdP
open Go.Proofs.YtmcgkknpkocgoaaGreatDoor.Key (eql_deep key_addr)
open Go.Proofs.YtmcgkknpkocgoaaGreatDoor.Head (pad pad_len adCells_one adCells_len infoAd splice_ad)
open Go.Proofs.YtmcgkknpkocgoaaGreatDoor.Addr (adV adA adCells adA_size cell_box load_box cell_six)
set_option linter.unusedVariables false
set_option linter.unusedSimpArgs false
set_option maxRecDepth 100000
attribute [-go_sem] Builtin.append_ loadCells loadCellsFrom storeCells run_eql_struct
theorem eq_addrF (six : Bool) (b : List UInt8) (hb : b.length = 16) (W : World) : (binOp .eql 24 (.agg (adA six b)) (.agg (adA six b))).run Tryz.prog W = .ok (.bool true) W := by
  have hf : (Value.agg (adA six b)).formed Tryz.prog 24 = true := by
    have hc : Tryz.prog.cellsOf 24 = 17 := by kernel_rfl
    unfold Value.formed adA
    rw [Tryz.underlying24]
    simp only [hc]
    rw [List.size_toArray, adCells_len _ _ hb]
    rfl
  exact (eql_deep (by kernel_rfl) true (by simp) hf hf (key_addr 0 six b hb) (key_addr 0 six b hb) W).1
set_option maxHeartbeats 4000000 in
theorem addr_formats (ea : Addr) (six : Bool) (b : List UInt8) (hb : b.length = 16) (w : World) (hE : Env ea w) :
    Calls Tryz.prog 3 #[adV six b] w fun e w' => e = .returned (.bool true) ∧ Below w.heap.size w w' := by
  have H3 := Lib.hid (fun W h => load_ad six b hb w W h)
  have H6 := Lib.hid (fun W h => cell_six w W six b 24 h)
  have hsz := adA_size six b hb
  have hEa := hE.alloc (.cells (adA six b) 24)
  have HE := Lib.hid (fun W (h : Below (w.alloc (.cells (adA six b) 24)).heap.size (w.alloc (.cells (adA six b) 24)) W) => hEa.below h)
  have HE0 := Lib.hid hEa
  have HBD : Hid (∀ W, Below (w.alloc (.cells (adA six b) 24)).heap.size (w.alloc (.cells (adA six b) 24)) W → Below w.heap.size w W) := Lib.hid (fun W h => below_allocd h)
  have KF : Hid (∀ W, Env ea W → Calls Tryz.prog 15 #[.agg (adA six b)] W fun e w' => e = .returned (.string (str (txtA six b))) ∧ Below W.heap.size W w') := Lib.hid (fun W hE => format_calls ea six b hb W hE)
  have KRF : Hid (∀ W, Calls Tryz.prog 18 #[.agg (adA six b)] W fun e w' => e = .returned (.string (str (txtA six b))) ∧ Below W.heap.size W w') := Lib.hid (fun W => rformat_calls six b hb W)
  have KR : Hid (∀ W, Calls Tryz.prog 16 #[.agg (adA six b)] W fun e w' => e = .returned (.bool (rightA six b)) ∧ Below W.heap.size W w') := Lib.hid (fun W => right_calls' six b hb W)
  have KRR : Hid (∀ W, Calls Tryz.prog 17 #[.agg (adA six b)] W fun e w' => e = .returned (.bool (rightA six b)) ∧ Below W.heap.size W w') := Lib.hid (fun W => rright_calls' six b hb W)
  have KB : Hid (∀ W, Calls Tryz.prog 20 #[.agg (adA six b)] W fun e w' => e = .returned (.int .i64 (if six = true then 128 else 32)) ∧ Below W.heap.size W w') := Lib.hid (fun W => bits_calls six b hb W)
  have KP : Hid (rightA six b = true → ∀ W, Env ea W → Calls Tryz.prog 19 #[.string (str (txtA six b))] W fun e w' => e = .returned (.tuple #[.agg (adA six b), .nilIface]) ∧ Below W.heap.size W w') := Lib.hid (fun hr W hE => by
    have h := parse_calls ea (str (txtA six b)) W hE (by rw [sz]; have := txtA_len six b; omega)
    rw [show (str (txtA six b)).data.toList = txtA six b from rfl, parse_txt six b hb hr] at h
    exact h)
  have HQ := Lib.hid (fun W => eq_addrF six b hb W)
  have KA := Lib.hid (fun W hE => alive2_calls ea W hE)
  have HBL := Lib.hid hb
  have hl0 := load_ad six b hb w _ (Below.refl _ _)
  have hst : ∀ v ∈ adCells six b, v.oneCell' = true := adCells_one six b
  have HST := Lib.hid hst
  clear hE hEa hst
  have hld : ∀ w2 w3 : World, Blk w2.heap.size (adCells six b) 24 w3 → (loadCells ⟨w2.heap.size, 0, none⟩ 17).run Tryz.prog w3 = .ok (adA six b) w3 := fun w2 w3 h => h.load 0 17 (adCells six b) (by rw [List.drop_zero, List.take_of_length_le (by rw [adCells_len _ _ hb]; omega)]) (adCells_len _ _ hb)
  have HLD := Lib.hid hld
  clear hld
  show Calls Tryz.prog 3 #[.agg (adA six b)] w fun e w' => e = .returned (.bool true) ∧ Below w.heap.size w w'
  have hcs : adA six b = (adCells six b).toArray := rfl
  have HCS := Lib.hid hcs
  clear hcs
  generalize str (txtA six b) = S at *
  generalize rightA six b = r at *
  cases r with
  | false =>
    clear KP
    generalize adA six b = ca at *
    go_enter Tryz.func3, Tryz.ntmps3
    go_upto_region 4 with (first
      | (go_at_call 14; ((with_reducible refine (KA.out _ HE0.out).mono ?_); rintro e w1 ⟨rfl, hb1⟩; have HB1 := Lib.hid hb1; have l1 := H3.out _ hb1; clear hb1))
      | (go_at_call 15; ((with_reducible refine (KF.out _ (HE.out _ HB1.out)).mono ?_); rintro e w2 ⟨rfl, hb2⟩; have HB2 := Lib.hid (HB1.out.trans (hb2.mono HB1.out.size)); clear hb2)))
    have HW := Lib.hid (fun W (h : Below w2.heap.size w2 W) => HB2.out.trans (h.mono HB2.out.size))
    go_region_held3 (fun W : World => (loadCells ⟨w.heap.size, 0, none⟩ 17).run Tryz.prog W = .ok ca W) (first | exact H3.out _ HB2.out | exact H3.out _ (HW.out _ (below_own_drew _)) | exact H3.out _ HB3.out | exact H3.out _ HB4.out | exact H3.out _ HB5.out | go_keep) (first
      | (go_at_call 16; ((with_reducible refine (KR.out _).mono ?_); rintro e w3 ⟨rfl, hb3⟩; (first | (have HB4 := Lib.hid (HB3.out.trans (hb3.mono HB3.out.size))) | (have HB3 := Lib.hid (HW.out _ (below_drewd hb3)))); clear hb3))
      | (go_at_call 17; ((with_reducible refine (KRR.out _).mono ?_); rintro e w4 ⟨rfl, hb4⟩; (first | (have HB4 := Lib.hid (HB3.out.trans (hb4.mono HB3.out.size))) | (have HB3 := Lib.hid (HW.out _ (below_drewd hb4)))); clear hb4))
      | (go_at_call 18; ((with_reducible refine (KRF.out _).mono ?_); rintro e w5 ⟨rfl, hb5⟩; have HB5 := Lib.hid (HB4.out.trans (hb5.mono HB4.out.size)); clear hb5)))
    all_goals (have l5 := H3.out _ HB5.out)
    all_goals
      go_wp2_with (go_at_call 17; ((with_reducible refine (KRR.out _).mono ?_); rintro e w6 ⟨rfl, hb6⟩; have HB6 := Lib.hid (HB5.out.trans (hb6.mono HB5.out.size)); clear hb6))
      go_ret
      exact ⟨rfl, HBD.out _ HB6.out⟩
  | true =>
    have KP1 := Lib.hid (KP.out rfl)
    clear KP
    go_enter Tryz.func3, Tryz.ntmps3
    go_upto_region 4 with (first
      | (go_at_call 14; ((with_reducible refine (KA.out _ HE0.out).mono ?_); rintro e w1 ⟨rfl, hb1⟩; have HB1 := Lib.hid hb1; have l1 := H3.out _ hb1; clear hb1))
      | (go_at_call 15; ((with_reducible refine (KF.out _ (HE.out _ HB1.out)).mono ?_); rintro e w2 ⟨rfl, hb2⟩; have HB2 := Lib.hid (HB1.out.trans (hb2.mono HB1.out.size)); clear hb2)))
    have HW := Lib.hid (fun W (h : Below w2.heap.size w2 W) => HB2.out.trans (h.mono HB2.out.size))
    go_region_held3 (fun W : World => (loadCells ⟨w.heap.size, 0, none⟩ 17).run Tryz.prog W = .ok (adA six b) W) (first | exact H3.out _ HB2.out | exact H3.out _ (HW.out _ (below_own_drew _)) | exact H3.out _ HB3.out | exact H3.out _ HB4.out | exact H3.out _ HB5.out | go_keep) (first
      | (go_at_call 16; ((with_reducible refine (KR.out _).mono ?_); rintro e w3 ⟨rfl, hb3⟩; (first | (have HB4 := Lib.hid (HB3.out.trans (hb3.mono HB3.out.size))) | (have HB3 := Lib.hid (HW.out _ (below_drewd hb3)))); clear hb3))
      | (go_at_call 17; ((with_reducible refine (KRR.out _).mono ?_); rintro e w4 ⟨rfl, hb4⟩; (first | (have HB4 := Lib.hid (HB3.out.trans (hb4.mono HB3.out.size))) | (have HB3 := Lib.hid (HW.out _ (below_drewd hb4)))); clear hb4))
      | (go_at_call 18; ((with_reducible refine (KRF.out _).mono ?_); rintro e w5 ⟨rfl, hb5⟩; have HB5 := Lib.hid (HB4.out.trans (hb5.mono HB4.out.size)); clear hb5)))
    all_goals (have l5 := H3.out _ HB5.out)
    all_goals
      cases six
      all_goals
        go_wp2_with (first
          | (go_at_call 17; ((with_reducible refine (KRR.out _).mono ?_); rintro e w6 ⟨rfl, hb6⟩; have HB6 := Lib.hid (HB5.out.trans (hb6.mono HB5.out.size)); clear hb6))
          | (go_at_call 19; ((with_reducible refine (KP1.out _ (HE.out _ HB6.out)).mono ?_); rintro e w7 ⟨rfl, hb7⟩; have HB7 := Lib.hid (HB6.out.trans (hb7.mono HB6.out.size)); clear hb7))
          | (refine wp_store_blk rfl 24 (.tmp 4) (.tmp 28) rfl w7.heap.size 0 (adCells false zero16) (adCells _ b) 24 _ rfl rfl rfl (Blk.new _ _ _ _ _ rfl rfl) (by rw [adCells_len _ _ HBL.out]; decide) (by rw [adCells_len _ _ HBL.out]; exact infoAd) (adCells_one _ _) (by rw [adCells_len _ _ HBL.out]; decide) ?_; intro w8 hk8 ha8; have HB8 := Lib.hid (HB7.out.trans ((below_alt (below_own_alloc w7 _) ha8 (by simp) (fun k hk => by omega)).mono HB7.out.size)); have hk8' := hk8; rw [splice_all _ _ (by rw [adCells_len _ _ HBL.out]; decide)] at hk8'; have l8 := HLD.out _ _ hk8'; have l8a := H3.out _ HB8.out; have c8 := H6.out _ HB8.out; have q8 := HQ.out w8; clear hk8 hk8' ha8)
          | (go_at_call 20; ((with_reducible refine (KB.out _).mono ?_); rintro e w9 ⟨rfl, hb9⟩; have HB9 := Lib.hid (HB8.out.trans (hb9.mono HB8.out.size)); clear hb9)))
        go_ret
        exact ⟨rfl, HBD.out _ HB9.out⟩
theorem formats_row (W : World) (es : List Addr) (el : es.length = 3) (en : es.Nodup) (eh : ∀ (k g : Nat) (a : Addr), [3, 20, 19][k]? = some g → es[k]? = some a → Holds W g a)
    (ea : Addr) (hE : Env ea W) (v1 : Value) (h1 : IsAddr v1) :
    Calls Tryz.prog 3 #[v1] W fun e W' => e = .returned (.bool true) ∧ Below W.heap.size W W' := by
  obtain ⟨s1, b1, q1, rfl⟩ := h1
  exact addr_formats ea s1 b1 q1 W hE
end Go.Proofs.YtmcgkknpkocgoaaGreatDoor.Ad
