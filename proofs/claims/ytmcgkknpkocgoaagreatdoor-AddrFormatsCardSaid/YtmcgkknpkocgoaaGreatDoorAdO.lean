/- The law AddrOrders. -/
import Derived.Test.YtmcgkknpkocgoaaGreatDoorAdN
namespace Go.Proofs.YtmcgkknpkocgoaaGreatDoor.Ad
open Go.RowKit Go.Proofs.YtmcgkknpkocgoaaGreatDoor.Mem Go.Proofs.YtmcgkknpkocgoaaGreatDoor.Num Go.Proofs.YtmcgkknpkocgoaaGreatDoor.Err Go.Proofs.YtmcgkknpkocgoaaGreatDoor.AdP Go.Proofs.YtmcgkknpkocgoaaGreatDoor.Key
open Go.Proofs.YtmcgkknpkocgoaaGreatDoor.Head (pad pad_len infoAd splice_ad)
open Go.Proofs.YtmcgkknpkocgoaaGreatDoor.Addr (adV adA adCells adA_size cell_box load_box cell_six)
open Go.Proofs.YtmcgkknpkocgoaaGreatDoor.Tie (cmpAd acompare_calls racompare_calls)
set_option linter.unusedVariables false
set_option linter.unusedSimpArgs false
set_option maxRecDepth 100000
attribute [-go_sem] Builtin.append_ loadCells loadCellsFrom storeCells run_eql_struct
/-- Three addresses, in blocks one behind the other. -/
def Three (b : Nat) (xa ya za : Array Value) (W : World) : Prop := (loadCells ⟨b, 0, none⟩ 17).run Tryz.prog W = .ok xa W ∧ (loadCells ⟨b + 1, 0, none⟩ 17).run Tryz.prog W = .ok ya W ∧ (loadCells ⟨b + 1 + 1, 0, none⟩ 17).run Tryz.prog W = .ok za W
theorem three_of (w : World) (s1 : Bool) (b1 : List UInt8) (h1 : b1.length = 16) (s2 : Bool) (b2 : List UInt8) (h2 : b2.length = 16) (s3 : Bool) (b3 : List UInt8) (h3 : b3.length = 16) (W : World)
    (hb : Below (((w.alloc (.cells (adA s1 b1) 24)).alloc (.cells (adA s2 b2) 24)).alloc (.cells (adA s3 b3) 24)).heap.size (((w.alloc (.cells (adA s1 b1) 24)).alloc (.cells (adA s2 b2) 24)).alloc (.cells (adA s3 b3) 24)) W) :
    Three w.heap.size (adA s1 b1) (adA s2 b2) (adA s3 b3) W := by
  have k1 : Blk w.heap.size (adCells s1 b1) 24 W := (((Blk.new w (adCells s1 b1) _ _ _ rfl rfl).alloc _).alloc _).below hb
  have k2 : Blk (w.heap.size + 1) (adCells s2 b2) 24 W := ((Blk.new (w.alloc (.cells (adA s1 b1) 24)) (adCells s2 b2) _ _ _ rfl (by simp)).alloc _).below hb
  have k3 : Blk (w.heap.size + 1 + 1) (adCells s3 b3) 24 W := (Blk.new ((w.alloc (.cells (adA s1 b1) 24)).alloc (.cells (adA s2 b2) 24)) (adCells s3 b3) _ _ _ rfl (by simp)).below hb
  have e : ∀ (s : Bool) (b : List UInt8), b.length = 16 → (adCells s b).drop 0 = adCells s b ∧ (adCells s b).take 17 = adCells s b := fun s b h => ⟨rfl, List.take_of_length_le (by rw [adCells_len _ _ h]; omega)⟩
  exact ⟨k1.load 0 17 _ (by rw [(e _ _ h1).1, (e _ _ h1).2]) (adCells_len _ _ h1), k2.load 0 17 _ (by rw [(e _ _ h2).1, (e _ _ h2).2]) (adCells_len _ _ h2), k3.load 0 17 _ (by rw [(e _ _ h3).1, (e _ _ h3).2]) (adCells_len _ _ h3)⟩
set_option maxHeartbeats 4000000 in
theorem orders_calls (ea : Addr) (s1 : Bool) (b1 : List UInt8) (h1 : b1.length = 16) (s2 : Bool) (b2 : List UInt8) (h2 : b2.length = 16) (s3 : Bool) (b3 : List UInt8) (h3 : b3.length = 16) (w : World) (hE : Env ea w) :
    Calls Tryz.prog 4 #[adV s1 b1, adV s2 b2, adV s3 b3] w fun e w' => e = .returned (.bool true) ∧ Below w.heap.size w w' := by
  have H3 := Lib.hid (fun W hb => three_of w s1 b1 h1 s2 b2 h2 s3 b3 h3 W hb)
  have HE := Lib.hid (((hE.alloc (.cells (adA s1 b1) 24)).alloc (.cells (adA s2 b2) 24)).alloc (.cells (adA s3 b3) 24))
  have HBD : Hid (∀ W, Below (((w.alloc (.cells (adA s1 b1) 24)).alloc (.cells (adA s2 b2) 24)).alloc (.cells (adA s3 b3) 24)).heap.size (((w.alloc (.cells (adA s1 b1) 24)).alloc (.cells (adA s2 b2) 24)).alloc (.cells (adA s3 b3) 24)) W → Below w.heap.size w W) := Lib.hid (fun W h => below_allocd (below_allocd (below_allocd h)))
  have K12 : Hid (∀ W, Calls Tryz.prog 21 #[.agg (adA s1 b1), .agg (adA s2 b2)] W fun e w' => e = .returned (.int .i64 (cmpAd s1 b1 s2 b2)) ∧ Below W.heap.size W w') := Lib.hid (fun W => acompare_calls s1 b1 h1 s2 b2 h2 W)
  have K23 : Hid (∀ W, Calls Tryz.prog 21 #[.agg (adA s2 b2), .agg (adA s3 b3)] W fun e w' => e = .returned (.int .i64 (cmpAd s2 b2 s3 b3)) ∧ Below W.heap.size W w') := Lib.hid (fun W => acompare_calls s2 b2 h2 s3 b3 h3 W)
  have K21 : Hid (∀ W, Calls Tryz.prog 21 #[.agg (adA s2 b2), .agg (adA s1 b1)] W fun e w' => e = .returned (.int .i64 (- cmpAd s1 b1 s2 b2)) ∧ Below W.heap.size W w') := Lib.hid (fun W => ad_swap s1 b1 s2 b2 ▸ acompare_calls s2 b2 h2 s1 b1 h1 W)
  have K11 : Hid (∀ W, Calls Tryz.prog 21 #[.agg (adA s1 b1), .agg (adA s1 b1)] W fun e w' => e = .returned (.int .i64 0) ∧ Below W.heap.size W w') := Lib.hid (fun W => ad_self s1 b1 ▸ acompare_calls s1 b1 h1 s1 b1 h1 W)
  have K13 : Hid (∀ W, Calls Tryz.prog 21 #[.agg (adA s1 b1), .agg (adA s3 b3)] W fun e w' => e = .returned (.int .i64 (cmpAd s1 b1 s3 b3)) ∧ Below W.heap.size W w') := Lib.hid (fun W => acompare_calls s1 b1 h1 s3 b3 h3 W)
  have KR : Hid (∀ W, Calls Tryz.prog 22 #[.agg (adA s1 b1), .agg (adA s2 b2)] W fun e w' => e = .returned (.int .i64 (cmpAd s1 b1 s2 b2)) ∧ Below W.heap.size W w') := Lib.hid (fun W => racompare_calls s1 b1 h1 s2 b2 h2 W)
  have hx := ad_vals s1 b1 s2 b2
  have hy := ad_vals s2 b2 s3 b3
  have hz := ad_trans s1 b1 s2 b2 s3 b3
  have q1 := adA_size s1 b1 h1
  have q2 := adA_size s2 b2 h2
  have q3 := adA_size s3 b3 h3
  show Calls Tryz.prog 4 #[.agg (adA s1 b1), .agg (adA s2 b2), .agg (adA s3 b3)] w fun e w' => e = .returned (.bool true) ∧ Below w.heap.size w w'
  generalize cmpAd s1 b1 s2 b2 = x at *
  generalize cmpAd s2 b2 s3 b3 = y at *
  generalize cmpAd s1 b1 s3 b3 = z at *
  generalize adA s1 b1 = xa at *
  generalize adA s2 b2 = ya at *
  generalize adA s3 b3 = za at *
  clear hE h1 h2 h3
  have hzz : decide (z ≤ 0) = true ∨ 0 < x ∨ 0 < y := by
    by_cases g : z ≤ 0
    · exact .inl (decide_eq_true g)
    · exact .inr (by omega)
  clear hz
  have HZ := Lib.hid hzz
  clear hzz
  rcases hx with rfl | rfl | rfl <;> rcases hy with rfl | rfl | rfl
  all_goals
    first
      | (have hz1 : decide (z ≤ 0) = true := by have := HZ.out; simpa using this)
      | skip
    go_enter Tryz.func4, Tryz.ntmps4
    go_upto_region 3 with (go_at_call 14; ((with_reducible refine (alive2_calls ea _ HE.out).mono ?_); rintro e w1 ⟨rfl, hb1⟩; have HB1 := Lib.hid hb1; clear hb1))
    have HW := Lib.hid (fun W (h : Below w1.heap.size w1 W) => HB1.out.trans (h.mono HB1.out.size))
    go_region_held3 (fun W : World => (loadCells ⟨w.heap.size, 0, none⟩ 17).run Tryz.prog W = .ok xa W ∧ (loadCells ⟨w.heap.size + 1, 0, none⟩ 17).run Tryz.prog W = .ok ya W ∧ (loadCells ⟨w.heap.size + 1 + 1, 0, none⟩ 17).run Tryz.prog W = .ok za W) (first | exact H3.out _ HB1.out | exact H3.out _ (HW.out _ (below_own_drew _)) | exact H3.out _ HB3.out | exact H3.out _ HB4.out | go_keep) (first
      | (go_at_call 21; ((with_reducible refine (K12.out _).mono ?_); rintro e w3 ⟨rfl, hb3⟩; (first | (have HB4 := Lib.hid (HB3.out.trans (hb3.mono HB3.out.size))) | (have HB3 := Lib.hid (HW.out _ (below_drewd hb3)))); clear hb3))
      | (go_at_call 21; ((with_reducible refine (K23.out _).mono ?_); rintro e w4 ⟨rfl, hb4⟩; (first | (have HB4 := Lib.hid (HB3.out.trans (hb4.mono HB3.out.size))) | (have HB3 := Lib.hid (HW.out _ (below_drewd hb4)))); clear hb4)))
    all_goals (obtain ⟨l41, l42, l43⟩ := H3.out _ HB4.out)
    all_goals
      go_wp2_with (first
        | (go_at_call 22; ((with_reducible refine (KR.out _).mono ?_); rintro e w5 ⟨rfl, hb5⟩; have HB5 := Lib.hid (HB4.out.trans (hb5.mono HB4.out.size)); obtain ⟨l51, l52, l53⟩ := H3.out _ HB5.out; clear hb5))
        | (go_at_call 21; ((with_reducible refine (K21.out _).mono ?_); rintro e w6 ⟨rfl, hb6⟩; have HB6 := Lib.hid (HB5.out.trans (hb6.mono HB5.out.size)); obtain ⟨l61, l62, l63⟩ := H3.out _ HB6.out; clear hb6))
        | (go_at_call 21; ((with_reducible refine (K11.out _).mono ?_); rintro e w7 ⟨rfl, hb7⟩; have HB7 := Lib.hid (HB6.out.trans (hb7.mono HB6.out.size)); obtain ⟨l71, l72, l73⟩ := H3.out _ HB7.out; clear hb7))
        | (go_at_call 21; ((with_reducible refine (K13.out _).mono ?_); rintro e w8 ⟨rfl, hb8⟩; have HB8 := Lib.hid (HB7.out.trans (hb8.mono HB7.out.size)); obtain ⟨l81, l82, l83⟩ := H3.out _ HB8.out; clear hb8)))
      go_ret
      exact ⟨rfl, HBD.out _ (by first | exact HB8.out | exact HB7.out)⟩
end Go.Proofs.YtmcgkknpkocgoaaGreatDoor.Ad
