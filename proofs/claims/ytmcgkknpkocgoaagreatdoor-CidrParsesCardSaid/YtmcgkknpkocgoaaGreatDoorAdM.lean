/- addr.Format of an address of sixteen bytes; the chapter's example. -/
import Derived.Test.YtmcgkknpkocgoaaGreatDoorAdL
import Derived.Test.YtmcgkknpkocgoaaGreatDoorAdF
import Derived.Test.YtmcgkknpkocgoaaGreatDoorKeyB
namespace Go.Proofs.YtmcgkknpkocgoaaGreatDoor.Ad
open Go.RowKit Go.Proofs.YtmcgkknpkocgoaaGreatDoor.Mem Go.Proofs.YtmcgkknpkocgoaaGreatDoor.Num Go.Proofs.YtmcgkknpkocgoaaGreatDoor.Err Go.Proofs.YtmcgkknpkocgoaaGreatDoor.AdP
open Go.Proofs.YtmcgkknpkocgoaaGreatDoor.Head (pad pad_len adCells_one adCells_len infoAd splice_ad)
open Go.Proofs.YtmcgkknpkocgoaaGreatDoor.Addr (adV adA adCells adA_size cell_box load_box cell_six)
set_option linter.unusedVariables false
set_option linter.unusedSimpArgs false
set_option maxRecDepth 100000
attribute [-go_sem] Builtin.append_ loadCells loadCellsFrom storeCells
theorem right_six (b : List UInt8) (hb : b.length = 16) (w : World) :
    Calls Tryz.prog 16 #[adV true b] w fun e w' => e = .returned (.bool true) ∧ Below w.heap.size w w' := by
  have c0 := cell_six w (w.alloc (.cells (adA true b) 24)) true b 24 (Below.refl _ _)
  have hsz := adA_size true b hb
  show Calls Tryz.prog 16 #[.agg (adA true b)] w fun e w' => e = .returned (.bool true) ∧ Below w.heap.size w w'
  generalize adA true b = ca at *
  have HB := Lib.hid ((Below.refl w.heap.size w).alloc (Nat.le_refl _) (.cells ca 24))
  go_enter Tryz.func16, Tryz.ntmps16
  go_wp2
  go_ret
  exact ⟨rfl, HB.out⟩
/-- The text of an address of sixteen bytes. -/
def fmt6 (b : List UInt8) : List UInt8 := if (nz b 8).2.1 < 2 then textsL b 0 8 else textsL b 0 (nz b 8).1 ++ [58, 58] ++ textsL b ((nz b 8).1 + (nz b 8).2.1) 8
theorem str_cat (a b : List UInt8) : str a ++ str b = str (a ++ b) := by
  apply ByteArray.ext
  simp [ByteArray.data_append]
theorem textsL_len (b : List UInt8) (lo hi : Nat) (h : hi ≤ 8) : (textsL b lo hi).length ≤ 200 := by
  unfold textsL
  refine Nat.le_trans (join_len _ 21 (fun x hx => ?_)) ?_
  · obtain ⟨j, _, rfl⟩ := List.mem_map.1 hx
    exact numb_len _ _ _
  · rw [List.length_map, List.length_range']; omega
theorem sz (l : List UInt8) : (str l).size = l.length := by show l.toArray.size = l.length; simp
theorem add_str (x y : ByteArray) (h : x.size + y.size ≤ 1000000) (W : World) : (binOp .add 9 (.string x) (.string y)).run Tryz.prog W = .ok (.string (x ++ y)) W := by
  have h1 : (x.size : Int) + (y.size : Int) ≤ 9223372036854775807 := by omega
  simp [go_sem, Op.stringOp, h1]
set_option maxHeartbeats 2000000 in
theorem format_six (ea : Addr) (b : List UInt8) (hb : b.length = 16) (w : World) (hE : Env ea w) :
    Calls Tryz.prog 15 #[adV true b] w fun e w' => e = .returned (.string (str (fmt6 b))) ∧ Below w.heap.size w w' := by
  have hld : ∀ W, Below (w.alloc (.cells (adA true b) 24)).heap.size (w.alloc (.cells (adA true b) 24)) W → (loadCells ⟨w.heap.size, 0, none⟩ 17).run Tryz.prog W = .ok (adA true b) W ∧ W.cell? ⟨w.heap.size, 0, none⟩ = some (.bool true) := fun W h =>
    ⟨load_box w W (adCells true b) (adCells true b) 24 0 17 (by rw [List.drop_zero, List.take_of_length_le (by rw [adCells_len _ _ hb]; omega)]) (adCells_len _ _ hb) h, cell_six w W true b 24 h⟩
  have HLD := Lib.hid hld
  have hEa := hE.alloc (.cells (adA true b) 24)
  have HE := Lib.hid (fun W (h : Below (w.alloc (.cells (adA true b) 24)).heap.size (w.alloc (.cells (adA true b) 24)) W) => hEa.below h)
  have HBD : Hid (∀ W, Below (w.alloc (.cells (adA true b) 24)).heap.size (w.alloc (.cells (adA true b) 24)) W → Below w.heap.size w W) := Lib.hid (fun W h => below_allocd h)
  have KR : Hid (∀ W, Calls Tryz.prog 16 #[.agg (adA true b)] W fun e w' => e = .returned (.bool true) ∧ Below W.heap.size W w') := Lib.hid (fun W => right_six b hb W)
  have KN : Hid (∀ W, Calls Tryz.prog 81 #[.agg (adA true b)] W fun e w' => e = .returned (.tuple #[.int .i64 ((nz b 8).1 : Int), .int .i64 ((nz b 8).2.1 : Int)]) ∧ Below W.heap.size W w') := Lib.hid (fun W => noughts_calls true b hb W)
  have KT : Hid (∀ (lo hi : Nat), hi ≤ 8 → ∀ W, Env ea W → Calls Tryz.prog 82 #[.agg (adA true b), .int .i64 (lo : Int), .int .i64 (hi : Int)] W fun e w' => e = .returned (.string (str (textsL b lo hi))) ∧ Below W.heap.size W w') := Lib.hid (fun lo hi h W hE => texts_calls ea true b hb lo hi h W hE)
  have hn := nz_le b 8
  have hsz := adA_size true b hb
  have hl0 := (hld _ (Below.refl _ _)).1
  clear hld hE hEa
  show Calls Tryz.prog 15 #[.agg (adA true b)] w fun e w' => e = .returned (.string (str (fmt6 b))) ∧ Below w.heap.size w w'
  unfold fmt6
  generalize (nz b 8).1 = f at *
  generalize (nz b 8).2.1 = m at *
  generalize adA true b = ca at *
  have hn := hn.1
  have hfi : (f : Int) ≤ 8 := by omega
  have hmi : (m : Int) ≤ 8 := by omega
  by_cases hm : m < 2
  · rw [if_pos hm]
    have K1 : Hid (∀ W, Env ea W → Calls Tryz.prog 82 #[.agg ca, .int .i64 0, .int .i64 8] W fun e w' => e = .returned (.string (str (textsL b 0 8))) ∧ Below W.heap.size W w') := Lib.hid (KT.out 0 8 (by omega))
    have hm2 : (m : Int) < 2 := by omega
    clear hm hn KT
    generalize hs : str (textsL b 0 8) = s at K1
    have HS := Lib.hid hs
    clear hs
    go_enter Tryz.func15, Tryz.ntmps15
    go_wp2_with (first
      | (go_at_call 16; ((with_reducible refine (KR.out _).mono ?_); rintro e w1 ⟨rfl, hb1⟩; obtain ⟨l1, c1⟩ := HLD.out _ hb1; have HB1 := Lib.hid hb1; clear hb1))
      | (go_at_call 81; ((with_reducible refine (KN.out _).mono ?_); rintro e w2 ⟨rfl, hb2⟩; have HB2 := Lib.hid (HB1.out.trans (hb2.mono HB1.out.size)); obtain ⟨l2, c2⟩ := HLD.out _ HB2.out; clear hb2))
      | (go_at_call 82; ((with_reducible refine (K1.out _ (HE.out _ HB2.out)).mono ?_); rintro e w3 ⟨rfl, hb3⟩; have HB3 := Lib.hid (HB2.out.trans (hb3.mono HB2.out.size)); clear hb3)))
    go_ret
    exact ⟨by first | rfl | (rw [HS.out]; rfl), HBD.out _ HB3.out⟩
  · rw [if_neg hm]
    have K1 : Hid (∀ W, Env ea W → Calls Tryz.prog 82 #[.agg ca, .int .i64 0, .int .i64 (f : Int)] W fun e w' => e = .returned (.string (str (textsL b 0 f))) ∧ Below W.heap.size W w') := Lib.hid (KT.out 0 f (by omega))
    have K2 : Hid (∀ W, Env ea W → Calls Tryz.prog 82 #[.agg ca, .int .i64 ((f : Int) + (m : Int)), .int .i64 8] W fun e w' => e = .returned (.string (str (textsL b (f + m) 8))) ∧ Below W.heap.size W w') := Lib.hid (by have := KT.out (f + m) 8 (by omega); rw [Int.natCast_add] at this; exact this)
    have hm2 : (2 : Int) ≤ (m : Int) := by omega
    have hw : IntKind.i64.wrap ((f : Int) + (m : Int)) = (f : Int) + (m : Int) := by rw [IntKind.wrap_i64]; omega
    have HSE := Lib.hid (show str (textsL b 0 f) ++ ⟨#[58, 58]⟩ ++ str (textsL b (f + m) 8) = str (textsL b 0 f ++ [58, 58] ++ textsL b (f + m) 8) by rw [show (⟨#[58, 58]⟩ : ByteArray) = str [58, 58] from rfl, str_cat, str_cat])
    have q1 := textsL_len b 0 f (by omega)
    have q2 := textsL_len b (f + m) 8 (by omega)
    have hz1 : ((str (textsL b 0 f)).size : Int) ≤ 200 := by rw [sz]; omega
    have hz2 : ((str (textsL b (f + m) 8)).size : Int) ≤ 200 := by rw [sz]; omega
    have hA1 := add_str (str (textsL b 0 f)) ⟨#[58, 58]⟩ (by rw [sz]; show (textsL b 0 f).length + 2 ≤ 1000000; omega)
    have hA2 := add_str (str (textsL b 0 f) ++ ⟨#[58, 58]⟩) (str (textsL b (f + m) 8)) (by rw [ByteArray.size_append, sz, sz]; show (textsL b 0 f).length + 2 + (textsL b (f + m) 8).length ≤ 1000000; omega)
    clear hm hn KT q1 q2
    generalize hs : str (textsL b 0 f ++ [58, 58] ++ textsL b (f + m) 8) = S at HSE
    generalize str (textsL b 0 f) = s1 at *
    generalize str (textsL b (f + m) 8) = s2 at *
    have HS := Lib.hid hs
    clear hs
    go_enter Tryz.func15, Tryz.ntmps15
    go_upto_region 14 with (first
      | (go_at_call 16; ((with_reducible refine (KR.out _).mono ?_); rintro e w1 ⟨rfl, hb1⟩; obtain ⟨l1, c1⟩ := HLD.out _ hb1; have HB1 := Lib.hid hb1; clear hb1))
      | (go_at_call 81; ((with_reducible refine (KN.out _).mono ?_); rintro e w2 ⟨rfl, hb2⟩; have HB2 := Lib.hid (HB1.out.trans (hb2.mono HB1.out.size)); clear hb2)))
    clear l1 c1 hl0
    have HW := Lib.hid (fun W (h : Below w2.heap.size w2 W) => HB2.out.trans (h.mono HB2.out.size))
    have l2 : (loadCells ⟨w.heap.size, 0, none⟩ 17).run Tryz.prog w2.drew = .ok ca w2.drew := (HLD.out _ (HW.out _ (below_own_drew _))).1
    go_region_with (first
      | (go_at_call 82; ((with_reducible refine (K1.out _ (HE.out _ (HW.out _ (below_own_drew _)))).mono ?_); rintro e w3 ⟨rfl, hb3⟩; have HB3 := Lib.hid (HW.out _ (below_drewd hb3)); have l3 := (HLD.out _ HB3.out).1; clear hb3))
      | (go_at_call 82; ((with_reducible refine (K2.out _ (HE.out _ (HW.out _ (below_own_drew _)))).mono ?_); rintro e w3 ⟨rfl, hb3⟩; have HB3 := Lib.hid (HW.out _ (below_drewd hb3)); have l3 := (HLD.out _ HB3.out).1; clear hb3))
      | (go_at_call 82; ((with_reducible refine (K2.out _ (HE.out _ HB3.out)).mono ?_); rintro e w4 ⟨rfl, hb4⟩; have HB4 := Lib.hid (HB3.out.trans (hb4.mono HB3.out.size)); have l4 := (HLD.out _ HB4.out).1; clear hb4))
      | (go_at_call 82; ((with_reducible refine (K1.out _ (HE.out _ HB3.out)).mono ?_); rintro e w4 ⟨rfl, hb4⟩; have HB4 := Lib.hid (HB3.out.trans (hb4.mono HB3.out.size)); have l4 := (HLD.out _ HB4.out).1; clear hb4)))
    all_goals (go_wp2_with fail)
    all_goals (go_ret; exact ⟨by rw [HSE.out]; rfl, HBD.out _ HB4.out⟩)
end Go.Proofs.YtmcgkknpkocgoaaGreatDoor.Ad
