/- event.Frame of a bookmark of version 5. -/
import Derived.Test.YtjpppkhoddggbaaGreatDoorEvB
namespace Go.Proofs.YtjpppkhoddggbaaGreatDoor.Ev
open Go.RowKit Go.Proofs.YtjpppkhoddggbaaGreatDoor.Mem Go.Proofs.YtjpppkhoddggbaaGreatDoor.Num Go.Proofs.YtjpppkhoddggbaaGreatDoor.Laid
set_option linter.unusedVariables false
set_option linter.unusedSimpArgs false
set_option maxRecDepth 100000
attribute [-go_sem] loadCells loadCellsFrom
/-- What the parameter's block reads as. -/
def EvS (ea : Array Value) (b : Nat) (W : World) : Prop := W.cell? ⟨b, 0, none⟩ = some (.int .i64 7) ∧ W.cell? ⟨b, 1, none⟩ = some (.int .i64 5) ∧ (loadCells ⟨b, 0, none⟩ 27).run Tryz.prog W = .ok ea W
theorem evS (b : Nat) (W : World) (h : Blk b evA 46 W) : EvS evA.toArray b W := ⟨h.cell 0 _ rfl, h.cell 1 _ rfl, h.load 0 27 _ rfl rfl⟩
set_option maxHeartbeats 4000000 in
theorem frame_calls (w : World) :
    Calls Tryz.prog 6 #[.agg evA.toArray] w fun e w' => (∃ A n c, e = .returned (.tuple #[.agg #[.int .i64 7, .slice A n c], .nilIface]) ∧ Hid (Row eU8 w' (.slice A n c) five)) ∧ Below w.heap.size w w' := by
  have h27 : evA.toArray.size = 27 := rfl
  have KC := Lib.hid (fun W => content_calls evA.toArray rfl rfl W)
  have KB := Lib.hid (fun W => body_calls evA.toArray rfl rfl W)
  have KK := Lib.hid (fun W => (show decide ((1 : Int) ≤ 7 ∧ (7 : Int) ≤ 9) = true from rfl) ▸ known_calls 7 W)
  have SE := Lib.hid (fun b W h => evS b W h)
  have HBK := Lib.hid (Blk.new w evA evA.toArray 46 _ rfl rfl)
  have hs0 := SE.out _ _ HBK.out
  obtain ⟨c00, c01, c02⟩ := hs0
  have hs1 := SE.out _ _ (HBK.out.alloc (.cells #[.int .i64 0, .slice none 0 0] 28))
  obtain ⟨c10, c11, c12⟩ := hs1
  have FC := Lib.hid (fun b W (h : FrCut w b W) => h)
  generalize evA.toArray = ea at *
  go_enter Tryz.func6, Tryz.ntmps6
  go_upto_region 10 with (first
    | (go_at_call 7; ((with_reducible refine (KK.out _).mono ?_); rintro e w1 ⟨rfl, rfl⟩))
    | (go_at_call 8; ((with_reducible refine (versions_calls _).mono ?_); rintro e w1 ⟨rfl, rfl⟩))
    | (go_at_call 9; ((with_reducible refine (KC.out _).mono ?_); rintro e w1 ⟨rfl, hb1⟩; have HB1 := Lib.hid hb1; obtain ⟨c20, c21, c22⟩ := SE.out _ _ ((HBK.out.alloc _).below hb1); clear hb1))
    | (go_at_call 10; ((with_reducible refine (num5 _).mono ?_); rintro e w2 ⟨⟨A1, n1, k1, rfl, HR2⟩, hb2⟩; have HB2 := Lib.hid (HB1.out.trans (hb2.mono HB1.out.size)); have hs2 := SE.out _ _ ((HBK.out.alloc _).below HB2.out); obtain ⟨c30, c31, c32⟩ := hs2; clear hb2)))
  have HSE := Lib.hid (fun W (h : Below w2.heap.size w2 W) => SE.out _ _ (((HBK.out.alloc _).below HB2.out).below h))
  have HC30 := Lib.hid (show EvS ea w.heap.size w2 from ⟨c30, c31, c32⟩)
  clear c00 c01 c02 c10 c11 c12 c20 c21 c22
  go_cut [6] (fun s6 wx => ∃ b : Nat, s6 = .pointer (some ⟨b, 0, none⟩) ∧ FrCut w b wx)
  case first =>
    go_region_held3 (fun W : World => W.cell? ⟨w.heap.size, 0, none⟩ = some (.int .i64 7) ∧ W.cell? ⟨w.heap.size, 1, none⟩ = some (.int .i64 5) ∧ (loadCells ⟨w.heap.size, 0, none⟩ 27).run Tryz.prog W = .ok ea W) (first | exact HC30.out | exact HSE.out _ (below_own_drew _) | exact HSE.out _ ((below_own_drew _).alloc (Nat.le_refl _) _) | exact HSE.out _ (below_own_alloc _ _) | exact HSE.out _ ((below_own_alloc _ _).trans (below_own_drew _ |>.mono (by simp))) | exact HSE.out _ HB5.out | exact HSE.out _ (HB5.out.alloc HB5.out.size _) | exact HSE.out _ ((HB5.out.alloc HB5.out.size _).alloc (by have := HB5.out.size; simp; omega) _) | exact HSE.out _ HB6.out | exact HSE.out _ (HB6.out.alloc HB6.out.size _) | exact HSE.out _ ((HB6.out.setCell (by first | exact Nat.le_refl _ | exact HB5.out.size | exact HB6.out.size | exact Nat.le_succ_of_le HB5.out.size) _).setCell (by first | exact Nat.le_refl _ | exact HB5.out.size | exact HB6.out.size | exact Nat.le_succ_of_le HB5.out.size) _) | exact HSE.out _ (((HB6.out.alloc HB6.out.size _).setCell (by first | exact Nat.le_refl _ | exact HB5.out.size | exact HB6.out.size | exact Nat.le_succ_of_le HB5.out.size) _).setCell (by first | exact Nat.le_refl _ | exact HB5.out.size | exact HB6.out.size | exact Nat.le_succ_of_le HB5.out.size) _) | go_keep) (first
      | (go_at_call 12; ((with_reducible refine (KB.out _).mono ?_); rintro e w5 ⟨rfl, hb5⟩; have HB5 : Hid (Below w2.heap.size w2 w5) := Lib.hid (by first | exact below_drewd hb5 | exact below_allocd (below_drewd hb5) | exact below_drewd (below_allocd hb5) | exact hb5 | exact below_allocd hb5); have HR5 := Lib.hid (HR2.out.below HB5.out); (first | (have X : Hid (Box w2.heap.size #[.int .i64 0, .slice none 0 0] w5) := Lib.hid ((Box.new w2 _ _ _ rfl).drew.below hb5)) | skip)))
      | (go_at_call 11; ((with_reducible refine (concat5 _ _ (by first | exact rows5 _ _ (by simp) _ _ _ _ HR5.out | exact rows5 _ _ (by simp) _ _ _ _ (HR5.out.alloc _) | exact rows5a _ _ _ _ (rows5 _ _ (by simp) _ _ _ _ HR5.out))).mono ?_); rintro e w6 ⟨⟨g3, k3, rfl, HR6⟩, hb6⟩; have HB6 : Hid (Below w2.heap.size w2 w6) := Lib.hid (by first | exact HB5.out.trans ((below_allocd hb6).mono HB5.out.size) | exact HB5.out.trans ((below_allocd (below_allocd hb6)).mono HB5.out.size)); (first | (have X6 : Hid (Box w2.heap.size #[.int .i64 0, .slice none 0 0] w6) := Lib.hid ((X.out.alloc _).below hb6)) | (have X6 : Hid (Box (w5.heap.size + 1) #[.int .i64 0, .slice none 0 0] w6) := Lib.hid ((Box.new _ _ _ _ (by simp)).below hb6)) | (have X6 : Hid (Box w5.heap.size #[.int .i64 0, .slice none 0 0] w6) := Lib.hid (((Box.new w5 _ _ _ rfl).alloc _).below hb6)) | skip); (try (obtain ⟨y0, y1⟩ := X6.out.c2; have f0 := X6.out.free 0; have f1 := X6.out.free 1)))))
    all_goals (go_wp2_with fail)
    all_goals (go_meet; refine ⟨_, rfl, ?_⟩)
    all_goals have q5 := HB5.out.size
    all_goals obtain ⟨q7, q8, q9⟩ := HR6.out
    all_goals (simp at q7)
    all_goals first
      | exact frCut_of HB2.out HB6.out X6.out (by omega) (by omega) (by omega) q9
      | exact frCut_new HB2.out HB6.out (by omega) q9
      | exact frCut_of HB2.out (HB6.out.alloc HB6.out.size _) (Box.new w6 _ _ _ rfl) HB6.out.size (by omega) (by omega) (q9.alloc _)
  case rest =>
    obtain ⟨b, rfl, ⟨A, n, c, XB, HR, hna⟩, HRb, hlt, hB⟩ := hcut
    have XB := Lib.hid XB
    have HR := Lib.hid HR
    have HRb := Lib.hid HRb
    have HNA := Lib.hid hna
    have HB := Lib.hid hB
    have l1 := load2 (P := Tryz.prog) XB.out
    clear hna hB
    go_wp2_with (go_at_call 13; ((with_reducible refine (frbytes5 _ _ _ _ HR.out).mono ?_); rintro e w7 ⟨⟨v7, rfl⟩, hb7⟩; have HB7 := Lib.hid (HB.out.trans (hb7.mono HB.out.size)); have HR7 := Lib.hid (HR.out.below hb7); have l2 := load2 (P := Tryz.prog) (XB.out.below hb7); have HRb7 := Lib.hid (HRb.out.below hb7); obtain ⟨a0, a1⟩ := HRb7.out.c2; have f0 := HRb7.out.free 0; have f1 := HRb7.out.free 1; clear hb7))
    refine bodyPost_ret (v := .tuple #[.agg #[.int .i64 7, .slice A n c], .nilIface]) (by simp [results, Tryz.results6, go_sem, loadCells, loadCellsFrom, a0, a1]) rfl ⟨⟨_, _, _, rfl, Lib.hid (row_set2 (w := w) HR7.out HNA.out)⟩, (HB7.out.setCell (p := ⟨w.heap.size + 1, 0, none⟩) (Nat.le_succ _) _).setCell (p := ⟨w.heap.size + 1, 1, none⟩) (Nat.le_succ _) _⟩
end Go.Proofs.YtjpppkhoddggbaaGreatDoor.Ev
