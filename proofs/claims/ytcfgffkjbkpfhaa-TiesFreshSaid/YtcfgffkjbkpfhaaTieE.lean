/- ties.Compare and the document's. -/
import Derived.Test.YtcfgffkjbkpfhaaTieD
namespace Go.Proofs.Ytcfgffkjbkpfhaa.Tie
open Go.RowKit Go.Proofs.Ytcfgffkjbkpfhaa.Mem Go.Proofs.Ytcfgffkjbkpfhaa.Num Go.Proofs.Ytcfgffkjbkpfhaa.Key
open Go.Proofs.Ytcfgffkjbkpfhaa.Addr hiding below_allocd
set_option linter.unusedVariables false
set_option linter.unusedSimpArgs false
set_option maxRecDepth 100000
attribute [-go_sem] Builtin.append_ loadCells loadCellsFrom storeCells run_eql_struct
def nb (b : Bool) : Int := if b then 1 else 0
def cmpT (x y : Ti) : Int := orL [cmpAd x.s x.b y.s y.b, orL [cmpS x.sp y.sp, cmpS x.sn y.sn], cmpS x.nm y.nm, cmpI (nb x.lc) (nb y.lc)]
set_option maxHeartbeats 4000000 in
theorem tcompare_calls (x y : Ti) (w : World) : Calls Try.prog 22 #[x.V, y.V] w fun e w' => e = .returned (.int .i64 (cmpT x y)) ∧ Below w.heap.size w w' := by
  have hmx : Try.prog.follows .mixedOrders = true := by kernel_rfl
  obtain ⟨W2, hW2⟩ : ∃ W2, W2 = (w.alloc (.cells x.A 49)).alloc (.cells y.A 49) := ⟨_, rfl⟩
  have hB : Below w.heap.size w W2 := by rw [hW2]; exact ((Below.refl _ _).alloc (Nat.le_refl _) _).alloc (by simp) _
  have hk1 : Blk w.heap.size x.cells 49 W2 := by rw [hW2]; exact (Blk.new w _ _ _ _ rfl rfl).alloc _
  have hk2 : Blk (w.heap.size + 1) y.cells 49 W2 := by rw [hW2]; exact Blk.new _ _ _ _ _ rfl (by simp)
  have HS : Hid (∀ W, Below W2.heap.size W2 W →
      (W.cell? ⟨w.heap.size, 19, none⟩ = some (.string x.nm) ∧ W.cell? ⟨w.heap.size, 20, none⟩ = some (.bool x.lc) ∧ (loadCells ⟨w.heap.size, 0, none⟩ 17).run Try.prog W = .ok (adA x.s x.b) W ∧ (loadCells ⟨w.heap.size, 17, none⟩ 2).run Try.prog W = .ok #[.string x.sp, .string x.sn] W) ∧
      (W.cell? ⟨w.heap.size + 1, 19, none⟩ = some (.string y.nm) ∧ W.cell? ⟨w.heap.size + 1, 20, none⟩ = some (.bool y.lc) ∧ (loadCells ⟨w.heap.size + 1, 0, none⟩ 17).run Try.prog W = .ok (adA y.s y.b) W ∧ (loadCells ⟨w.heap.size + 1, 17, none⟩ 2).run Try.prog W = .ok #[.string y.sp, .string y.sn] W)) := Lib.hid (fun W hW => by
    obtain ⟨a1, a2, _, a4, a5, _⟩ := Ti.box (hk1.below hW)
    obtain ⟨b1, b2, _, b4, b5, _⟩ := Ti.box (hk2.below hW)
    exact ⟨⟨a1, a2, a4, a5⟩, b1, b2, b4, b5⟩)
  have K1 : Hid (∀ W, Calls Try.prog 47 #[.agg (adA x.s x.b), .agg (adA y.s y.b)] W fun e w' => e = .returned (.int .i64 (cmpAd x.s x.b y.s y.b)) ∧ Below W.heap.size W w') := Lib.hid (fun W => acompare_calls x.s x.b x.hb y.s y.b y.hb W)
  have K2 := Lib.hid (fun W => ncompare_calls x.sp x.sn y.sp y.sn W)
  have K3 := Lib.hid (fun W => scompare_calls x.nm y.nm W)
  have K4 := Lib.hid (fun W => number_calls x.lc W)
  have K5 := Lib.hid (fun W => number_calls y.lc W)
  have K6 : Hid (∀ W, Calls Try.prog 50 #[.int .i64 (if x.lc then 1 else 0), .int .i64 (if y.lc then 1 else 0)] W fun e w' => e = .returned (.int .i64 (cmpI (nb x.lc) (nb y.lc))) ∧ W = w') := Lib.hid (fun W => icompare_calls _ _ W)
  have KO : Hid (∀ (W : World) (p q r t : Int), Calls Try.prog 46 #[.slice (some ⟨W.heap.size, 0, none⟩) 4 4] (W.alloc (.cells #[.int .i64 p, .int .i64 q, .int .i64 r, .int .i64 t] 3)) fun e w' => e = .returned (.int .i64 (orL [p, q, r, t])) ∧ Below W.heap.size W w') := Lib.hid (fun W p q r t => (or_calls _ _ _ (Own.lit W 0 eInt 3 [p, q, r, t] 4 rfl _ rfl (Nat.zero_le _) (by simp)).row (by simp)).mono (by rintro e w' ⟨rfl, rfl⟩; exact ⟨rfl, (Below.refl _ _).alloc (Nat.le_refl _) _⟩))
  have HW : Hid (W2 = (w.alloc (.cells x.A 49)).alloc (.cells y.A 49)) := Lib.hid hW2
  have HB := Lib.hid hB
  have hs1 := x.sz
  have hs2 := y.sz
  have z1 : (adA x.s x.b).size = 17 := adA_size _ _ x.hb
  have z2 : (adA y.s y.b).size = 17 := adA_size _ _ y.hb
  show Calls Try.prog 22 #[.agg x.A, .agg y.A] w fun e w' => e = .returned (.int .i64 (cmpT x y)) ∧ Below w.heap.size w w'
  unfold cmpT
  clear hk1 hk2 hB hW2
  generalize x.A = xa at HW hs1 ⊢
  generalize y.A = ya at HW hs2 ⊢
  generalize adA x.s x.b = xc at HS K1 z1
  generalize adA y.s y.b = yc at HS K1 z2
  generalize cmpAd x.s x.b y.s y.b = p at K1 ⊢
  generalize orL [cmpS x.sp y.sp, cmpS x.sn y.sn] = q at K2 ⊢
  generalize cmpS x.nm y.nm = r at K3 ⊢
  generalize cmpI (nb x.lc) (nb y.lc) = t at K6 ⊢
  generalize (if x.lc = true then (1 : Int) else 0) = n1 at K4 K6
  generalize (if y.lc = true then (1 : Int) else 0) = n2 at K5 K6
  go_enter Try.func22, Try.ntmps22
  go_wp2
  rw [← HW.out]
  have HD : Hid (Below W2.heap.size W2 W2.drew) := Lib.hid (Below.refl W2.heap.size W2).drew
  go_region_held3 (fun W : World => (W.cell? ⟨w.heap.size, 19, none⟩ = some (.string x.nm) ∧ W.cell? ⟨w.heap.size, 20, none⟩ = some (.bool x.lc) ∧ (loadCells ⟨w.heap.size, 0, none⟩ 17).run Try.prog W = .ok xc W ∧ (loadCells ⟨w.heap.size, 17, none⟩ 2).run Try.prog W = .ok #[.string x.sp, .string x.sn] W) ∧
      (W.cell? ⟨w.heap.size + 1, 19, none⟩ = some (.string y.nm) ∧ W.cell? ⟨w.heap.size + 1, 20, none⟩ = some (.bool y.lc) ∧ (loadCells ⟨w.heap.size + 1, 0, none⟩ 17).run Try.prog W = .ok yc W ∧ (loadCells ⟨w.heap.size + 1, 17, none⟩ 2).run Try.prog W = .ok #[.string y.sp, .string y.sn] W)) (first | exact HS.out _ HD.out | exact HS.out _ HB1.out | exact HS.out _ HB2.out | exact HS.out _ HB8.out | exact HS.out _ HB9.out) (first
    | (go_at_call 47; ((with_reducible refine (K1.out _).mono ?_); rintro e w1 ⟨rfl, hb1⟩; have HB1 : Hid (Below W2.heap.size W2 w1) := Lib.hid (HD.out.trans hb1); clear hb1))
    | (go_at_call 48; ((with_reducible refine (K2.out _).mono ?_); rintro e w2 ⟨rfl, hb2⟩; have HB2 := Lib.hid (HB1.out.trans (hb2.mono HB1.out.size)); have HB8 := Lib.hid (HB2.out.alloc HB2.out.size (.cells #[.int .i64 p, .int .i64 q, .int .i64 r, .int .i64 t] 3)); clear hb2))
    | (go_at_call 49; ((with_reducible refine (K3.out _).mono ?_); rintro e w3 ⟨rfl, rfl⟩))
    | (go_at_call 51; ((with_reducible refine (K4.out _).mono ?_); rintro e w4 ⟨rfl, rfl⟩; clear K4))
    | (go_at_call 51; ((with_reducible refine (K5.out _).mono ?_); rintro e w5 ⟨rfl, rfl⟩; clear K5))
    | (go_at_call 50; ((with_reducible refine (K6.out _).mono ?_); rintro e w6 ⟨rfl, rfl⟩))
    | (go_at_call 46; ((with_reducible refine (KO.out _ _ _ _ _).mono ?_); rintro e w9 ⟨rfl, hb9⟩; have HB9 := Lib.hid (HB2.out.trans (hb9.mono HB2.out.size)); clear hb9)))
  all_goals go_wp2
  go_ret
  exact ⟨rfl, HB.out.trans (HB9.out.mono HB.out.size)⟩
end Go.Proofs.Ytcfgffkjbkpfhaa.Tie
