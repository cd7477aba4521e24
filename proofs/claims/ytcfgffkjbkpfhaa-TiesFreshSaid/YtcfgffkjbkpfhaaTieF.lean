/- The document's Compare of ties; ties.place. -/
import Derived.Test.YtcfgffkjbkpfhaaTieE
namespace Go.Proofs.Ytcfgffkjbkpfhaa.Tie
open Go.RowKit Go.Proofs.Ytcfgffkjbkpfhaa.Mem Go.Proofs.Ytcfgffkjbkpfhaa.Num Go.Proofs.Ytcfgffkjbkpfhaa.Key
open Go.Proofs.Ytcfgffkjbkpfhaa.Addr hiding below_allocd
set_option linter.unusedVariables false
set_option linter.unusedSimpArgs false
set_option maxRecDepth 100000
attribute [-go_sem] Builtin.append_ loadCells loadCellsFrom storeCells run_eql_struct
theorem less_ne {a b : ByteArray} (h : Op.bytesLess a.toList b.toList = true) : (a.toList == b.toList) = false := by
  cases he : (a.toList == b.toList)
  · rfl
  · rw [eq_of_beq he, bytesLess_eq] at h
    exact absurd (of_decide_eq_true h) (List.lt_irrefl _)
set_option maxHeartbeats 4000000 in
theorem rtcompare_calls (x y : Ti) (w : World) : Calls Try.prog 23 #[x.V, y.V] w fun e w' => e = .returned (.int .i64 (cmpT x y)) ∧ Below w.heap.size w w' := by
  obtain ⟨W2, hW2⟩ : ∃ W2, W2 = (w.alloc (.cells x.A 55)).alloc (.cells y.A 55) := ⟨_, rfl⟩
  have hB : Below w.heap.size w W2 := by rw [hW2]; exact ((Below.refl _ _).alloc (Nat.le_refl _) _).alloc (by simp) _
  have hk1 : Blk w.heap.size x.cells 55 W2 := by rw [hW2]; exact (Blk.new w _ _ _ _ rfl rfl).alloc _
  have hk2 : Blk (w.heap.size + 1) y.cells 55 W2 := by rw [hW2]; exact Blk.new _ _ _ _ _ rfl (by simp)
  have HS : Hid (∀ W, Below W2.heap.size W2 W →
      (W.cell? ⟨w.heap.size, 19, none⟩ = some (.string x.nm) ∧ W.cell? ⟨w.heap.size, 20, none⟩ = some (.bool x.lc) ∧ (loadCells ⟨w.heap.size, 0, none⟩ 17).run Try.prog W = .ok (adA x.s x.b) W ∧ (loadCells ⟨w.heap.size, 17, none⟩ 2).run Try.prog W = .ok #[.string x.sp, .string x.sn] W) ∧
      (W.cell? ⟨w.heap.size + 1, 19, none⟩ = some (.string y.nm) ∧ W.cell? ⟨w.heap.size + 1, 20, none⟩ = some (.bool y.lc) ∧ (loadCells ⟨w.heap.size + 1, 0, none⟩ 17).run Try.prog W = .ok (adA y.s y.b) W ∧ (loadCells ⟨w.heap.size + 1, 17, none⟩ 2).run Try.prog W = .ok #[.string y.sp, .string y.sn] W)) := Lib.hid (fun W hW => by
    obtain ⟨a1, a2, _, a4, a5, _⟩ := Ti.box (hk1.below hW)
    obtain ⟨b1, b2, _, b4, b5, _⟩ := Ti.box (hk2.below hW)
    exact ⟨⟨a1, a2, a4, a5⟩, b1, b2, b4, b5⟩)
  obtain ⟨⟨a1, a2, a3, a4⟩, b1, b2, b3, b4⟩ := HS.out _ (Below.refl _ _)
  rw [hW2] at a1 a2 a3 a4 b1 b2 b3 b4
  have K1 : Hid (Calls Try.prog 52 #[.agg (adA x.s x.b), .agg (adA y.s y.b)] ((w.alloc (.cells x.A 55)).alloc (.cells y.A 55)) fun e w' => e = .returned (.int .i64 (cmpAd x.s x.b y.s y.b)) ∧ Below W2.heap.size W2 w') := Lib.hid (by rw [← hW2]; exact racompare_calls x.s x.b x.hb y.s y.b y.hb W2)
  have K2 := Lib.hid (fun W => rncompare_calls x.sp x.sn y.sp y.sn W)
  have HB := Lib.hid hB
  have hs1 := x.sz
  have hs2 := y.sz
  have z1 : (adA x.s x.b).size = 17 := adA_size _ _ x.hb
  have z2 : (adA y.s y.b).size = 17 := adA_size _ _ y.hb
  show Calls Try.prog 23 #[.agg x.A, .agg y.A] w fun e w' => e = .returned (.int .i64 (cmpT x y)) ∧ Below w.heap.size w w'
  have hl : Op.bytesLess x.nm.toList y.nm.toList = true ∨ Op.bytesLess x.nm.toList y.nm.toList = false := by cases Op.bytesLess x.nm.toList y.nm.toList <;> simp
  have he : (x.nm.toList == y.nm.toList) = true ∨ (x.nm.toList == y.nm.toList) = false := by cases (x.nm.toList == y.nm.toList) <;> simp
  have hle := less_ne (a := x.nm) (b := y.nm)
  have e1 : (x.nm != y.nm) = !(x.nm.toList == y.nm.toList) := by unfold bne; rw [beq_toListBytes]
  have e2 : (x.nm.toList != y.nm.toList) = !(x.nm.toList == y.nm.toList) := rfl
  obtain ⟨R, hR⟩ : ∃ R, R = cmpT x y := ⟨_, rfl⟩
  rw [← hR]
  unfold cmpT cmpS at hR
  clear hk1 hk2 hB hW2
  generalize x.A = xa at a1 a2 a3 a4 b1 b2 b3 b4 K1 hs1 ⊢
  generalize y.A = ya at a1 a2 a3 a4 b1 b2 b3 b4 K1 hs2 ⊢
  generalize adA x.s x.b = xc at HS K1 z1 a3
  generalize adA y.s y.b = yc at HS K1 z2 b3
  generalize cmpAd x.s x.b y.s y.b = p at K1 hR
  have K2' : Hid (∀ W, Calls Try.prog 53 #[.agg #[.string x.sp, .string x.sn], .agg #[.string y.sp, .string y.sn]] W fun e w' => e = .returned (.int .i64 (orL [cmpS x.sp y.sp, cmpS x.sn y.sn])) ∧ Below W.heap.size W w') := K2
  clear K2
  unfold cmpS at K2'
  generalize orL [if Op.bytesLess x.sp.toList y.sp.toList = true then (-1 : Int) else if (x.sp.toList == y.sp.toList) = true then 0 else 1, if Op.bytesLess x.sn.toList y.sn.toList = true then (-1 : Int) else if (x.sn.toList == y.sn.toList) = true then 0 else 1] = q at K2' hR
  by_cases hp : p = 0
  · by_cases hq : q = 0
    · subst hp hq
      rcases he with he | he
      · have hl2 : Op.bytesLess x.nm.toList y.nm.toList = false := by
          rcases hl with hl | hl
          · rw [hle hl] at he; cases he
          · exact hl
        rw [he] at e1 e2 hR
        rw [hl2] at hR
        clear hle hl hl2
        generalize x.lc = c1 at a2 hR HS
        generalize y.lc = c2 at b2 hR HS
        cases c1 <;> cases c2
        all_goals
          have HR := Lib.hid hR
          clear hR
          go_enter Try.func23, Try.ntmps23
          go_wp2_with (first
            | (go_at_call 52; ((with_reducible refine K1.out.mono ?_); rintro e w1 ⟨rfl, hb1⟩; have HB1 := Lib.hid hb1; obtain ⟨⟨d1, d2, d3, d4⟩, f1, f2, f3, f4⟩ := HS.out _ hb1; clear hb1))
            | (go_at_call 53; ((with_reducible refine (K2'.out _).mono ?_); rintro e w2 ⟨rfl, hb2⟩; have HB2 := Lib.hid (HB1.out.trans (hb2.mono HB1.out.size)); obtain ⟨⟨d1, d2, d3, d4⟩, f1, f2, f3, f4⟩ := HS.out _ HB2.out; clear hb2)))
          go_ret
          exact ⟨by rw [HR.out]; rfl, HB.out.trans (HB2.out.mono HB.out.size)⟩
      · rw [he] at e1 e2 hR
        rcases hl with hl | hl
        all_goals
          rw [hl] at hR
          have HR := Lib.hid hR
          clear hR hle
          go_enter Try.func23, Try.ntmps23
          go_wp2_with (first
            | (go_at_call 52; ((with_reducible refine K1.out.mono ?_); rintro e w1 ⟨rfl, hb1⟩; have HB1 := Lib.hid hb1; obtain ⟨⟨d1, d2, d3, d4⟩, f1, f2, f3, f4⟩ := HS.out _ hb1; clear hb1))
            | (go_at_call 53; ((with_reducible refine (K2'.out _).mono ?_); rintro e w2 ⟨rfl, hb2⟩; have HB2 := Lib.hid (HB1.out.trans (hb2.mono HB1.out.size)); obtain ⟨⟨d1, d2, d3, d4⟩, f1, f2, f3, f4⟩ := HS.out _ HB2.out; clear hb2)))
          go_ret
          exact ⟨by rw [HR.out]; rfl, HB.out.trans (HB2.out.mono HB.out.size)⟩
    · subst hp
      have hqb : (q != 0) = true := bne_iff_ne.2 hq
      have HR : Hid (R = q) := Lib.hid (by rw [hR]; show (if (0 : Int) ≠ 0 then _ else if q ≠ 0 then q else _) = q; rw [if_neg (by decide), if_pos hq])
      clear hR hle
      go_enter Try.func23, Try.ntmps23
      go_wp2_with (first
        | (go_at_call 52; ((with_reducible refine K1.out.mono ?_); rintro e w1 ⟨rfl, hb1⟩; have HB1 := Lib.hid hb1; obtain ⟨⟨d1, d2, d3, d4⟩, f1, f2, f3, f4⟩ := HS.out _ hb1; clear hb1))
        | (go_at_call 53; ((with_reducible refine (K2'.out _).mono ?_); rintro e w2 ⟨rfl, hb2⟩; have HB2 := Lib.hid (HB1.out.trans (hb2.mono HB1.out.size)); clear hb2)))
      go_ret
      exact ⟨by rw [HR.out]; rfl, HB.out.trans (HB2.out.mono HB.out.size)⟩
  · have hpb : (p != 0) = true := bne_iff_ne.2 hp
    have HR : Hid (R = p) := Lib.hid (by rw [hR]; show (if p ≠ 0 then p else _) = p; rw [if_pos hp])
    clear hR hle
    go_enter Try.func23, Try.ntmps23
    go_wp2_with (go_at_call 52; ((with_reducible refine K1.out.mono ?_); rintro e w1 ⟨rfl, hb1⟩; have HB1 := Lib.hid hb1; clear hb1))
    go_ret
    exact ⟨by rw [HR.out]; rfl, HB.out.trans (HB1.out.mono HB.out.size)⟩
end Go.Proofs.Ytcfgffkjbkpfhaa.Tie
