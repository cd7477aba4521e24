/- hash.Tuple. -/
import Derived.Test.YtmpdcdfnbkfabaaPorts2
import Derived.Test.YtmpdcdfnbkfabaaConcat
import Derived.Test.YtmpdcdfnbkfabaaHash
namespace Go.Proofs.Ytmpdcdfnbkfabaa.Tuple
open Go.RowKit Go.Proofs.Ytmpdcdfnbkfabaa.Mem Go.Proofs.Ytmpdcdfnbkfabaa.Num Go.Proofs.Ytmpdcdfnbkfabaa.Clone Go.Proofs.Ytmpdcdfnbkfabaa.Addr Go.Proofs.Ytmpdcdfnbkfabaa.Concat
set_option linter.unusedVariables false
set_option linter.unusedSimpArgs false
set_option maxRecDepth 100000
attribute [-go_sem] Builtin.append_ loadCells loadCellsFrom
structure Pt where
  six : Bool
  b : List UInt8
  n : Int
  hb : b.length = 16
def Pt.v (p : Pt) : Value := ptV p.six p.b p.n
def Pt.l (p : Pt) : List UInt8 := pointL p.six p.b p.n
theorem Pt.l_len (p : Pt) : p.l.length ≤ 19 := by
  have := putL_len p.six p.b
  unfold Pt.l pointL portL
  simp; omega
theorem put_pt (p : Pt) (w : World) : Calls Try.prog 23 #[p.v] w fun e w' => (∃ v, e = .returned v ∧ Own eU8 5 w.heap.size w' v p.l) ∧ Below w.heap.size w w' := ports_calls p.six p.b p.n p.hb w
theorem refput_pt (p : Pt) (w : World) : Calls Try.prog 24 #[p.v] w fun e w' => (∃ v, e = .returned v ∧ Own eU8 5 w.heap.size w' v p.l) ∧ Below w.heap.size w w' := refports_calls p.six p.b p.n p.hb w
def tupleL (proto : Int) (p q : Pt) : List UInt8 := Addr.byteOf proto :: (p.l ++ q.l)
theorem rows3 (W : World) (g : Nat) (hg : W.heap.size = g) (x y z : Sl) (a b c : List UInt8) (t : TypeId) (ha : Row eU8 W x.v a) (hb : Row eU8 W y.v b) (hc : Row eU8 W z.v c) :
    Concat.Rows (W.alloc (.cells #[x.v, y.v, z.v] t)) (.slice (some ⟨g, 0, none⟩) 3 3) [a, b, c] := by
  subst hg
  refine ⟨[x, y, z], (Own.lit W 0 eSl t [x, y, z] 3 rfl #[x.v, y.v, z.v] rfl (Nat.zero_le _) (by simp)).row, rfl, fun k h h' => ?_⟩
  match k, h with
  | 0, _ => exact ha.alloc _
  | 1, _ => exact hb.alloc _
  | 2, _ => exact hc.alloc _
set_option maxHeartbeats 4000000 in
theorem tuple_calls (proto : Int) (p q : Pt) (w : World) : Calls Try.prog 7 #[.int .i64 proto, p.v, q.v] w fun e w' => (∃ v, e = .returned v ∧ Own eU8 5 w.heap.size w' v (tupleL proto p q)) ∧ Below w.heap.size w w' := by
  have hp := fun W => put_pt p W
  have hq := fun W => put_pt q W
  have h1 := p.l_len
  have h2 := q.l_len
  have e1 := wrap8 proto
  have ht : tupleL proto p q = [[Addr.byteOf proto], p.l, q.l].flatten := by simp [tupleL]
  have hlp : (w.alloc (.cells (ptA p.six p.b p.n) 26)).heap.size = w.heap.size + 1 := by simp
  have HPl : ∀ w1, Below ((w.alloc (.cells (ptA p.six p.b p.n) 26)).alloc (.cells (ptA q.six q.b q.n) 26)).heap.size ((w.alloc (.cells (ptA p.six p.b p.n) 26)).alloc (.cells (ptA q.six q.b q.n) 26)) w1 → (loadCells ⟨w.heap.size, 0, none⟩ 18).run Try.prog w1 = .ok (ptA p.six p.b p.n) w1 ∧ (loadCells ⟨w.heap.size + 1, 0, none⟩ 18).run Try.prog w1 = .ok (ptA q.six q.b q.n) w1 := by
    intro w1 hB
    refine ⟨(pt_loads p.six p.b p.n p.hb w w1 26 (below_allocd hB)).2.1, ?_⟩
    have := (pt_loads q.six q.b q.n q.hb _ w1 26 hB).2.1
    rwa [hlp] at this
  simp only [Pt.v, ptV] at hp hq ⊢
  rw [ht]
  generalize p.l = pl at hp h1 ⊢
  generalize q.l = ql at hq h2 ⊢
  generalize ptA p.six p.b p.n = pa at hp HPl hlp ⊢
  generalize ptA q.six q.b q.n = qa at hq HPl ⊢
  generalize Addr.byteOf proto = pb at e1 ⊢
  have HFL := Lib.hid (show 0 < [[pb], pl, ql].flatten.length ∧ [[pb], pl, ql].flatten.length ≤ 1000000 by simp; omega)
  have HP := Lib.hid hp
  have HQ := Lib.hid hq
  have HLD := Lib.hid HPl
  clear hp hq HPl ht
  obtain ⟨d0, d1⟩ := HLD.out _ (Below.refl _ _).drew
  obtain ⟨x0, x1⟩ := HLD.out _ (((Below.refl _ _).alloc (Nat.le_refl _) (.cells #[.int .u8 (pb.toNat : Int)] 5)).drew)
  go_enter Try.func7, Try.ntmps7
  go_wp2
  go_region_law (first
    | (go_simp; go_at_call 22; ((with_reducible refine (concat_calls _ _ _ (rows3 w2 w2.heap.size rfl (some ⟨_, 0, none⟩, 1, 1) (A1, pl.length, c1) (A2, ql.length, c2) [pb] pl ql 29 HL2.out HS1.out HR2.out) HFL.out.1 HFL.out.2).mono ?_); rintro e w3 ⟨⟨v3, rfl, hO3⟩, hB3⟩; have HB3 := Lib.hid (HB2.out.trans ((below_allocd hB3).mono HB2.out.size)); have HO3 := Lib.hid (hO3.lower (Nat.le_trans HB2.out.size (by simp))); clear hO3 hB3))
    | (go_simp; go_at_call 22; ((with_reducible refine (concat_calls _ _ _ (rows3 (w2.alloc (.cells #[.int .u8 (pb.toNat : Int)] 5)) (w2.heap.size + 1) (by simp) (some ⟨w2.heap.size, 0, none⟩, 1, 1) (A1, pl.length, c1) (A2, ql.length, c2) [pb] pl ql 29 (Own.lit w2 0 eU8 5 [pb] 1 rfl #[.int .u8 (pb.toNat : Int)] rfl (Nat.zero_le _) (by simp)).row (HS1.out.alloc _) (HR2.out.alloc _)) HFL.out.1 HFL.out.2).mono ?_); rintro e w3 ⟨⟨v3, rfl, hO3⟩, hB3⟩; have HB3 := Lib.hid (HB2.out.trans ((below_allocd (below_allocd hB3)).mono HB2.out.size)); have HO3 := Lib.hid (hO3.lower (Nat.le_trans HB2.out.size (by simp; omega))); clear hO3 hB3))
    | (go_simp; go_at_call 23; ((with_reducible refine (HQ.out _).mono ?_); rintro e w2 ⟨⟨v2, rfl, hO2⟩, hB2⟩; have HB2 := Lib.hid (HB1.out.trans (hB2.mono HB1.out.size)); obtain ⟨A2, c2, rfl, _, _, hr2⟩ := hO2.row.parts; have HR2 := Lib.hid hr2; have HS1 := Lib.hid (HR1.out.below hB2); have HL2 := Lib.hid (HLit.out.below hB2); clear hO2 hr2 hB2))
    | (go_simp; go_at_call 23; ((with_reducible refine (HQ.out _).mono ?_); rintro e w2 ⟨⟨v2, rfl, hO2⟩, hB2⟩; have HB2 := Lib.hid (HB1.out.trans (hB2.mono HB1.out.size)); obtain ⟨A2, c2, rfl, _, _, hr2⟩ := hO2.row.parts; have HR2 := Lib.hid hr2; have HS1 := Lib.hid (HR1.out.below hB2); clear hO2 hr2 hB2))
    | (go_simp; go_at_call 23; ((with_reducible refine (HQ.out _).mono ?_); rintro e w2 ⟨⟨v2, rfl, hO2⟩, hB2⟩; have HB2 := Lib.hid (HB1.out.trans ((below_allocd hB2).mono HB1.out.size)); obtain ⟨A2, c2, rfl, _, _, hr2⟩ := hO2.row.parts; have HR2 := Lib.hid hr2; have HS1 := Lib.hid ((HR1.out.alloc _).below hB2); have HL2 := Lib.hid ((Own.lit w1 0 eU8 5 [pb] 1 rfl #[.int .u8 (pb.toNat : Int)] rfl (Nat.zero_le _) (by simp)).row.below hB2); clear hO2 hr2 hB2))
    | (go_simp; go_at_call 23; ((with_reducible refine (HP.out _).mono ?_); rintro e w1 ⟨⟨v1, rfl, hO1⟩, hB1⟩; have hBW1 := below_dr hB1; obtain ⟨m0, m1⟩ := HLD.out _ hBW1; obtain ⟨n0, n1⟩ := HLD.out _ (hBW1.alloc hBW1.size (.cells #[.int .u8 (pb.toNat : Int)] 5)); obtain ⟨A1, c1, rfl, _, _, hr1⟩ := hO1.row.parts; have HR1 := Lib.hid hr1; have HB1 := Lib.hid hBW1; clear hO1 hr1 hB1 hBW1))
    | (go_simp; go_at_call 23; ((with_reducible refine (HP.out _).mono ?_); rintro e w1 ⟨⟨v1, rfl, hO1⟩, hB1⟩; have hBW1 := below_lit hB1; obtain ⟨m0, m1⟩ := HLD.out _ hBW1; obtain ⟨n0, n1⟩ := HLD.out _ (hBW1.alloc hBW1.size (.cells #[.int .u8 (pb.toNat : Int)] 5)); obtain ⟨A1, c1, rfl, _, _, hr1⟩ := hO1.row.parts; have HR1 := Lib.hid hr1; have HLit := Lib.hid ((show ((w.alloc (.cells pa 26)).alloc (.cells qa 26)).heap.size = w.heap.size + 1 + 1 by simp) ▸ ((Own.lit ((w.alloc (.cells pa 26)).alloc (.cells qa 26)) 0 eU8 5 [pb] 1 rfl #[.int .u8 (pb.toNat : Int)] rfl (Nat.zero_le _) (by simp)).row.drewN 1).below hB1); have HB1 := Lib.hid hBW1; clear hO1 hr1 hB1 hBW1)))
  all_goals go_wp2
  all_goals go_ret
  all_goals exact ⟨⟨_, rfl, HO3.out.lower (by simp; omega)⟩, below_allocd (below_allocd HB3.out)⟩
end Go.Proofs.Ytmpdcdfnbkfabaa.Tuple
