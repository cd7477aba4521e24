/- The law HashTuples. -/
import Derived.Test.YtmpdcdfnbkfabaaTuple
namespace Go.Proofs.Ytmpdcdfnbkfabaa.Tuple
open Go.RowKit Go.Proofs.Ytmpdcdfnbkfabaa.Mem Go.Proofs.Ytmpdcdfnbkfabaa.Num Go.Proofs.Ytmpdcdfnbkfabaa.Clone Go.Proofs.Ytmpdcdfnbkfabaa.Addr Go.Proofs.Ytmpdcdfnbkfabaa.Concat
set_option linter.unusedVariables false
set_option linter.unusedSimpArgs false
set_option maxRecDepth 100000
attribute [-go_sem] Builtin.append_ loadCells loadCellsFrom
set_option maxHeartbeats 4000000 in
theorem reftuple_calls (proto : Int) (p q : Pt) (w : World) : Calls Try.prog 8 #[.int .i64 proto, p.v, q.v] w fun e w' => (∃ v, e = .returned v ∧ Own eU8 5 w.heap.size w' v (tupleL proto p q)) ∧ Below w.heap.size w w' := by
  have hp := fun W => refput_pt p W
  have hq := fun W => refput_pt q W
  have h1 := p.l_len
  have h2 := q.l_len
  have e0 : (IntKind.u64.wrap proto).tmod 256 = proto % 256 := by rw [Int.tmod_eq_emod_of_nonneg (by rw [IntKind.wrap_u64]; omega), IntKind.wrap_u64]; omega
  have e1 : IntKind.u8.wrap (proto % 256) = ((Addr.byteOf proto).toNat : Int) := by rw [IntKind.wrap_u8, Addr.byteOf_int]; omega
  have ht : tupleL proto p q = [Addr.byteOf proto] ++ p.l ++ q.l := by simp [tupleL]
  have hlp : (w.alloc (.cells (ptA p.six p.b p.n) 26)).heap.size = w.heap.size + 1 := by simp
  have HPl : ∀ w1, Below ((w.alloc (.cells (ptA p.six p.b p.n) 26)).alloc (.cells (ptA q.six q.b q.n) 26)).heap.size ((w.alloc (.cells (ptA p.six p.b p.n) 26)).alloc (.cells (ptA q.six q.b q.n) 26)) w1 → (loadCells ⟨w.heap.size, 0, none⟩ 18).run Try.prog w1 = .ok (ptA p.six p.b p.n) w1 ∧ (loadCells ⟨w.heap.size + 1, 0, none⟩ 18).run Try.prog w1 = .ok (ptA q.six q.b q.n) w1 := by
    intro w1 hB
    refine ⟨(pt_loads p.six p.b p.n p.hb w w1 26 (below_allocd hB)).2.1, ?_⟩
    have := (pt_loads q.six q.b q.n q.hb _ w1 26 hB).2.1
    rwa [hlp] at this
  simp only [Pt.v, ptV] at hp hq ⊢
  rw [ht]
  generalize p.l = pl at hp h1 ⊢
  generalize q.l = ql at hq h2 ⊢
  generalize ptA p.six p.b p.n = pa at hp HPl hlp ⊢
  generalize ptA q.six q.b q.n = qa at hq HPl ⊢
  generalize Addr.byteOf proto = pb at e1 ⊢
  generalize proto % 256 = pm at e0 e1
  have HP := Lib.hid hp
  have HQ := Lib.hid hq
  have HLD := Lib.hid HPl
  clear hp hq HPl ht
  obtain ⟨d0, d1⟩ := HLD.out _ (Below.refl _ _)
  obtain ⟨x0, x1⟩ := HLD.out _ ((Below.refl _ _).alloc (Nat.le_refl _) (.cells #[.int .u8 (pb.toNat : Int)] 5))
  go_enter Try.func8, Try.ntmps8
  go_wp2_with (first
    | (go_at_call 24; ((with_reducible refine (HP.out _).mono ?_); rintro e w1 ⟨⟨v1, rfl, hO1⟩, hB1⟩; have HL1 := Lib.hid ((Own.lit' ((w.alloc (.cells pa 26)).alloc (.cells qa 26)) (w.heap.size + 1 + 1) (by simp) ((w.alloc (.cells pa 26)).alloc (.cells qa 26)).heap.size eU8 5 [pb] 1 rfl #[.int .u8 (pb.toNat : Int)] rfl (Nat.le_refl _) (by simp)).below hB1); have HB1 := Lib.hid (below_allocd hB1); have HR1 := Lib.hid hO1.row; clear hO1 hB1))
    | (at_builtin; (refine wp_append (E := eU8) _ rfl (.tmp 12) (.tmp 14) 29 5 _ 1 rfl Try.underlying29 infoU8 rfl (by decide) _ _ [pb] pl rfl rfl HL1.out HR1.out HB1.out.size (by simp; omega) ?_; intro v2 w2 ho2 hg2 hat2; have HO2 := Lib.hid ho2; have HB2 := Lib.hid (below_app HB1.out HB1.out.size HL1.out hg2); obtain ⟨m0, m1⟩ := HLD.out _ HB2.out; clear ho2 hg2))
    | (go_at_call 24; ((with_reducible refine (HQ.out _).mono ?_); rintro e w3 ⟨⟨v3, rfl, hO3⟩, hB3⟩; have HO3 := Lib.hid (HO2.out.below hB3); have HB3 := Lib.hid (HB2.out.trans (hB3.mono HB2.out.size)); have HR3 := Lib.hid hO3.row; clear hO3 hB3))
    | (at_builtin; (refine wp_append (E := eU8) _ rfl (.tmp 16) (.tmp 18) 29 5 _ 1 rfl Try.underlying29 infoU8 rfl (by decide) _ _ ([pb] ++ pl) ql rfl rfl HO3.out HR3.out HB3.out.size (by simp; omega) ?_; intro v4 w4 ho4 hg4 hat4)))
  go_ret
  exact ⟨⟨_, rfl, ho4.lower (by simp; omega)⟩, below_allocd (below_allocd (below_app HB3.out HB3.out.size HO3.out hg4))⟩
end Go.Proofs.Ytmpdcdfnbkfabaa.Tuple
