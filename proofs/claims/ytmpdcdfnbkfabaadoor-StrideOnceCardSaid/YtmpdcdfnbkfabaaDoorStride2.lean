/- Package stride: going through the places. -/
import Derived.Test.YtmpdcdfnbkfabaaDoorStride
namespace Go.Proofs.YtmpdcdfnbkfabaaDoor.Stride
open Go.RowKit Go.Proofs.YtmpdcdfnbkfabaaDoor.Mem Go.Proofs.YtmpdcdfnbkfabaaDoor.Num Go.Proofs.YtmpdcdfnbkfabaaDoor.Prime Go.Proofs.YtmpdcdfnbkfabaaDoor.PrimeP
set_option linter.unusedVariables false
set_option linter.unusedSimpArgs false
def stepZ (z k p : Int) : Int := (p + k) % z
theorem next1_calls (w : World) (ba bs : Nat) (z k p : Int) (hz : 2 ≤ z) (hz' : z ≤ 251) (hk : 1 ≤ k) (hk' : k < z) (hp : 0 ≤ p) (hp' : p < z) (ha : w.cell? ⟨ba, 0, none⟩ = some (.int .i64 p)) (hs : w.cell? ⟨bs, 0, none⟩ = some (.int .i64 z)) (hsk : w.cell? ⟨bs, 2, none⟩ = some (.int .i64 k)) (hf : w.frozen? ⟨ba, 0, none⟩ = false) (hne : ba ≠ bs) :
    Calls Tryd.prog 65 #[.pointer (some ⟨ba, 0, none⟩), .pointer (some ⟨bs, 0, none⟩)] w fun e w' => e = .returned (.int .i64 p) ∧ w' = w.setCell ⟨ba, 0, none⟩ (.int .i64 (stepZ z k p)) := by
  have h0 : (z == 0) = false := beq_eq_false_iff_ne.mpr (by omega)
  have e7 : (p + k).tmod z = (p + k) % z := Int.tmod_eq_emod_of_nonneg (by omega)
  unfold stepZ
  go_enter Tryd.func65, Tryd.ntmps65
  go_wp2
  go_ret
  exact ⟨rfl, rfl⟩
theorem next_calls (w : World) (c ba bs : Nat) (z o k d p : Int) (hz : 2 ≤ z) (hz' : z ≤ 251) (hk : 1 ≤ k) (hk' : k < z) (hp : 0 ≤ p) (hp' : p < z) (hd : 0 ≤ d) (hd' : d ≤ 1000000) (hc : Cur w c ba bs z o k d p) :
    Calls Tryd.prog 38 #[.pointer (some ⟨c, 0, none⟩)] w fun e w' => e = .returned (.int .i64 p) ∧ w' = (w.setCell ⟨c, 3, none⟩ (.int .i64 (d + 1))).setCell ⟨ba, 0, none⟩ (.int .i64 (stepZ z k p)) := by
  have hd0 := hc.d0
  have hf0 := hc.f0
  have hnf := hc.nf
  have k1 := next1_calls (w.setCell ⟨c, 3, none⟩ (.int .i64 (d + 1))) ba bs z k p hz hz' hk hk' hp hp'
    ((World.cell?_setCell_other _ _ _ _ (fun h => hc.ne1 (congrArg Addr.block h))).trans hc.a0) ((World.cell?_setCell_other _ _ _ _ (fun h => hc.ne2 (congrArg Addr.block h))).trans hc.sz) ((World.cell?_setCell_other _ _ _ _ (fun h => hc.ne2 (congrArg Addr.block h))).trans hc.sk) ((World.frozen?_setCell _ _ _ _).trans hc.na) hc.ne3
  clear hc
  go_enter Tryd.func38, Tryd.ntmps38
  go_wp2_with (go_at_call 65; ((with_reducible refine k1.mono ?_); rintro e w' ⟨rfl, rfl⟩))
  go_ret
  exact ⟨rfl, rfl⟩
theorem Cur.next {w : World} {c ba bs : Nat} {z o k d p : Int} (h : Cur w c ba bs z o k d p) (v : Int) (q : Int) : Cur ((w.setCell ⟨c, 3, none⟩ (.int .i64 v)).setCell ⟨ba, 0, none⟩ (.int .i64 q)) c ba bs z o k v q := by
  have n1 := h.ne1
  have n2 := h.ne2
  have n3 := h.ne3
  have oth : ∀ i, i ≠ 3 → ((w.setCell ⟨c, 3, none⟩ (.int .i64 v)).setCell ⟨ba, 0, none⟩ (.int .i64 q)).cell? ⟨c, i, none⟩ = w.cell? ⟨c, i, none⟩ := fun i hi =>
    (World.cell?_setCell_other _ _ _ _ (fun e => n1 (congrArg Addr.block e).symm)).trans (World.cell?_setCell_other _ _ _ _ (fun e => hi (congrArg Addr.off e).symm))
  have ots : ∀ i, ((w.setCell ⟨c, 3, none⟩ (.int .i64 v)).setCell ⟨ba, 0, none⟩ (.int .i64 q)).cell? ⟨bs, i, none⟩ = w.cell? ⟨bs, i, none⟩ := fun i =>
    (World.cell?_setCell_other _ _ _ _ (fun e => n3 (congrArg Addr.block e))).trans (World.cell?_setCell_other _ _ _ _ (fun e => n2 (congrArg Addr.block e)))
  have hd3 : ((w.setCell ⟨c, 3, none⟩ (.int .i64 v)).setCell ⟨ba, 0, none⟩ (.int .i64 q)).cell? ⟨c, 3, none⟩ = some (.int .i64 v) :=
    (World.cell?_setCell_other _ _ _ _ (fun e => n1 (congrArg Addr.block e).symm)).trans (World.cell?_setCell_same' _ _ _ (by rw [h.d0]; rfl))
  have ha : ((w.setCell ⟨c, 3, none⟩ (.int .i64 v)).setCell ⟨ba, 0, none⟩ (.int .i64 q)).cell? ⟨ba, 0, none⟩ = some (.int .i64 q) :=
    World.cell?_setCell_same' _ _ _ (by rw [World.cell?_setCell_other _ _ _ _ (fun e => n1 (congrArg Addr.block e)), h.a0]; rfl)
  exact ⟨(oth 0 (by omega)).trans h.z0, (oth 1 (by omega)).trans h.o0, (oth 2 (by omega)).trans h.k0, hd3, (oth 4 (by omega)).trans h.f0, ha, (ots 0).trans h.sz, (ots 2).trans h.sk, ((World.frozen?_setCell _ _ _ _).trans (World.frozen?_setCell _ _ _ _)).trans h.nf, ((World.frozen?_setCell _ _ _ _).trans (World.frozen?_setCell _ _ _ _)).trans h.na, n1, n2, n3⟩
theorem Cur.below {w w1 : World} {c ba bs : Nat} {z o k d p : Int} (h : Cur w c ba bs z o k d p) (hb : Below w.heap.size w w1) : Cur w1 c ba bs z o k d p :=
  ⟨cell_below hb h.z0, cell_below hb h.o0, cell_below hb h.k0, cell_below hb h.d0, cell_below hb h.f0, cell_below hb h.a0, cell_below hb h.sz, cell_below hb h.sk, (frozen_below hb h.d0).trans h.nf, (frozen_below hb h.a0).trans h.na, h.ne1, h.ne2, h.ne3⟩
theorem Cur.kept {B : Nat} {w w1 : World} {c ba bs : Nat} {z o k d p : Int} (h : Cur w c ba bs z o k d p) (hb : Below B w w1) (h1 : c < B) (h2 : ba < B) (h3 : bs < B) : Cur w1 c ba bs z o k d p := by
  have hcc : ∀ i, w1.cell? ⟨c, i, none⟩ = w.cell? ⟨c, i, none⟩ := fun i => hb.cell (p := ⟨c, i, none⟩) h1
  have hfr : ∀ g, g < B → w1.frozen? ⟨g, 0, none⟩ = w.frozen? ⟨g, 0, none⟩ ∧ w1.frozen? ⟨g, 3, none⟩ = w.frozen? ⟨g, 3, none⟩ := fun g hg => by
    unfold World.frozen?; rw [hb.block _ hg]; exact ⟨rfl, rfl⟩
  exact ⟨(hcc _).trans h.z0, (hcc _).trans h.o0, (hcc _).trans h.k0, (hcc _).trans h.d0, (hcc _).trans h.f0, (hb.cell (p := ⟨ba, 0, none⟩) h2).trans h.a0, (hb.cell (p := ⟨bs, 0, none⟩) h3).trans h.sz, (hb.cell (p := ⟨bs, 2, none⟩) h3).trans h.sk, (hfr c h1).2.trans h.nf, (hfr ba h2).1.trans h.na, h.ne1, h.ne2, h.ne3⟩
/-- The places, one by one. -/
def walkZ (z k : Int) : Nat → Int → List Int
  | 0, _ => []
  | n + 1, p => p :: walkZ z k n (stepZ z k p)
def stepN (z k : Int) : Nat → Int → Int
  | 0, p => p
  | n + 1, p => stepN z k n (stepZ z k p)
theorem stepN_succ (z k : Int) (n : Nat) (p : Int) : stepN z k (n + 1) p = stepZ z k (stepN z k n p) := by
  induction n generalizing p with
  | zero => rfl
  | succ n ih => rw [stepN, ih]; rfl
theorem walkZ_succ (z k : Int) (n : Nat) (p : Int) : walkZ z k (n + 1) p = walkZ z k n p ++ [stepN z k n p] := by
  induction n generalizing p with
  | zero => rfl
  | succ n ih => rw [walkZ, ih]; rfl
theorem walkZ_length (z k : Int) (n : Nat) (p : Int) : (walkZ z k n p).length = n := by
  induction n generalizing p with
  | zero => rfl
  | succ n ih => simp [walkZ, ih]
theorem stepZ_range {z k p : Int} (hz : 2 ≤ z) : 0 ≤ stepZ z k p ∧ stepZ z k p < z := ⟨Int.emod_nonneg _ (by omega), Int.emod_lt_of_pos _ (by omega)⟩
theorem stepN_range {z k p : Int} (hz : 2 ≤ z) (hp : 0 ≤ p) (hp' : p < z) (n : Nat) : 0 ≤ stepN z k n p ∧ stepN z k n p < z := by
  cases n with
  | zero => exact ⟨hp, hp'⟩
  | succ n => rw [stepN_succ]; exact stepZ_range hz
theorem infoInt : (Tryd.prog.info? 3).map (fun i => (i.zero, i.size, i.bytes)) = some (some (.int .i64 0), 1, 8) := by kernel_rfl
theorem all_int (xs : List Int) : eInt.all xs = xs.map (fun x => .int .i64 x) := all_one1 _ _ _
theorem all_no (z o k : Int) (w : World) (h : rightB z o k = false) : Calls Tryd.prog 37 #[sv z o k] w fun e w' => e = .returned (.slice none 0 0) ∧ Below w.heap.size w w' := by
  have hrc := fun W => h ▸ right_calls z o k W
  have HR := Lib.hid hrc
  clear hrc h
  go_enter Tryd.func37, Tryd.ntmps37
  go_wp2_with (go_at_call 34; ((with_reducible refine (HR.out _).mono ?_); rintro e w1 ⟨rfl, hB⟩; have HB := Lib.hid (below_next ((Below.refl _ w).alloc (Nat.le_refl _) (.cells #[.int .i64 z, .int .i64 o, .int .i64 k] 55)) hB); clear hB))
  go_ret
  exact ⟨rfl, HB.out⟩
set_option maxRecDepth 100000 in
theorem all_calls (z o k : Int) (w : World) (h : rightB z o k = true) : Calls Tryd.prog 37 #[sv z o k] w fun e w' => (∃ v, e = .returned v ∧ Mem.Own eInt 3 w.heap.size w' v (walkZ z k z.toNat o)) ∧ Below w.heap.size w w' := by
  obtain ⟨hz, ho0, ho1, hk0, hk1⟩ := right_parts h
  obtain ⟨hz2, hz251, _⟩ := sized_le hz
  have hrc := fun W => h ▸ right_calls z o k W
  have HR := Lib.hid hrc
  have HC := Lib.hid (fun W => cursor_calls z o k W h)
  clear hrc h hz
  go_enter Tryd.func37, Tryd.ntmps37
  go_wp2_with (first
    | (go_at_call 34; ((with_reducible refine (HR.out _).mono ?_); rintro e w1 ⟨rfl, hB⟩; have HB := Lib.hid (below_next ((Below.refl _ w).alloc (Nat.le_refl _) (.cells #[.int .i64 z, .int .i64 o, .int .i64 k] 55)) hB); obtain ⟨hc0, hc1, hc2⟩ := box3_below hB; clear hB))
    | (go_at_call 33; ((with_reducible refine (HC.out _).mono ?_); rintro e w2 ⟨⟨c, ba, bs, rfl, hcur, hl1, hl2, hl3⟩, hB2⟩; have HB2 := Lib.hid (below_next HB.out hB2); have hd0 := cell_below hB2 hc0; have HCur := Lib.hid hcur; clear hB2 hcur)))
  have hl0 : c < w2.heap.size := World.block_lt_of_cell? w2 _ HCur.out.d0
  have hl5 : bs < w2.heap.size := World.block_lt_of_cell? w2 _ HCur.out.sz
  have hl4 : ba < w2.heap.size := World.block_lt_of_cell? w2 _ HCur.out.a0
  go_loopw [3, 12] (fun ov iv W => ∃ n : Nat, n ≤ z.toNat ∧ iv = .int .i64 (n : Int) ∧ Hid (Mem.Own eInt 3 w2.heap.size W ov (walkZ z k n o)) ∧ Hid (Cur W c ba bs z o k (n : Int) (stepN z k n o)) ∧ Hid (Below w.heap.size w W) ∧ w2.heap.size ≤ W.heap.size) (fun _ iv _ => z.toNat - (intOf iv).toNat)
  case atStart => exact ⟨0, by omega, rfl, Lib.hid (Mem.Own.nil _ _ _ _), HCur, HB2, Nat.le_refl _⟩
  case round =>
    obtain ⟨n, hn, rfl, HO, HCu, HBw, hsz⟩ := hrel
    by_cases hlt : n < z.toNat
    · have hrng := stepN_range (k := k) hz2 ho0 ho1 n
      have hnx := next_calls wr c ba bs z o k n _ hz2 hz251 hk0 hk1 hrng.1 hrng.2 (by omega) (by omega) HCu.out
      have HN := Lib.hid hnx
      clear hnx
      have hO2 : Mem.Own eInt 3 w2.heap.size ((wr.setCell ⟨c, 3, none⟩ (.int .i64 ((n : Int) + 1))).setCell ⟨ba, 0, none⟩ (.int .i64 (stepZ z k (stepN z k n o)))) _ (walkZ z k n o) := ownsRow_setCell_below (a := ⟨ba, 0, none⟩) (ownsRow_setCell_below (a := ⟨c, 3, none⟩) HO.out hl0 _) hl4 _
      have hC2 := HCu.out.next ((n : Int) + 1) (stepZ z k (stepN z k n o))
      have hB2' : Below w.heap.size w ((wr.setCell ⟨c, 3, none⟩ (.int .i64 ((n : Int) + 1))).setCell ⟨ba, 0, none⟩ (.int .i64 (stepZ z k (stepN z k n o)))) := (HBw.out.setCell (p := ⟨c, 3, none⟩) (Nat.le_trans HB.out.size hl1) _).setCell (p := ⟨ba, 0, none⟩) (Nat.le_trans HB.out.size hl2) _
      have hs2 : w2.heap.size ≤ ((wr.setCell ⟨c, 3, none⟩ (.int .i64 ((n : Int) + 1))).setCell ⟨ba, 0, none⟩ (.int .i64 (stepZ z k (stepN z k n o)))).heap.size := by simpa using hsz
      generalize hW : ((wr.setCell ⟨c, 3, none⟩ (.int .i64 ((n : Int) + 1))).setCell ⟨ba, 0, none⟩ (.int .i64 (stepZ z k (stepN z k n o)))) = W2 at hO2 hC2 hB2' hs2 HN
      have HO2 := Lib.hid hO2
      have HC2 := Lib.hid hC2
      have HB2' := Lib.hid hB2'
      clear hO2 hC2 hB2' HO HCu HBw hW
      go_wp2_with (first
        | (go_at_call 38; ((with_reducible refine HN.out.mono ?_); rintro e w3 ⟨rfl, rfl⟩))
        | (at_builtin; refine wp_append (E := eInt) w2.heap.size rfl (.tmp 14) (.tmp 17) 60 3 _ 8 rfl Tryd.underlying60 infoInt rfl (by decide) _ _ (walkZ z k n o) [stepN z k n o] rfl rfl (HO2.out.alloc _) (Own.lit _ 0 eInt 3 [stepN z k n o] 1 rfl _ rfl (Nat.zero_le _) (by simp)).row (by simp; omega) (by rw [walkZ_length]; simp; omega) ?_; intro v1 w4 ho1 hg1 hat1))
      go_roundw
      case rel =>
        have hb4 : Below w2.heap.size w3 w4 := below_app ((Below.refl _ w3).alloc hs2 _) (by simp; omega) (HO2.out.alloc _) hg1
        exact ⟨n + 1, by omega, rfl, Lib.hid (by rw [walkZ_succ]; exact ho1), Lib.hid (by rw [stepN_succ]; exact HC2.out.kept hb4 hl0 hl4 hl5), Lib.hid (HB2'.out.trans (hb4.mono HB2.out.size)), Nat.le_trans hs2 hb4.size⟩
      case measure => simp [intOf]; omega
    · have hnz : n = z.toNat := by omega
      subst hnz
      go_wp2
      go_ret
      exact ⟨⟨_, rfl, HO.out.lower HB2.out.size⟩, HBw.out⟩
end Go.Proofs.YtmpdcdfnbkfabaaDoor.Stride
