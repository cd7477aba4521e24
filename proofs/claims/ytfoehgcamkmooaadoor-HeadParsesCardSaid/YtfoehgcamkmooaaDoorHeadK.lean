/- head.Parse: lemmas ahead of its walk. -/
import Derived.Test.YtfoehgcamkmooaaDoorHeadI
namespace Go.Proofs.YtfoehgcamkmooaaDoor.Head
open Go.RowKit Go.Proofs.YtfoehgcamkmooaaDoor.Mem Go.Proofs.YtfoehgcamkmooaaDoor.Num Go.Proofs.YtfoehgcamkmooaaDoor.Err
open Go.Proofs.YtfoehgcamkmooaaDoor.Addr hiding below_allocd
open Go.Proofs.YtfoehgcamkmooaaDoor.Sums Go.Proofs.YtfoehgcamkmooaaDoor.SumsP Go.Proofs.YtfoehgcamkmooaaDoor.Pseudo
set_option linter.unusedVariables false
set_option linter.unusedSimpArgs false
set_option maxRecDepth 100000
attribute [-go_sem] Builtin.append_ loadCells loadCellsFrom storeCells
theorem setCell_same {b : Nat} {cs : List Value} {t : TypeId} {w : World} (h : Blk b cs t w) (i : Nat) (v : Value) (hv : cs[i]? = some v) : w.setCell ⟨b, i, none⟩ v = w := by
  have key : (w.setCell ⟨b, i, none⟩ v).heap = w.heap := by
    unfold World.setCell
    apply Array.ext_getElem?
    intro k
    simp only [Array.getElem?_modify]
    split
    · rename_i hk
      subst hk
      rw [show w.heap[b]? = _ from h]
      obtain ⟨hi1, hi2⟩ := List.getElem?_eq_some_iff.1 hv
      simp [← hi2]
    · rfl
  have e : w.setCell ⟨b, i, none⟩ v = { w with heap := (w.setCell ⟨b, i, none⟩ v).heap } := rfl
  rw [e, key]
theorem setCells_same {b : Nat} {cs : List Value} {t : TypeId} {w : World} (h : Blk b cs t w) (vs : List Value) (o : Nat) (hv : ∀ j u, vs[j]? = some u → cs[o + j]? = some u) : w.setCells b o vs = w := by
  induction vs generalizing o with
  | nil => rfl
  | cons v vs ih =>
    have e : w.setCells b o (v :: vs) = (w.setCell ⟨b, o, none⟩ v).setCells b (o + 1) vs := rfl
    rw [e, setCell_same h o v (by simpa using hv 0 v rfl)]
    exact ih (o + 1) (fun j u hu => by have := hv (j + 1) u (by simpa using hu); rw [← this]; congr 1; omega)
theorem store_same {P : Program} {b : Nat} {cs : List Value} {t : TypeId} {w : World} (hb : Blk b cs t w) (h1 : ∀ v ∈ cs, v.oneCell' = true) : (storeCells ⟨b, 0, none⟩ cs).run P w = .ok () w := by
  have hs := run_storeCells_cells (P := P) b 0 cs 0 w (fun j hj => by simpa using ((hb.there 0 cs.length (by omega)) j hj).1) (fun j hj => by simpa using ((hb.there 0 cs.length (by omega)) j hj).2) h1
  rw [Nat.add_zero, setCells_same hb cs 0 (fun j u hu => by simpa using hu)] at hs
  exact hs

theorem midH_pt (l : List UInt8) (h : midR l = 0) : ∃ p : Nat, (midH l).pt = (p : Int) ∧ p ≤ l.length ∧ p ≤ 60 := by
  unfold midR at h
  unfold midH
  by_cases e : verN l = 4
  · rw [if_pos e] at h ⊢
    refine ⟨ptN l, rfl, ?_, by unfold ptN; omega⟩
    unfold fourR at h
    split at h
    · omega
    · split at h
      · omega
      · rename_i q1 q2
        by_cases hh : l.length < ptN l
        · exact absurd (.inr (.inl hh)) q2
        · omega
  · rw [if_neg e] at h ⊢
    refine ⟨40, rfl, ?_, by omega⟩
    unfold sixR at h
    split at h
    · omega
    · omega
theorem own_sp (h : Hd) (p : List UInt8) : (ownH (ptsH h p) p).sp = (twoN p 0 : Int) ∧ (ownH (ptsH h p) p).dp = (twoN p 2 : Int) := by
  unfold ownH
  split <;> exact ⟨rfl, rfl⟩

theorem mid_calls (w w1 : World) (ad : Addr) (c : Nat) (l : List UInt8) (es : List Addr) (hz0 : w1.heap.size = w.heap.size + 1) (hk : Blk w.heap.size hd0.cells 31 w1) (hb : Below w.heap.size w w1) (he : Errs w es) (hr : Row eU8 w (.slice (some ad) l.length c) l) (hl : l.length ≤ 600) (o : Obj) (ho : o = .cells hd0.cells.toArray 31) (f : Nat) (hf : (verN l = 4 ∧ f = 26) ∨ (¬ verN l = 4 ∧ f = 27)) :
    Calls Tryd.prog f #[.pointer (some ⟨w.heap.size + 1, 0, none⟩), .slice (some ad) l.length c] (w1.alloc o) fun e w' => ∃ u, e = .returned u ∧ ErrIs es (midR l) u ∧ (midR l = 0 → HBlk (w.heap.size + 1) (midH l) 31 w') ∧ Below w.heap.size w w' ∧ Blk w.heap.size hd0.cells 31 w' := by
  subst ho
  have hB2 : Blk (w.heap.size + 1) hd0.cells 31 (w1.alloc (.cells hd0.cells.toArray 31)) := Blk.new _ _ _ _ _ rfl hz0
  have hsz : w.heap.size ≤ (w1.alloc (.cells hd0.cells.toArray 31)).heap.size := size_alloc_le hb _
  have hb1 := hb.alloc hb.size (.cells hd0.cells.toArray 31)
  have hk1 := hk.alloc (.cells hd0.cells.toArray 31)
  generalize w1.alloc (.cells hd0.cells.toArray 31) = w2 at hB2 hsz hb1 hk1 ⊢
  have hS : ∀ W, Alt (fun k => k = w.heap.size + 1) w2 W → Below w.heap.size w W ∧ Blk w.heap.size hd0.cells 31 W := fun W hW => ⟨below_alt hb1 hW hsz (fun k hk => by omega), hk1.alt hW (by omega)⟩
  rcases hf with ⟨e4, rfl⟩ | ⟨e4, rfl⟩
  · unfold midR midH
    rw [if_pos e4, if_pos e4]
    refine (fourth_calls _ hd0 31 _ l _ es (fun W hW => ⟨hr.below (hS _ hW).1, he.below (hS _ hW).1⟩) hB2 (by omega)).mono ?_
    rintro e w' ⟨u, rfl, hu, hk, ha⟩
    exact ⟨u, rfl, hu, hk, (hS _ ha).1, (hS _ ha).2⟩
  · unfold midR midH
    rw [if_neg e4, if_neg e4]
    refine (sixth_calls _ hd0 31 _ l _ es (fun W hW => ⟨hr.below (hS _ hW).1, he.below (hS _ hW).1⟩) hB2 (by omega)).mono ?_
    rintro e w' ⟨u, rfl, hu, hk, ha⟩
    exact ⟨u, rfl, hu, hk, (hS _ ha).1, (hS _ ha).2⟩

theorem parseR_mid (l : List UInt8) (h0 : ¬ l.length = 0) (h1 : ¬ (verN l ≠ 4 ∧ verN l ≠ 6)) (h2 : ¬ 300 < l.length) : parseR l = if midR l ≠ 0 then midR l else if (midH l).pr ≠ 6 ∧ (midH l).pr ≠ 17 then 17 else partR (midH l) (l.drop (midH l).pt.toNat) := by
  have e : ∀ a : Nat, (if l.length = 0 then 2 else if verN l ≠ 4 ∧ verN l ≠ 6 then 4 else if 300 < l.length then 3 else a) = a := fun a => by rw [if_neg h0, if_neg h1, if_neg h2]
  exact e _
theorem parseH_eq (l : List UInt8) : parseH l = ownH (ptsH (midH l) (l.drop (midH l).pt.toNat)) (l.drop (midH l).pt.toNat) := by unfold parseH; rfl

theorem ports_store (b : Nat) (h : Hd) (t : TypeId) (q : List UInt8) (W : World) (hW : HBlk b h t W) : ∃ w6 w7, (storeCells ⟨b, 18, none⟩ [.int .i64 (twoN q 0 : Int)]).run Tryd.prog W = .ok () w6 ∧ (storeCells ⟨b, 36, none⟩ [.int .i64 (twoN q 2 : Int)]).run Tryd.prog w6 = .ok () w7 ∧ HBlk b (ptsH h q) t w7 ∧ Alt (fun k => k = b) W w7 := by
  obtain ⟨w1, s1, k1, a1⟩ := store_at (P := Tryd.prog) (off := 18) (vs := [.int .i64 (twoN q 0 : Int)]) hW (by rw [Hd.len]; simp) (by intro u hu; rw [List.mem_singleton.1 hu]; rfl)
  rw [splice_one _ _ _ (by rw [Hd.len]; decide), (Hd.sets _ _).2.1] at k1
  obtain ⟨w2, s2, k2, a2⟩ := store_at (P := Tryd.prog) (off := 36) (vs := [.int .i64 (twoN q 2 : Int)]) k1 (by rw [Hd.len]; simp) (by intro u hu; rw [List.mem_singleton.1 hu]; rfl)
  rw [splice_one _ _ _ (by rw [Hd.len]; decide), (Hd.sets _ _).2.2.1] at k2
  exact ⟨w1, w2, s1, s2, k2, a1.trans a2⟩
theorem partR_long (h : Hd) (q : List UInt8) (n m : Nat) (h6 : (if h.pr = 6 then 20 else 8) = m) (hl : q.length = n) (hn : ¬ n < m) : partR h q = if ownR h q ≠ 0 then ownR h q else if twoN q 0 = 0 ∨ twoN q 2 = 0 then 4 else if sumB (ownH (ptsH h q) q) q then 0 else 5 := by
  unfold partR
  rw [h6, hl, if_neg hn]

theorem give_out (b0 b : Nat) (g : Hd) (t : TypeId) (W : World) (h0 : Blk b0 hd0.cells t W) (hg : HBlk b g t W) :
    (loadCells ⟨b, 0, none⟩ 40).run Tryd.prog W = .ok (hdA g) W ∧ ∃ w11, (storeCells ⟨b0, 0, none⟩ g.cells).run Tryd.prog W = .ok () w11 ∧ (loadCells ⟨b0, 0, none⟩ 40).run Tryd.prog w11 = .ok (hdA g) w11 ∧ Alt (fun k => k = b0) W w11 := by
  have hd : (g.cells.drop 0).take 40 = g.cells := by rw [List.drop_zero, List.take_of_length_le (by rw [Hd.len]; decide)]
  refine ⟨Blk.load hg 0 40 g.cells hd (Hd.len g), ?_⟩
  obtain ⟨w1, s1, k1, a1⟩ := store_at (P := Tryd.prog) (off := 0) (vs := g.cells) h0 (by rw [Hd.len, Hd.len]; decide) g.one
  rw [splice_all _ _ (by rw [Hd.len, Hd.len])] at k1
  exact ⟨w1, s1, Blk.load k1 0 40 g.cells hd (Hd.len g), a1⟩
end Go.Proofs.YtfoehgcamkmooaaDoor.Head
