/- head.Parse, whole. -/
import Derived.Test.YtfoehgcamkmooaaDoorHeadI
namespace Go.Proofs.YtfoehgcamkmooaaDoor.Head
open Go.RowKit Go.Proofs.YtfoehgcamkmooaaDoor.Mem Go.Proofs.YtfoehgcamkmooaaDoor.Num Go.Proofs.YtfoehgcamkmooaaDoor.Err
open Go.Proofs.YtfoehgcamkmooaaDoor.Addr hiding below_allocd
open Go.Proofs.YtfoehgcamkmooaaDoor.Sums Go.Proofs.YtfoehgcamkmooaaDoor.SumsP Go.Proofs.YtfoehgcamkmooaaDoor.Pseudo
set_option linter.unusedVariables false
set_option linter.unusedSimpArgs false
set_option maxRecDepth 100000
attribute [-go_sem] Builtin.append_ loadCells loadCellsFrom storeCells
theorem setCell_same {b : Nat} {cs : List Value} {t : TypeId} {w : World} (h : Blk b cs t w) (i : Nat) (v : Value) (hv : cs[i]? = some v) : w.setCell ⟨b, i, none⟩ v = w := by
  have key : (w.setCell ⟨b, i, none⟩ v).heap = w.heap := by
    unfold World.setCell
    apply Array.ext_getElem?
    intro k
    simp only [Array.getElem?_modify]
    split
    · rename_i hk
      subst hk
      rw [show w.heap[b]? = _ from h]
      obtain ⟨hi1, hi2⟩ := List.getElem?_eq_some_iff.1 hv
      simp [← hi2]
    · rfl
  have e : w.setCell ⟨b, i, none⟩ v = { w with heap := (w.setCell ⟨b, i, none⟩ v).heap } := rfl
  rw [e, key]
theorem setCells_same {b : Nat} {cs : List Value} {t : TypeId} {w : World} (h : Blk b cs t w) (vs : List Value) (o : Nat) (hv : ∀ j u, vs[j]? = some u → cs[o + j]? = some u) : w.setCells b o vs = w := by
  induction vs generalizing o with
  | nil => rfl
  | cons v vs ih =>
    have e : w.setCells b o (v :: vs) = (w.setCell ⟨b, o, none⟩ v).setCells b (o + 1) vs := rfl
    rw [e, setCell_same h o v (by simpa using hv 0 v rfl)]
    exact ih (o + 1) (fun j u hu => by have := hv (j + 1) u (by simpa using hu); rw [← this]; congr 1; omega)
theorem store_same {P : Program} {b : Nat} {cs : List Value} {t : TypeId} {w : World} (hb : Blk b cs t w) (h1 : ∀ v ∈ cs, v.oneCell' = true) : (storeCells ⟨b, 0, none⟩ cs).run P w = .ok () w := by
  have hs := run_storeCells_cells (P := P) b 0 cs 0 w (fun j hj => by simpa using ((hb.there 0 cs.length (by omega)) j hj).1) (fun j hj => by simpa using ((hb.there 0 cs.length (by omega)) j hj).2) h1
  rw [Nat.add_zero, setCells_same hb cs 0 (fun j u hu => by simpa using hu)] at hs
  exact hs

theorem midH_pt (l : List UInt8) (h : midR l = 0) : ∃ p : Nat, (midH l).pt = (p : Int) ∧ p ≤ l.length ∧ p ≤ 60 := by
  unfold midR at h
  unfold midH
  by_cases e : verN l = 4
  · rw [if_pos e] at h ⊢
    refine ⟨ptN l, rfl, ?_, by unfold ptN; omega⟩
    unfold fourR at h
    split at h
    · omega
    · split at h
      · omega
      · rename_i q1 q2
        by_cases hh : l.length < ptN l
        · exact absurd (.inr (.inl hh)) q2
        · omega
  · rw [if_neg e] at h ⊢
    refine ⟨40, rfl, ?_, by omega⟩
    unfold sixR at h
    split at h
    · omega
    · omega
theorem own_sp (h : Hd) (p : List UInt8) : (ownH (ptsH h p) p).sp = (twoN p 0 : Int) ∧ (ownH (ptsH h p) p).dp = (twoN p 2 : Int) := by
  unfold ownH
  split <;> exact ⟨rfl, rfl⟩

theorem mid_calls (w w1 : World) (ad : Addr) (c : Nat) (l : List UInt8) (es : List Addr) (hz0 : w1.heap.size = w.heap.size + 1) (hk : Blk w.heap.size hd0.cells 31 w1) (hb : Below w.heap.size w w1) (he : Errs w es) (hr : Row eU8 w (.slice (some ad) l.length c) l) (hl : l.length ≤ 600) (o : Obj) (ho : o = .cells hd0.cells.toArray 31) (f : Nat) (hf : (verN l = 4 ∧ f = 26) ∨ (¬ verN l = 4 ∧ f = 27)) :
    Calls Tryd.prog f #[.pointer (some ⟨w.heap.size + 1, 0, none⟩), .slice (some ad) l.length c] (w1.alloc o) fun e w' => ∃ u, e = .returned u ∧ ErrIs es (midR l) u ∧ (midR l = 0 → HBlk (w.heap.size + 1) (midH l) 31 w') ∧ Below w.heap.size w w' ∧ Blk w.heap.size hd0.cells 31 w' := by
  subst ho
  have hB2 : Blk (w.heap.size + 1) hd0.cells 31 (w1.alloc (.cells hd0.cells.toArray 31)) := Blk.new _ _ _ _ _ rfl hz0
  have hsz : w.heap.size ≤ (w1.alloc (.cells hd0.cells.toArray 31)).heap.size := size_alloc_le hb _
  have hb1 := hb.alloc hb.size (.cells hd0.cells.toArray 31)
  have hk1 := hk.alloc (.cells hd0.cells.toArray 31)
  generalize w1.alloc (.cells hd0.cells.toArray 31) = w2 at hB2 hsz hb1 hk1 ⊢
  have hS : ∀ W, Alt (fun k => k = w.heap.size + 1) w2 W → Below w.heap.size w W ∧ Blk w.heap.size hd0.cells 31 W := fun W hW => ⟨below_alt hb1 hW hsz (fun k hk => by omega), hk1.alt hW (by omega)⟩
  rcases hf with ⟨e4, rfl⟩ | ⟨e4, rfl⟩
  · unfold midR midH
    rw [if_pos e4, if_pos e4]
    refine (fourth_calls _ hd0 31 _ l _ es (fun W hW => ⟨hr.below (hS _ hW).1, he.below (hS _ hW).1⟩) hB2 (by omega)).mono ?_
    rintro e w' ⟨u, rfl, hu, hk, ha⟩
    exact ⟨u, rfl, hu, hk, (hS _ ha).1, (hS _ ha).2⟩
  · unfold midR midH
    rw [if_neg e4, if_neg e4]
    refine (sixth_calls _ hd0 31 _ l _ es (fun W hW => ⟨hr.below (hS _ hW).1, he.below (hS _ hW).1⟩) hB2 (by omega)).mono ?_
    rintro e w' ⟨u, rfl, hu, hk, ha⟩
    exact ⟨u, rfl, hu, hk, (hS _ ha).1, (hS _ ha).2⟩

theorem parseR_mid (l : List UInt8) (h0 : ¬ l.length = 0) (h1 : ¬ (verN l ≠ 4 ∧ verN l ≠ 6)) (h2 : ¬ 300 < l.length) : parseR l = if midR l ≠ 0 then midR l else if (midH l).pr ≠ 6 ∧ (midH l).pr ≠ 17 then 17 else partR (midH l) (l.drop (midH l).pt.toNat) := by
  have e : ∀ a : Nat, (if l.length = 0 then 2 else if verN l ≠ 4 ∧ verN l ≠ 6 then 4 else if 300 < l.length then 3 else a) = a := fun a => by rw [if_neg h0, if_neg h1, if_neg h2]
  exact e _
theorem parseH_eq (l : List UInt8) : parseH l = ownH (ptsH (midH l) (l.drop (midH l).pt.toNat)) (l.drop (midH l).pt.toNat) := by unfold parseH; rfl

theorem ports_store (b : Nat) (h : Hd) (t : TypeId) (q : List UInt8) (W : World) (hW : HBlk b h t W) : ∃ w6 w7, (storeCells ⟨b, 18, none⟩ [.int .i64 (twoN q 0 : Int)]).run Tryd.prog W = .ok () w6 ∧ (storeCells ⟨b, 36, none⟩ [.int .i64 (twoN q 2 : Int)]).run Tryd.prog w6 = .ok () w7 ∧ HBlk b (ptsH h q) t w7 ∧ Alt (fun k => k = b) W w7 := by
  obtain ⟨w1, s1, k1, a1⟩ := store_at (P := Tryd.prog) (off := 18) (vs := [.int .i64 (twoN q 0 : Int)]) hW (by rw [Hd.len]; simp) (by intro u hu; rw [List.mem_singleton.1 hu]; rfl)
  rw [splice_one _ _ _ (by rw [Hd.len]; decide), (Hd.sets _ _).2.1] at k1
  obtain ⟨w2, s2, k2, a2⟩ := store_at (P := Tryd.prog) (off := 36) (vs := [.int .i64 (twoN q 2 : Int)]) k1 (by rw [Hd.len]; simp) (by intro u hu; rw [List.mem_singleton.1 hu]; rfl)
  rw [splice_one _ _ _ (by rw [Hd.len]; decide), (Hd.sets _ _).2.2.1] at k2
  exact ⟨w1, w2, s1, s2, k2, a1.trans a2⟩
theorem partR_long (h : Hd) (q : List UInt8) (n m : Nat) (h6 : (if h.pr = 6 then 20 else 8) = m) (hl : q.length = n) (hn : ¬ n < m) : partR h q = if ownR h q ≠ 0 then ownR h q else if twoN q 0 = 0 ∨ twoN q 2 = 0 then 4 else if sumB (ownH (ptsH h q) q) q then 0 else 5 := by
  unfold partR
  rw [h6, hl, if_neg hn]

theorem give_out (b0 b : Nat) (g : Hd) (t : TypeId) (W : World) (h0 : Blk b0 hd0.cells t W) (hg : HBlk b g t W) :
    (loadCells ⟨b, 0, none⟩ 40).run Tryd.prog W = .ok (hdA g) W ∧ ∃ w11, (storeCells ⟨b0, 0, none⟩ g.cells).run Tryd.prog W = .ok () w11 ∧ (loadCells ⟨b0, 0, none⟩ 40).run Tryd.prog w11 = .ok (hdA g) w11 ∧ Alt (fun k => k = b0) W w11 := by
  have hd : (g.cells.drop 0).take 40 = g.cells := by rw [List.drop_zero, List.take_of_length_le (by rw [Hd.len]; decide)]
  refine ⟨Blk.load hg 0 40 g.cells hd (Hd.len g), ?_⟩
  obtain ⟨w1, s1, k1, a1⟩ := store_at (P := Tryd.prog) (off := 0) (vs := g.cells) h0 (by rw [Hd.len, Hd.len]; decide) g.one
  rw [splice_all _ _ (by rw [Hd.len, Hd.len])] at k1
  exact ⟨w1, s1, Blk.load k1 0 40 g.cells hd (Hd.len g), a1⟩
set_option maxHeartbeats 16000000 in
theorem parse_calls (v : Value) (l : List UInt8) (w : World) (es : List Addr) (he : Errs w es) (hv : Row eU8 w v l) (hl : l.length ≤ 600) :
    Calls Tryd.prog 11 #[v] w fun e w' => (∃ u, e = .returned (.tuple #[.agg (hdA (if parseR l = 0 then parseH l else hd0)), u]) ∧ ErrIs es (parseR l) u) ∧ Below w.heap.size w w' := by
  obtain ⟨A, c, rfl, hc, hm, hr⟩ := hv.parts
  have hES : ∀ W, Below w.heap.size w W → Errs W es := fun W hW => he.below hW
  have hRS : ∀ W, Below w.heap.size w W → Row eU8 W (.slice A l.length c) l := fun W hW => hr.below hW
  have hel := he.1
  obtain ⟨eA, hEC, hEI⟩ : ∃ eA : Nat → Addr, (∀ W, Below w.heap.size w W → ∀ k (hk : k < 18), W.cell? ⟨gl.getD k 0, 0, none⟩ = some (.iface 133 (.pointer (some (eA k))))) ∧ (∀ k, k < 18 → ErrIs es (k + 1) (.iface 133 (.pointer (some (eA k))))) := by
    refine ⟨fun k => es.getD k ⟨0, 0, none⟩, fun W hW k hk => ?_, fun k hk => .inr ⟨k, by omega, rfl, by dsimp only; rw [List.getD_eq_getElem?_getD, List.getElem?_eq_getElem (by omega)]; rfl⟩⟩
    have he' := hES W hW
    have q := (he'.2.2 k (by omega)).1
    have e : es.getD k ⟨0, 0, none⟩ = es[k]'(by omega) := by rw [List.getD_eq_getElem?_getD, List.getElem?_eq_getElem (by omega)]; rfl
    dsimp only
    rw [e]
    exact q
  have HEI := Lib.hid hEI
  have HEC := Lib.hid hEC
  have HES := Lib.hid hES
  have HRS := Lib.hid hRS
  have HE := Lib.hid he
  have HR := Lib.hid hr
  clear hES hRS hv he hr hEC hEI hel
  obtain ⟨H, hH⟩ : ∃ H, H = (if parseR l = 0 then parseH l else hd0) := ⟨_, rfl⟩
  obtain ⟨R, hR⟩ : ∃ R, R = parseR l := ⟨_, rfl⟩
  rw [← hH, ← hR]
  rw [← hR] at hH
  go_enter Tryd.func11, Tryd.ntmps11
  go_wp2
  refine wp_scope_fwd 0 rfl ?_
  have hk0 : Blk w.heap.size hd0.cells 31 (w.alloc (.cells hd0.cells.toArray 31)) := Blk.new _ _ _ _ _ rfl rfl
  have hb0 : Below w.heap.size w (w.alloc (.cells hd0.cells.toArray 31)) := (Below.refl _ _).alloc (Nat.le_refl _) _
  have hz0 : (w.alloc (.cells hd0.cells.toArray 31)).heap.size = w.heap.size + 1 := by simp
  change Code.wp _ _ _ _ (w.alloc (.cells hd0.cells.toArray 31))
  generalize w.alloc (.cells hd0.cells.toArray 31) = w1 at hk0 hb0 hz0 ⊢
  have HK0 := Lib.hid hk0
  have HB0 := Lib.hid hb0
  have hle : w.heap.size ≤ w1.heap.size := hb0.size
  have HB1 : Hid (∀ o, Below w.heap.size w (w1.alloc o)) := Lib.hid (fun o => hb0.alloc hle o)
  have HK1 : Hid (∀ o, Blk w.heap.size hd0.cells 31 (w1.alloc o)) := Lib.hid (fun o => hk0.alloc o)
  have hdl : (hdA hd0) = ([.int .i64 0, .bool false, .int .u8 0, .int .u8 0, .int .u8 0, .int .u8 0, .int .u8 0, .int .u8 0, .int .u8 0, .int .u8 0, .int .u8 0, .int .u8 0, .int .u8 0, .int .u8 0, .int .u8 0, .int .u8 0, .int .u8 0, .int .u8 0, .int .i64 0, .bool false, .int .u8 0, .int .u8 0, .int .u8 0, .int .u8 0, .int .u8 0, .int .u8 0, .int .u8 0, .int .u8 0, .int .u8 0, .int .u8 0, .int .u8 0, .int .u8 0, .int .u8 0, .int .u8 0, .int .u8 0, .int .u8 0, .int .i64 0, .int .i64 0, .int .i64 0, .int .i64 0] : List Value).toArray := rfl
  have sst : ∀ W, Blk w.heap.size hd0.cells 31 W → (storeCells ⟨w.heap.size, 0, none⟩ [.int .i64 0, .bool false, .int .u8 0, .int .u8 0, .int .u8 0, .int .u8 0, .int .u8 0, .int .u8 0, .int .u8 0, .int .u8 0, .int .u8 0, .int .u8 0, .int .u8 0, .int .u8 0, .int .u8 0, .int .u8 0, .int .u8 0, .int .u8 0, .int .i64 0, .bool false, .int .u8 0, .int .u8 0, .int .u8 0, .int .u8 0, .int .u8 0, .int .u8 0, .int .u8 0, .int .u8 0, .int .u8 0, .int .u8 0, .int .u8 0, .int .u8 0, .int .u8 0, .int .u8 0, .int .u8 0, .int .u8 0, .int .i64 0, .int .i64 0, .int .i64 0, .int .i64 0]).run Tryd.prog W = .ok () W := fun W hW => store_same hW hd0.one
  have lld : ∀ W, Blk w.heap.size hd0.cells 31 W → (loadCells ⟨w.heap.size, 0, none⟩ 40).run Tryd.prog W = .ok ([.int .i64 0, .bool false, .int .u8 0, .int .u8 0, .int .u8 0, .int .u8 0, .int .u8 0, .int .u8 0, .int .u8 0, .int .u8 0, .int .u8 0, .int .u8 0, .int .u8 0, .int .u8 0, .int .u8 0, .int .u8 0, .int .u8 0, .int .u8 0, .int .i64 0, .bool false, .int .u8 0, .int .u8 0, .int .u8 0, .int .u8 0, .int .u8 0, .int .u8 0, .int .u8 0, .int .u8 0, .int .u8 0, .int .u8 0, .int .u8 0, .int .u8 0, .int .u8 0, .int .u8 0, .int .u8 0, .int .u8 0, .int .i64 0, .int .i64 0, .int .i64 0, .int .i64 0] : List Value).toArray W := fun W hW => hW.load 0 40 [.int .i64 0, .bool false, .int .u8 0, .int .u8 0, .int .u8 0, .int .u8 0, .int .u8 0, .int .u8 0, .int .u8 0, .int .u8 0, .int .u8 0, .int .u8 0, .int .u8 0, .int .u8 0, .int .u8 0, .int .u8 0, .int .u8 0, .int .u8 0, .int .i64 0, .bool false, .int .u8 0, .int .u8 0, .int .u8 0, .int .u8 0, .int .u8 0, .int .u8 0, .int .u8 0, .int .u8 0, .int .u8 0, .int .u8 0, .int .u8 0, .int .u8 0, .int .u8 0, .int .u8 0, .int .u8 0, .int .u8 0, .int .i64 0, .int .i64 0, .int .i64 0, .int .i64 0] rfl rfl
  have HSST := Lib.hid sst
  have HLLD := Lib.hid lld
  have sst1 : ∀ o, (storeCells ⟨w.heap.size, 0, none⟩ [.int .i64 0, .bool false, .int .u8 0, .int .u8 0, .int .u8 0, .int .u8 0, .int .u8 0, .int .u8 0, .int .u8 0, .int .u8 0, .int .u8 0, .int .u8 0, .int .u8 0, .int .u8 0, .int .u8 0, .int .u8 0, .int .u8 0, .int .u8 0, .int .i64 0, .bool false, .int .u8 0, .int .u8 0, .int .u8 0, .int .u8 0, .int .u8 0, .int .u8 0, .int .u8 0, .int .u8 0, .int .u8 0, .int .u8 0, .int .u8 0, .int .u8 0, .int .u8 0, .int .u8 0, .int .u8 0, .int .u8 0, .int .i64 0, .int .i64 0, .int .i64 0, .int .i64 0]).run Tryd.prog (w1.alloc o) = .ok () (w1.alloc o) := fun o => sst _ (HK1.out o)
  have lld1 : ∀ o, (loadCells ⟨w.heap.size, 0, none⟩ 40).run Tryd.prog (w1.alloc o) = .ok ([.int .i64 0, .bool false, .int .u8 0, .int .u8 0, .int .u8 0, .int .u8 0, .int .u8 0, .int .u8 0, .int .u8 0, .int .u8 0, .int .u8 0, .int .u8 0, .int .u8 0, .int .u8 0, .int .u8 0, .int .u8 0, .int .u8 0, .int .u8 0, .int .i64 0, .bool false, .int .u8 0, .int .u8 0, .int .u8 0, .int .u8 0, .int .u8 0, .int .u8 0, .int .u8 0, .int .u8 0, .int .u8 0, .int .u8 0, .int .u8 0, .int .u8 0, .int .u8 0, .int .u8 0, .int .u8 0, .int .u8 0, .int .i64 0, .int .i64 0, .int .i64 0, .int .i64 0] : List Value).toArray (w1.alloc o) := fun o => lld _ (HK1.out o)
  clear hk0 hb0 sst lld hdl
  by_cases h0 : l.length = 0
  · have hp : parseR l = 2 := by unfold parseR; rw [if_pos h0]
    rw [hp] at hR; subst hR; rw [if_neg (by decide)] at hH; subst hH
    have h0' : ((l.length : Int) == 0) = true := by rw [h0]; rfl
    have ec : ∀ o, (w1.alloc o).cell? ⟨0, 0, none⟩ = some (.iface 133 (.pointer (some (eA 1)))) := fun o => HEC.out _ (HB1.out o) 1 (by decide)
    have ec1 : w1.cell? ⟨0, 0, none⟩ = some (.iface 133 (.pointer (some (eA 1)))) := HEC.out _ HB0.out 1 (by decide)
    go_wp2
    go_step3
    refine ⟨rfl, ?_⟩
    change Code.wp _ _ _ _ _
    go_wp2
    (try simp only [Exit.jump]); exact bodyPost_ret (v := .tuple #[.agg ([.int .i64 0, .bool false, .int .u8 0, .int .u8 0, .int .u8 0, .int .u8 0, .int .u8 0, .int .u8 0, .int .u8 0, .int .u8 0, .int .u8 0, .int .u8 0, .int .u8 0, .int .u8 0, .int .u8 0, .int .u8 0, .int .u8 0, .int .u8 0, .int .i64 0, .bool false, .int .u8 0, .int .u8 0, .int .u8 0, .int .u8 0, .int .u8 0, .int .u8 0, .int .u8 0, .int .u8 0, .int .u8 0, .int .u8 0, .int .u8 0, .int .u8 0, .int .u8 0, .int .u8 0, .int .u8 0, .int .u8 0, .int .i64 0, .int .i64 0, .int .i64 0, .int .i64 0] : List Value).toArray, (.iface 133 (.pointer (some (eA 1))))]) (by simp [results, Tryd.results11, go_sem, lld1]) rfl ⟨⟨_, rfl, HEI.out 1 (by decide)⟩, HB1.out _⟩
  have h0' : ((l.length : Int) == 0) = false := beq_eq_false_iff_ne.mpr (by omega)
  have h0p : (0 : Int) < (l.length : Int) := by omega
  obtain ⟨ad, rfl, hzz⟩ := HR.out.atU8 (k := 0) (by omega)
  clear hzz
  have HBY := Lib.hid (byteS _ HRS.out 0 (by omega))
  have hx1 : w1.cell? ad = some (.int .u8 ((l.getD 0 0).toNat : Int)) := HBY.out _ HB0.out
  have hx2 : ∀ o, (w1.alloc o).cell? ad = some (.int .u8 ((l.getD 0 0).toNat : Int)) := fun o => HBY.out _ (HB1.out o)
  have hxb : ((l.getD 0 0).toNat : Int) < 256 := by have := (l.getD 0 0).toNat_lt; omega
  have hver : verN l = (l.getD 0 0).toNat / 16 := rfl
  by_cases h1 : verN l ≠ 4 ∧ verN l ≠ 6
  · have hp : parseR l = 4 := by unfold parseR; rw [if_neg h0, if_pos h1]
    rw [hp] at hR; subst hR; rw [if_neg (by decide)] at hH; subst hH
    have n4 : (((l.getD 0 0).toNat : Int) / 16 == 4) = false := beq_eq_false_iff_ne.mpr (by omega)
    have n6 : (((l.getD 0 0).toNat : Int) / 16 == 6) = false := beq_eq_false_iff_ne.mpr (by omega)
    have ec : ∀ o, (w1.alloc o).cell? ⟨1, 0, none⟩ = some (.iface 133 (.pointer (some (eA 3)))) := fun o => HEC.out _ (HB1.out o) 3 (by decide)
    have ec1 : w1.cell? ⟨1, 0, none⟩ = some (.iface 133 (.pointer (some (eA 3)))) := HEC.out _ HB0.out 3 (by decide)
    clear h1 hver h0
    generalize (l.getD 0 0) = x at hx1 hx2 n4 n6 hxb
    go_wp2
    go_step3
    refine ⟨rfl, ?_⟩
    change Code.wp _ _ _ _ _
    go_wp2
    (try simp only [Exit.jump]); exact bodyPost_ret (v := .tuple #[.agg ([.int .i64 0, .bool false, .int .u8 0, .int .u8 0, .int .u8 0, .int .u8 0, .int .u8 0, .int .u8 0, .int .u8 0, .int .u8 0, .int .u8 0, .int .u8 0, .int .u8 0, .int .u8 0, .int .u8 0, .int .u8 0, .int .u8 0, .int .u8 0, .int .i64 0, .bool false, .int .u8 0, .int .u8 0, .int .u8 0, .int .u8 0, .int .u8 0, .int .u8 0, .int .u8 0, .int .u8 0, .int .u8 0, .int .u8 0, .int .u8 0, .int .u8 0, .int .u8 0, .int .u8 0, .int .u8 0, .int .u8 0, .int .i64 0, .int .i64 0, .int .i64 0, .int .i64 0] : List Value).toArray, (.iface 133 (.pointer (some (eA 3))))]) (by simp [results, Tryd.results11, go_sem, lld1]) rfl ⟨⟨_, rfl, HEI.out 3 (by decide)⟩, HB1.out _⟩
  have h46 : ((l.getD 0 0).toNat : Int) / 16 = 4 ∧ verN l = 4 ∨ ((l.getD 0 0).toNat : Int) / 16 = 6 ∧ ¬ verN l = 4 := by
    by_cases e : verN l = 4
    · exact .inl ⟨by omega, e⟩
    · exact .inr ⟨by omega, e⟩
  by_cases h2 : 300 < l.length
  · have hp : parseR l = 3 := by unfold parseR; rw [if_neg h0, if_neg h1, if_pos h2]
    rw [hp] at hR; subst hR; rw [if_neg (by decide)] at hH; subst hH
    have h2' : (300 : Int) < (l.length : Int) := by omega
    have ec : ∀ o, (w1.alloc o).cell? ⟨2, 0, none⟩ = some (.iface 133 (.pointer (some (eA 2)))) := fun o => HEC.out _ (HB1.out o) 2 (by decide)
    have ec1 : w1.cell? ⟨2, 0, none⟩ = some (.iface 133 (.pointer (some (eA 2)))) := HEC.out _ HB0.out 2 (by decide)
    clear h1 hver h0
    generalize (l.getD 0 0) = x at hx1 hx2 h46 hxb
    rcases h46 with ⟨h4, _⟩ | ⟨h4, _⟩
    all_goals go_wp2
    all_goals go_step3
    all_goals refine ⟨rfl, ?_⟩
    all_goals change Code.wp _ _ _ _ _
    all_goals go_wp2
    all_goals ((try simp only [Exit.jump]); exact bodyPost_ret (v := .tuple #[.agg ([.int .i64 0, .bool false, .int .u8 0, .int .u8 0, .int .u8 0, .int .u8 0, .int .u8 0, .int .u8 0, .int .u8 0, .int .u8 0, .int .u8 0, .int .u8 0, .int .u8 0, .int .u8 0, .int .u8 0, .int .u8 0, .int .u8 0, .int .u8 0, .int .i64 0, .bool false, .int .u8 0, .int .u8 0, .int .u8 0, .int .u8 0, .int .u8 0, .int .u8 0, .int .u8 0, .int .u8 0, .int .u8 0, .int .u8 0, .int .u8 0, .int .u8 0, .int .u8 0, .int .u8 0, .int .u8 0, .int .u8 0, .int .i64 0, .int .i64 0, .int .i64 0, .int .i64 0] : List Value).toArray, (.iface 133 (.pointer (some (eA 2))))]) (by simp [results, Tryd.results11, go_sem, lld1]) rfl ⟨⟨_, rfl, HEI.out 2 (by decide)⟩, HB1.out _⟩
      )
  have h2' : (l.length : Int) ≤ 300 := by omega
  have hol : ((.cells #[.int .i64 0, .bool false, .int .u8 0, .int .u8 0, .int .u8 0, .int .u8 0, .int .u8 0, .int .u8 0, .int .u8 0, .int .u8 0, .int .u8 0, .int .u8 0, .int .u8 0, .int .u8 0, .int .u8 0, .int .u8 0, .int .u8 0, .int .u8 0, .int .i64 0, .bool false, .int .u8 0, .int .u8 0, .int .u8 0, .int .u8 0, .int .u8 0, .int .u8 0, .int .u8 0, .int .u8 0, .int .u8 0, .int .u8 0, .int .u8 0, .int .u8 0, .int .u8 0, .int .u8 0, .int .u8 0, .int .u8 0, .int .i64 0, .int .i64 0, .int .i64 0, .int .i64 0] 31) : Obj) = .cells hd0.cells.toArray 31 := rfl
  have KM4 := fun (e : verN l = 4) => mid_calls w w1 ad c l es hz0 HK0.out HB0.out HE.out HR.out hl (.cells #[.int .i64 0, .bool false, .int .u8 0, .int .u8 0, .int .u8 0, .int .u8 0, .int .u8 0, .int .u8 0, .int .u8 0, .int .u8 0, .int .u8 0, .int .u8 0, .int .u8 0, .int .u8 0, .int .u8 0, .int .u8 0, .int .u8 0, .int .u8 0, .int .i64 0, .bool false, .int .u8 0, .int .u8 0, .int .u8 0, .int .u8 0, .int .u8 0, .int .u8 0, .int .u8 0, .int .u8 0, .int .u8 0, .int .u8 0, .int .u8 0, .int .u8 0, .int .u8 0, .int .u8 0, .int .u8 0, .int .u8 0, .int .i64 0, .int .i64 0, .int .i64 0, .int .i64 0] 31) hol 26 (.inl ⟨e, rfl⟩)
  have KM6 := fun (e : ¬ verN l = 4) => mid_calls w w1 ad c l es hz0 HK0.out HB0.out HE.out HR.out hl (.cells #[.int .i64 0, .bool false, .int .u8 0, .int .u8 0, .int .u8 0, .int .u8 0, .int .u8 0, .int .u8 0, .int .u8 0, .int .u8 0, .int .u8 0, .int .u8 0, .int .u8 0, .int .u8 0, .int .u8 0, .int .u8 0, .int .u8 0, .int .u8 0, .int .i64 0, .bool false, .int .u8 0, .int .u8 0, .int .u8 0, .int .u8 0, .int .u8 0, .int .u8 0, .int .u8 0, .int .u8 0, .int .u8 0, .int .u8 0, .int .u8 0, .int .u8 0, .int .u8 0, .int .u8 0, .int .u8 0, .int .u8 0, .int .i64 0, .int .i64 0, .int .i64 0, .int .i64 0] 31) hol 27 (.inr ⟨e, rfl⟩)
  clear hol
  have hp := parseR_mid l h0 h1 h2
  replace hR := hR.trans hp
  have hPH := parseH_eq l
  replace hH : H = (if R = 0 then ownH (ptsH (midH l) (l.drop (midH l).pt.toNat)) (l.drop (midH l).pt.toNat) else hd0) := by rw [hH, hPH]
  have hmp := midH_pt l
  clear h0 h1 h2 hp hPH hver
  rcases h46 with ⟨h4, e4⟩ | ⟨h4, e4⟩
  · have KM := KM4 e4
    clear KM4 KM6 e4
    generalize (l.getD 0 0) = x at hx1 hx2 h4 hxb
    generalize midR l = r at KM hR hmp
    generalize midH l = h at KM hR hH hmp
    by_cases hr0 : r = 0
    · replace hR := hR.trans (if_neg (fun e => e hr0))
      obtain ⟨p, hpt, hpl, hp60⟩ := hmp hr0
      have KM2 := Lib.hid (Calls.mono KM (R' := fun e w' => e = .returned .nilIface ∧ HBlk (w.heap.size + 1) h 31 w' ∧ Below w.heap.size w w' ∧ Blk w.heap.size hd0.cells 31 w') (by
        rintro e w' ⟨u, rfl, hu, hk, hb, hz⟩
        rcases hu with ⟨_, rfl⟩ | ⟨k, hk2, hr2, rfl⟩
        · exact ⟨rfl, hk hr0, hb, hz⟩
        · omega))
      clear KM hmp hr0
      by_cases hpr : h.pr ≠ 6 ∧ h.pr ≠ 17
      · replace hR := hR.trans (if_pos hpr)
        subst hR
        replace hH := hH.trans (if_neg (by decide))
        subst hH
        have KP : Hid (∀ W, Calls Tryd.prog 28 #[.int .i64 h.pr] W fun e w' => e = .returned (.bool false) ∧ W = w') := Lib.hid (fun W => by
          have := protoh_calls h.pr W
          rw [decide_eq_false (fun e => e.elim hpr.1 hpr.2)] at this
          exact this)
        clear hpr hpt hpl hp60
        go_wp2_with (first
          | (go_at_call 26; ((with_reducible refine KM2.out.mono ?_); rintro e w2 ⟨rfl, hk, hb, hz⟩; have hc0 := hk.vals.1; have e17 : w2.cell? ⟨3, 0, none⟩ = some (.iface 133 (.pointer (some (eA 16)))) := HEC.out _ hb 16 (by decide); have HB2 := Lib.hid hb; have HK2 := Lib.hid hz; have sst2 := HSST.out _ hz; have lld2 := HLLD.out _ hz; clear hk hb hz))
          | (go_at_call 28; ((with_reducible refine (KP.out _).mono ?_); rintro e w3 ⟨rfl, rfl⟩)))
        go_step3
        refine ⟨rfl, ?_⟩
        change Code.wp _ _ _ _ _
        go_wp2
        (try simp only [Exit.jump]); exact bodyPost_ret (v := .tuple #[.agg ([.int .i64 0, .bool false, .int .u8 0, .int .u8 0, .int .u8 0, .int .u8 0, .int .u8 0, .int .u8 0, .int .u8 0, .int .u8 0, .int .u8 0, .int .u8 0, .int .u8 0, .int .u8 0, .int .u8 0, .int .u8 0, .int .u8 0, .int .u8 0, .int .i64 0, .bool false, .int .u8 0, .int .u8 0, .int .u8 0, .int .u8 0, .int .u8 0, .int .u8 0, .int .u8 0, .int .u8 0, .int .u8 0, .int .u8 0, .int .u8 0, .int .u8 0, .int .u8 0, .int .u8 0, .int .u8 0, .int .u8 0, .int .i64 0, .int .i64 0, .int .i64 0, .int .i64 0] : List Value).toArray, (.iface 133 (.pointer (some (eA 16))))]) (by simp [results, Tryd.results11, go_sem, lld2]) rfl ⟨⟨_, rfl, HEI.out 16 (by decide)⟩, HB2.out⟩
      · replace hR := hR.trans (if_neg hpr)
        have h617 : h.pr = 6 ∨ h.pr = 17 := by omega
        have KP : Hid (∀ W, Calls Tryd.prog 28 #[.int .i64 h.pr] W fun e w' => e = .returned (.bool true) ∧ W = w') := Lib.hid (fun W => by
          have := protoh_calls h.pr W
          rw [decide_eq_true h617] at this
          exact this)
        obtain ⟨A1, _, _, z3, z4⟩ := Row.cutS (P := Tryd.prog) (fun W => Below w.heap.size w W) 22 5 Tryd.underlying22 infoU8 HRS.out HB0.out p l.length hpl (Nat.le_refl _)
        have zs : ∀ W, (Instr.slice 22 (.slice (some ad) l.length c) (some (.int .i64 (p : Int))) none none).run Tryd.prog W = .ok (.slice A1 (l.length - p) (c - p)) W := fun W => z3 rfl W .i64
        have HZ : Hid (∀ W, Below w.heap.size w W → Row eU8 W (.slice A1 (l.length - p) (c - p)) (l.drop p)) := Lib.hid (fun W hW => by
          have := z4 W hW
          rw [List.take_length] at this
          exact this)
        have hqe : l.drop h.pt.toNat = l.drop p := by rw [hpt]; rfl
        have hql : (l.drop p).length = l.length - p := List.length_drop
        replace hR : R = partR h (l.drop p) := by rw [hR, hqe]
        replace hH : H = (if R = 0 then ownH (ptsH h (l.drop p)) (l.drop p) else hd0) := by rw [hH, hqe]
        clear z3 z4 hqe hpr
        generalize l.drop p = q at HZ hql hR hH
        have hnl : l.length - p ≤ l.length := Nat.sub_le _ _
        generalize l.length - p = n at HZ hql zs hnl
        rcases h617 with h6 | h6
        · have KP2 : Hid (∀ W, Calls Tryd.prog 28 #[.int .i64 6] W fun e w' => e = .returned (.bool true) ∧ W = w') := Lib.hid (fun W => h6 ▸ KP.out W)
          by_cases hsh : n < 20
          · have hR2 : partR h q = 2 := by unfold partR; rw [h6, hql]; exact if_pos hsh
            replace hR := hR.trans hR2
            subst hR
            replace hH := hH.trans (if_neg (by decide))
            subst hH
            have hsh' : (n : Int) < 20 := by omega
            clear hsh hR2 hql
            go_wp2_with (first
              | (go_at_call 26; ((with_reducible refine KM2.out.mono ?_); rintro e w2 ⟨rfl, hk, hb, hz⟩; have hc0 := hk.vals.1; have hc38 := hk.vals.2.2.2.2.2.1; have e1 : w2.cell? ⟨0, 0, none⟩ = some (.iface 133 (.pointer (some (eA 1)))) := HEC.out _ hb 1 (by decide); have HB2 := Lib.hid hb; have HK2 := Lib.hid hz; have sst2 := HSST.out _ hz; have lld2 := HLLD.out _ hz; clear hk hb hz))
              | (go_at_call 28; ((with_reducible refine (KP2.out _).mono ?_); rintro e w3 ⟨rfl, rfl⟩)))
            go_step3
            refine ⟨rfl, ?_⟩
            change Code.wp _ _ _ _ _
            go_wp2
            (try simp only [Exit.jump]); exact bodyPost_ret (v := .tuple #[.agg ([.int .i64 0, .bool false, .int .u8 0, .int .u8 0, .int .u8 0, .int .u8 0, .int .u8 0, .int .u8 0, .int .u8 0, .int .u8 0, .int .u8 0, .int .u8 0, .int .u8 0, .int .u8 0, .int .u8 0, .int .u8 0, .int .u8 0, .int .u8 0, .int .i64 0, .bool false, .int .u8 0, .int .u8 0, .int .u8 0, .int .u8 0, .int .u8 0, .int .u8 0, .int .u8 0, .int .u8 0, .int .u8 0, .int .u8 0, .int .u8 0, .int .u8 0, .int .u8 0, .int .u8 0, .int .u8 0, .int .u8 0, .int .i64 0, .int .i64 0, .int .i64 0, .int .i64 0] : List Value).toArray, (.iface 133 (.pointer (some (eA 1))))]) (by simp [results, Tryd.results11, go_sem, lld2]) rfl ⟨⟨_, rfl, HEI.out 1 (by decide)⟩, HB2.out⟩
          · have hR2 := partR_long h q n 20 (by rw [h6]; rfl) hql hsh
            replace hR := hR.trans hR2
            have hn8 : 8 ≤ q.length := by omega
            have KT0 := Lib.hid (fun W hv => two_calls (.slice A1 n (c - p)) q 0 0 W hv rfl (by omega) (by omega))
            have KT2 := Lib.hid (fun W hv => two_calls (.slice A1 n (c - p)) q 2 2 W hv rfl (by omega) (by omega))
            have HST := Lib.hid (ports_store (w.heap.size + 1) h 31 q)
            have hsh' : (20 : Int) ≤ (n : Int) := by omega
            by_cases hown : ownR h q ≠ 0
            · replace hR := hR.trans (if_pos hown)
              subst hR
              replace hH := hH.trans (if_neg hown)
              subst hH
              have KO : Hid (∀ W, HBlk (w.heap.size + 1) (ptsH h q) 31 W → Below w.heap.size w W → Calls Tryd.prog 30 #[.pointer (some ⟨w.heap.size + 1, 0, none⟩), .slice A1 n (c - p)] W fun e w' => ∃ ek, e = .returned (.iface 133 (.pointer (some ek))) ∧ ErrIs es (ownR h q) (.iface 133 (.pointer (some ek))) ∧ Alt (fun k => k = w.heap.size + 1) W w') := Lib.hid (fun W hk hb => by
                refine (own_calls _ (ptsH h q) 31 _ q W es (HES.out _ hb) hk (HZ.out _ hb) (fun e => by have e2 : h.pr = 6 := e; omega) hn8 (by omega) (by show (0 : Int) ≤ h.pt; omega) (by show h.pt ≤ 1000000; omega)).mono ?_
                rintro e w' ⟨u, rfl, hu, _, ha⟩
                rcases hu with ⟨e, _⟩ | ⟨k, hk2, hr2, rfl⟩
                · exact absurd e hown
                · exact ⟨_, rfl, .inr ⟨k, hk2, hr2, rfl⟩, ha⟩)
              clear hsh hR2 hql hown hn8
              go_wp2_with (first
                | (go_at_call 26; ((with_reducible refine KM2.out.mono ?_); rintro e w2 ⟨rfl, hk, hb, hz⟩; have hc0 := hk.vals.1; have hc38 := hk.vals.2.2.2.2.2.1; have HKB := Lib.hid hk; have HB2 := Lib.hid hb; have HK2 := Lib.hid hz; clear hk hb hz))
                | (go_at_call 28; ((with_reducible refine (KP2.out _).mono ?_); rintro e w3 ⟨rfl, rfl⟩))
                | (go_at_call 29; ((with_reducible refine (KT0.out _ (HZ.out _ HB2.out)).mono ?_); rintro e w4 ⟨rfl, n1, rfl⟩))
                | (go_at_call 29; ((with_reducible refine (KT2.out _ (HZ.out _ (below_drewN HB2.out n1))).mono ?_); rintro e w5 ⟨rfl, n2, rfl⟩; obtain ⟨w6, w7, s6, s7, k7, a7⟩ := HST.out (w2.drewN (n1 + n2)) (Blk.drewN HKB.out (n1 + n2)); have HB7 : Hid (Below w.heap.size w w7) := Lib.hid (below_alt (below_drewN HB2.out (n1 + n2)) a7 HB2.out.size (fun k hk => by omega)); have HZ7 : Hid (Blk w.heap.size hd0.cells 31 w7) := Lib.hid ((Blk.drewN HK2.out (n1 + n2)).alt a7 (by omega)); have HK7 := Lib.hid k7; clear k7 a7))
                | (go_at_call 30; ((with_reducible refine (KO.out _ HK7.out HB7.out).mono ?_); rintro e w8 ⟨ek, rfl, hu, ha⟩; have hz8 := HZ7.out.alt ha (by omega); have HB8 : Hid (Below w.heap.size w w8) := Lib.hid (below_alt HB7.out ha HB7.out.size (fun k hk => by omega)); have HU := Lib.hid hu; have sst8 := HSST.out _ hz8; have lld8 := HLLD.out _ hz8; clear hu ha hz8)))
              go_step3
              refine ⟨rfl, ?_⟩
              change Code.wp _ _ _ _ _
              go_wp2
              (try simp only [Exit.jump]); exact bodyPost_ret (v := .tuple #[.agg ([.int .i64 0, .bool false, .int .u8 0, .int .u8 0, .int .u8 0, .int .u8 0, .int .u8 0, .int .u8 0, .int .u8 0, .int .u8 0, .int .u8 0, .int .u8 0, .int .u8 0, .int .u8 0, .int .u8 0, .int .u8 0, .int .u8 0, .int .u8 0, .int .i64 0, .bool false, .int .u8 0, .int .u8 0, .int .u8 0, .int .u8 0, .int .u8 0, .int .u8 0, .int .u8 0, .int .u8 0, .int .u8 0, .int .u8 0, .int .u8 0, .int .u8 0, .int .u8 0, .int .u8 0, .int .u8 0, .int .u8 0, .int .i64 0, .int .i64 0, .int .i64 0, .int .i64 0] : List Value).toArray, (.iface 133 (.pointer (some ek)))]) (by simp [results, Tryd.results11, go_sem, lld8]) rfl ⟨⟨_, rfl, HU.out⟩, HB8.out⟩
            · replace hR := hR.trans (if_neg hown)
              have ho0 : ownR h q = 0 := by omega
              obtain ⟨hsp, hdp⟩ := own_sp h q
              have KO : Hid (∀ W, HBlk (w.heap.size + 1) (ptsH h q) 31 W → Below w.heap.size w W → Calls Tryd.prog 30 #[.pointer (some ⟨w.heap.size + 1, 0, none⟩), .slice A1 n (c - p)] W fun e w' => e = .returned .nilIface ∧ HBlk (w.heap.size + 1) (ownH (ptsH h q) q) 31 w' ∧ Alt (fun k => k = w.heap.size + 1) W w') := Lib.hid (fun W hk hb => by
                refine (own_calls _ (ptsH h q) 31 _ q W es (HES.out _ hb) hk (HZ.out _ hb) (fun e => by have e2 : h.pr = 6 := e; omega) hn8 (by omega) (by show (0 : Int) ≤ h.pt; omega) (by show h.pt ≤ 1000000; omega)).mono ?_
                rintro e w' ⟨u, rfl, hu, hk, ha⟩
                rcases hu with ⟨_, rfl⟩ | ⟨k, hk2, hr2, rfl⟩
                · exact ⟨rfl, hk ho0, ha⟩
                · have e3 : ownR (ptsH h q) q = ownR h q := rfl
                  omega)
              generalize ownH (ptsH h q) q = g at KO hsp hdp hR hH
              clear hsh hR2 hown hn8 ho0
              by_cases hq0 : twoN q 0 = 0
              · replace hR := hR.trans (if_pos (.inl hq0))
                subst hR
                replace hH := hH.trans (if_neg (by decide))
                subst hH
                have KR0 : Hid (∀ W, Calls Tryd.prog 31 #[.int .i64 (twoN q 0 : Int)] W fun e w' => e = .returned (.bool false) ∧ W = w') := Lib.hid (fun W => by
                  have := righth_calls (twoN q 0) (twoN_lt q 0) W
                  rw [decide_eq_false (fun e => e hq0)] at this
                  exact this)
                clear hql
                generalize twoN q 0 = f0 at KT0 hsp KR0 HST hq0
                clear hq0
                go_wp2_with (first
                  | (go_at_call 26; ((with_reducible refine KM2.out.mono ?_); rintro e w2 ⟨rfl, hk, hb, hz⟩; have hc0 := hk.vals.1; have hc38 := hk.vals.2.2.2.2.2.1; have HKB := Lib.hid hk; have HB2 := Lib.hid hb; have HK2 := Lib.hid hz; clear hk hb hz))
                  | (go_at_call 28; ((with_reducible refine (KP2.out _).mono ?_); rintro e w3 ⟨rfl, rfl⟩))
                  | (go_at_call 29; ((with_reducible refine (KT0.out _ (HZ.out _ HB2.out)).mono ?_); rintro e w4 ⟨rfl, n1, rfl⟩))
                  | (go_at_call 29; ((with_reducible refine (KT2.out _ (HZ.out _ (below_drewN HB2.out n1))).mono ?_); rintro e w5 ⟨rfl, n2, rfl⟩; obtain ⟨w6, w7, s6, s7, k7, a7⟩ := HST.out (w2.drewN (n1 + n2)) (Blk.drewN HKB.out (n1 + n2)); have HB7 : Hid (Below w.heap.size w w7) := Lib.hid (below_alt (below_drewN HB2.out (n1 + n2)) a7 HB2.out.size (fun k hk => by omega)); have HZ7 : Hid (Blk w.heap.size hd0.cells 31 w7) := Lib.hid ((Blk.drewN HK2.out (n1 + n2)).alt a7 (by omega)); have HK7 := Lib.hid k7; clear k7 a7))
                  | (go_at_call 30; ((with_reducible refine (KO.out _ HK7.out HB7.out).mono ?_); rintro e w8 ⟨rfl, hg, ha⟩; have hz8 := HZ7.out.alt ha (by omega); have HB8 : Hid (Below w.heap.size w w8) := Lib.hid (below_alt HB7.out ha HB7.out.size (fun k hk => by omega)); have HG8 := Lib.hid hg; have c18 := hg.vals.2.2.1; have c36 := hg.vals.2.2.2.1; have HZ8 := Lib.hid hz8; have sst8 := HSST.out _ hz8; have lld8 := HLLD.out _ hz8; have e4 : w8.cell? ⟨1, 0, none⟩ = some (.iface 133 (.pointer (some (eA 3)))) := HEC.out _ HB8.out 3 (by decide); have e5 : w8.cell? ⟨4, 0, none⟩ = some (.iface 133 (.pointer (some (eA 4)))) := HEC.out _ HB8.out 4 (by decide); clear ha hz8 hg))
                  | (go_at_call 31; ((with_reducible refine (KR0.out _).mono ?_); rintro e w9 ⟨rfl, rfl⟩))
                  | (go_at_call 31; ((with_reducible refine (KR2.out _).mono ?_); rintro e w9 ⟨rfl, rfl⟩)))
                go_step3
                refine ⟨rfl, ?_⟩
                change Code.wp _ _ _ _ _
                go_wp2
                (try simp only [Exit.jump]); exact bodyPost_ret (v := .tuple #[.agg ([.int .i64 0, .bool false, .int .u8 0, .int .u8 0, .int .u8 0, .int .u8 0, .int .u8 0, .int .u8 0, .int .u8 0, .int .u8 0, .int .u8 0, .int .u8 0, .int .u8 0, .int .u8 0, .int .u8 0, .int .u8 0, .int .u8 0, .int .u8 0, .int .i64 0, .bool false, .int .u8 0, .int .u8 0, .int .u8 0, .int .u8 0, .int .u8 0, .int .u8 0, .int .u8 0, .int .u8 0, .int .u8 0, .int .u8 0, .int .u8 0, .int .u8 0, .int .u8 0, .int .u8 0, .int .u8 0, .int .u8 0, .int .i64 0, .int .i64 0, .int .i64 0, .int .i64 0] : List Value).toArray, (.iface 133 (.pointer (some (eA 3))))]) (by simp [results, Tryd.results11, go_sem, lld8]) rfl ⟨⟨_, rfl, HEI.out 3 (by decide)⟩, HB8.out⟩
              · by_cases hq2 : twoN q 2 = 0
                · replace hR := hR.trans (if_pos (.inr hq2))
                  subst hR
                  replace hH := hH.trans (if_neg (by decide))
                  subst hH
                  have KR0 : Hid (∀ W, Calls Tryd.prog 31 #[.int .i64 (twoN q 0 : Int)] W fun e w' => e = .returned (.bool true) ∧ W = w') := Lib.hid (fun W => by
                    have := righth_calls (twoN q 0) (twoN_lt q 0) W
                    rw [decide_eq_true hq0] at this
                    exact this)
                  have KR2 : Hid (∀ W, Calls Tryd.prog 31 #[.int .i64 (twoN q 2 : Int)] W fun e w' => e = .returned (.bool false) ∧ W = w') := Lib.hid (fun W => by
                    have := righth_calls (twoN q 2) (twoN_lt q 2) W
                    rw [decide_eq_false (fun e => e hq2)] at this
                    exact this)
                  clear hql
                  generalize twoN q 0 = f0 at KT0 hsp KR0 HST hq0
                  generalize twoN q 2 = f2 at KT2 hdp KR2 HST hq2
                  clear hq0 hq2
                  go_wp2_with (first
                    | (go_at_call 26; ((with_reducible refine KM2.out.mono ?_); rintro e w2 ⟨rfl, hk, hb, hz⟩; have hc0 := hk.vals.1; have hc38 := hk.vals.2.2.2.2.2.1; have HKB := Lib.hid hk; have HB2 := Lib.hid hb; have HK2 := Lib.hid hz; clear hk hb hz))
                    | (go_at_call 28; ((with_reducible refine (KP2.out _).mono ?_); rintro e w3 ⟨rfl, rfl⟩))
                    | (go_at_call 29; ((with_reducible refine (KT0.out _ (HZ.out _ HB2.out)).mono ?_); rintro e w4 ⟨rfl, n1, rfl⟩))
                    | (go_at_call 29; ((with_reducible refine (KT2.out _ (HZ.out _ (below_drewN HB2.out n1))).mono ?_); rintro e w5 ⟨rfl, n2, rfl⟩; obtain ⟨w6, w7, s6, s7, k7, a7⟩ := HST.out (w2.drewN (n1 + n2)) (Blk.drewN HKB.out (n1 + n2)); have HB7 : Hid (Below w.heap.size w w7) := Lib.hid (below_alt (below_drewN HB2.out (n1 + n2)) a7 HB2.out.size (fun k hk => by omega)); have HZ7 : Hid (Blk w.heap.size hd0.cells 31 w7) := Lib.hid ((Blk.drewN HK2.out (n1 + n2)).alt a7 (by omega)); have HK7 := Lib.hid k7; clear k7 a7))
                    | (go_at_call 30; ((with_reducible refine (KO.out _ HK7.out HB7.out).mono ?_); rintro e w8 ⟨rfl, hg, ha⟩; have hz8 := HZ7.out.alt ha (by omega); have HB8 : Hid (Below w.heap.size w w8) := Lib.hid (below_alt HB7.out ha HB7.out.size (fun k hk => by omega)); have HG8 := Lib.hid hg; have c18 := hg.vals.2.2.1; have c36 := hg.vals.2.2.2.1; have HZ8 := Lib.hid hz8; have sst8 := HSST.out _ hz8; have lld8 := HLLD.out _ hz8; have e4 : w8.cell? ⟨1, 0, none⟩ = some (.iface 133 (.pointer (some (eA 3)))) := HEC.out _ HB8.out 3 (by decide); have e5 : w8.cell? ⟨4, 0, none⟩ = some (.iface 133 (.pointer (some (eA 4)))) := HEC.out _ HB8.out 4 (by decide); clear ha hz8 hg))
                    | (go_at_call 31; ((with_reducible refine (KR0.out _).mono ?_); rintro e w9 ⟨rfl, rfl⟩))
                    | (go_at_call 31; ((with_reducible refine (KR2.out _).mono ?_); rintro e w9 ⟨rfl, rfl⟩)))
                  go_step3
                  refine ⟨rfl, ?_⟩
                  change Code.wp _ _ _ _ _
                  go_wp2
                  (try simp only [Exit.jump]); exact bodyPost_ret (v := .tuple #[.agg ([.int .i64 0, .bool false, .int .u8 0, .int .u8 0, .int .u8 0, .int .u8 0, .int .u8 0, .int .u8 0, .int .u8 0, .int .u8 0, .int .u8 0, .int .u8 0, .int .u8 0, .int .u8 0, .int .u8 0, .int .u8 0, .int .u8 0, .int .u8 0, .int .i64 0, .bool false, .int .u8 0, .int .u8 0, .int .u8 0, .int .u8 0, .int .u8 0, .int .u8 0, .int .u8 0, .int .u8 0, .int .u8 0, .int .u8 0, .int .u8 0, .int .u8 0, .int .u8 0, .int .u8 0, .int .u8 0, .int .u8 0, .int .i64 0, .int .i64 0, .int .i64 0, .int .i64 0] : List Value).toArray, (.iface 133 (.pointer (some (eA 3))))]) (by simp [results, Tryd.results11, go_sem, lld8]) rfl ⟨⟨_, rfl, HEI.out 3 (by decide)⟩, HB8.out⟩
                · replace hR := hR.trans (if_neg (fun e => e.elim hq0 hq2))
                  have KR0 : Hid (∀ W, Calls Tryd.prog 31 #[.int .i64 (twoN q 0 : Int)] W fun e w' => e = .returned (.bool true) ∧ W = w') := Lib.hid (fun W => by
                    have := righth_calls (twoN q 0) (twoN_lt q 0) W
                    rw [decide_eq_true hq0] at this
                    exact this)
                  have KR2 : Hid (∀ W, Calls Tryd.prog 31 #[.int .i64 (twoN q 2 : Int)] W fun e w' => e = .returned (.bool true) ∧ W = w') := Lib.hid (fun W => by
                    have := righth_calls (twoN q 2) (twoN_lt q 2) W
                    rw [decide_eq_true hq2] at this
                    exact this)
                  have KS : Hid (∀ W, HBlk (w.heap.size + 1) g 31 W → Below w.heap.size w W → Calls Tryd.prog 32 #[.pointer (some ⟨w.heap.size + 1, 0, none⟩), .slice A1 n (c - p)] W fun e w' => e = .returned (.bool (sumB g q)) ∧ Below W.heap.size W w') := Lib.hid (fun W hk hb => summed_calls _ g 31 _ q W hk (HZ.out _ hb) (by omega) (by omega))
                  generalize sumB g q = sb at KS hR
                  generalize twoN q 0 = f0 at KT0 hsp KR0 HST hq0
                  generalize twoN q 2 = f2 at KT2 hdp KR2 HST hq2
                  clear hq0 hq2 hql
                  cases sb
                  · replace hR : R = 5 := hR
                    subst hR
                    replace hH := hH.trans (if_neg (by decide))
                    subst hH
                    go_wp2_with (first
                      | (go_at_call 26; ((with_reducible refine KM2.out.mono ?_); rintro e w2 ⟨rfl, hk, hb, hz⟩; have hc0 := hk.vals.1; have hc38 := hk.vals.2.2.2.2.2.1; have HKB := Lib.hid hk; have HB2 := Lib.hid hb; have HK2 := Lib.hid hz; clear hk hb hz))
                      | (go_at_call 28; ((with_reducible refine (KP2.out _).mono ?_); rintro e w3 ⟨rfl, rfl⟩))
                      | (go_at_call 29; ((with_reducible refine (KT0.out _ (HZ.out _ HB2.out)).mono ?_); rintro e w4 ⟨rfl, n1, rfl⟩))
                      | (go_at_call 29; ((with_reducible refine (KT2.out _ (HZ.out _ (below_drewN HB2.out n1))).mono ?_); rintro e w5 ⟨rfl, n2, rfl⟩; obtain ⟨w6, w7, s6, s7, k7, a7⟩ := HST.out (w2.drewN (n1 + n2)) (Blk.drewN HKB.out (n1 + n2)); have HB7 : Hid (Below w.heap.size w w7) := Lib.hid (below_alt (below_drewN HB2.out (n1 + n2)) a7 HB2.out.size (fun k hk => by omega)); have HZ7 : Hid (Blk w.heap.size hd0.cells 31 w7) := Lib.hid ((Blk.drewN HK2.out (n1 + n2)).alt a7 (by omega)); have HK7 := Lib.hid k7; clear k7 a7))
                      | (go_at_call 30; ((with_reducible refine (KO.out _ HK7.out HB7.out).mono ?_); rintro e w8 ⟨rfl, hg, ha⟩; have hz8 := HZ7.out.alt ha (by omega); have HB8 : Hid (Below w.heap.size w w8) := Lib.hid (below_alt HB7.out ha HB7.out.size (fun k hk => by omega)); have HG8 := Lib.hid hg; have c18 := hg.vals.2.2.1; have c36 := hg.vals.2.2.2.1; have HZ8 := Lib.hid hz8; have sst8 := HSST.out _ hz8; have lld8 := HLLD.out _ hz8; have e4 : w8.cell? ⟨1, 0, none⟩ = some (.iface 133 (.pointer (some (eA 3)))) := HEC.out _ HB8.out 3 (by decide); have e5 : w8.cell? ⟨4, 0, none⟩ = some (.iface 133 (.pointer (some (eA 4)))) := HEC.out _ HB8.out 4 (by decide); clear ha hz8 hg))
                      | (go_at_call 31; ((with_reducible refine (KR0.out _).mono ?_); rintro e w9 ⟨rfl, rfl⟩))
                      | (go_at_call 31; ((with_reducible refine (KR2.out _).mono ?_); rintro e w9 ⟨rfl, rfl⟩))
                      | (go_at_call 32; ((with_reducible refine (KS.out _ HG8.out HB8.out).mono ?_); rintro e w10 ⟨rfl, hb10⟩; have hb10' := below_then HB8.out hb10 HB8.out.size; have HB10 : Hid (Below w.heap.size w w10) := Lib.hid hb10'; have hz10 := HZ8.out.below hb10; have hg10 := Blk.below HG8.out hb10; have sst10 := HSST.out _ hz10; have lld10 := HLLD.out _ hz10; have e6 : w10.cell? ⟨4, 0, none⟩ = some (.iface 133 (.pointer (some (eA 4)))) := HEC.out _ hb10' 4 (by decide); clear hb10 hb10' hz10 hg10)))
                    go_step3
                    go_wp2
                    (try simp only [Exit.jump]); exact bodyPost_ret (v := .tuple #[.agg ([.int .i64 0, .bool false, .int .u8 0, .int .u8 0, .int .u8 0, .int .u8 0, .int .u8 0, .int .u8 0, .int .u8 0, .int .u8 0, .int .u8 0, .int .u8 0, .int .u8 0, .int .u8 0, .int .u8 0, .int .u8 0, .int .u8 0, .int .u8 0, .int .i64 0, .bool false, .int .u8 0, .int .u8 0, .int .u8 0, .int .u8 0, .int .u8 0, .int .u8 0, .int .u8 0, .int .u8 0, .int .u8 0, .int .u8 0, .int .u8 0, .int .u8 0, .int .u8 0, .int .u8 0, .int .u8 0, .int .u8 0, .int .i64 0, .int .i64 0, .int .i64 0, .int .i64 0] : List Value).toArray, (.iface 133 (.pointer (some (eA 4))))]) (by simp [results, Tryd.results11, go_sem, lld10]) rfl ⟨⟨_, rfl, HEI.out 4 (by decide)⟩, HB10.out⟩
                  · replace hR : R = 0 := hR
                    subst hR
                    replace hH := hH.trans (if_pos rfl)
                    subst hH
                    have hsl : (hdA H).toList = H.cells := rfl
                    have hsz : (hdA H).size = 40 := Hd.len H
                    go_wp2_with (first
                      | (go_at_call 26; ((with_reducible refine KM2.out.mono ?_); rintro e w2 ⟨rfl, hk, hb, hz⟩; have hc0 := hk.vals.1; have hc38 := hk.vals.2.2.2.2.2.1; have HKB := Lib.hid hk; have HB2 := Lib.hid hb; have HK2 := Lib.hid hz; clear hk hb hz))
                      | (go_at_call 28; ((with_reducible refine (KP2.out _).mono ?_); rintro e w3 ⟨rfl, rfl⟩))
                      | (go_at_call 29; ((with_reducible refine (KT0.out _ (HZ.out _ HB2.out)).mono ?_); rintro e w4 ⟨rfl, n1, rfl⟩))
                      | (go_at_call 29; ((with_reducible refine (KT2.out _ (HZ.out _ (below_drewN HB2.out n1))).mono ?_); rintro e w5 ⟨rfl, n2, rfl⟩; obtain ⟨w6, w7, s6, s7, k7, a7⟩ := HST.out (w2.drewN (n1 + n2)) (Blk.drewN HKB.out (n1 + n2)); have HB7 : Hid (Below w.heap.size w w7) := Lib.hid (below_alt (below_drewN HB2.out (n1 + n2)) a7 HB2.out.size (fun k hk => by omega)); have HZ7 : Hid (Blk w.heap.size hd0.cells 31 w7) := Lib.hid ((Blk.drewN HK2.out (n1 + n2)).alt a7 (by omega)); have HK7 := Lib.hid k7; clear k7 a7))
                      | (go_at_call 30; ((with_reducible refine (KO.out _ HK7.out HB7.out).mono ?_); rintro e w8 ⟨rfl, hg, ha⟩; have hz8 := HZ7.out.alt ha (by omega); have HB8 : Hid (Below w.heap.size w w8) := Lib.hid (below_alt HB7.out ha HB7.out.size (fun k hk => by omega)); have HG8 := Lib.hid hg; have c18 := hg.vals.2.2.1; have c36 := hg.vals.2.2.2.1; have HZ8 := Lib.hid hz8; have sst8 := HSST.out _ hz8; have lld8 := HLLD.out _ hz8; have e4 : w8.cell? ⟨1, 0, none⟩ = some (.iface 133 (.pointer (some (eA 3)))) := HEC.out _ HB8.out 3 (by decide); have e5 : w8.cell? ⟨4, 0, none⟩ = some (.iface 133 (.pointer (some (eA 4)))) := HEC.out _ HB8.out 4 (by decide); clear ha hz8 hg))
                      | (go_at_call 31; ((with_reducible refine (KR0.out _).mono ?_); rintro e w9 ⟨rfl, rfl⟩))
                      | (go_at_call 31; ((with_reducible refine (KR2.out _).mono ?_); rintro e w9 ⟨rfl, rfl⟩))
                      | (go_at_call 32; ((with_reducible refine (KS.out _ HG8.out HB8.out).mono ?_); rintro e w10 ⟨rfl, hb10⟩; have hb10' := below_then HB8.out hb10 HB8.out.size; have HB10 : Hid (Below w.heap.size w w10) := Lib.hid hb10'; have hz10 := HZ8.out.below hb10; have hg10 := Blk.below HG8.out hb10; obtain ⟨hldg, w11, s11, lld11, a11⟩ := give_out w.heap.size (w.heap.size + 1) H 31 w10 hz10 hg10; have HB11 : Hid (Below w.heap.size w w11) := Lib.hid (below_alt hb10' a11 hb10'.size (fun k hk => by omega)); clear a11; clear hb10 hb10' hz10 hg10)))
                    (try simp only [Exit.jump])
                    exact bodyPost_ret (v := .tuple #[.agg (hdA H), .nilIface]) (by simp [results, Tryd.results11, go_sem, lld11]) rfl ⟨⟨_, rfl, .inl ⟨rfl, rfl⟩⟩, HB11.out⟩
        · have KP2 : Hid (∀ W, Calls Tryd.prog 28 #[.int .i64 17] W fun e w' => e = .returned (.bool true) ∧ W = w') := Lib.hid (fun W => h6 ▸ KP.out W)
          by_cases hsh : n < 8
          · have hR2 : partR h q = 2 := by unfold partR; rw [h6, hql]; exact if_pos hsh
            replace hR := hR.trans hR2
            subst hR
            replace hH := hH.trans (if_neg (by decide))
            subst hH
            have hsh' : (n : Int) < 8 := by omega
            clear hsh hR2 hql
            go_wp2_with (first
              | (go_at_call 26; ((with_reducible refine KM2.out.mono ?_); rintro e w2 ⟨rfl, hk, hb, hz⟩; have hc0 := hk.vals.1; have hc38 := hk.vals.2.2.2.2.2.1; have e1 : w2.cell? ⟨0, 0, none⟩ = some (.iface 133 (.pointer (some (eA 1)))) := HEC.out _ hb 1 (by decide); have HB2 := Lib.hid hb; have HK2 := Lib.hid hz; have sst2 := HSST.out _ hz; have lld2 := HLLD.out _ hz; clear hk hb hz))
              | (go_at_call 28; ((with_reducible refine (KP2.out _).mono ?_); rintro e w3 ⟨rfl, rfl⟩)))
            go_step3
            refine ⟨rfl, ?_⟩
            change Code.wp _ _ _ _ _
            go_wp2
            (try simp only [Exit.jump]); exact bodyPost_ret (v := .tuple #[.agg ([.int .i64 0, .bool false, .int .u8 0, .int .u8 0, .int .u8 0, .int .u8 0, .int .u8 0, .int .u8 0, .int .u8 0, .int .u8 0, .int .u8 0, .int .u8 0, .int .u8 0, .int .u8 0, .int .u8 0, .int .u8 0, .int .u8 0, .int .u8 0, .int .i64 0, .bool false, .int .u8 0, .int .u8 0, .int .u8 0, .int .u8 0, .int .u8 0, .int .u8 0, .int .u8 0, .int .u8 0, .int .u8 0, .int .u8 0, .int .u8 0, .int .u8 0, .int .u8 0, .int .u8 0, .int .u8 0, .int .u8 0, .int .i64 0, .int .i64 0, .int .i64 0, .int .i64 0] : List Value).toArray, (.iface 133 (.pointer (some (eA 1))))]) (by simp [results, Tryd.results11, go_sem, lld2]) rfl ⟨⟨_, rfl, HEI.out 1 (by decide)⟩, HB2.out⟩
          · have hR2 := partR_long h q n 8 (by rw [h6]; rfl) hql hsh
            replace hR := hR.trans hR2
            have hn8 : 8 ≤ q.length := by omega
            have KT0 := Lib.hid (fun W hv => two_calls (.slice A1 n (c - p)) q 0 0 W hv rfl (by omega) (by omega))
            have KT2 := Lib.hid (fun W hv => two_calls (.slice A1 n (c - p)) q 2 2 W hv rfl (by omega) (by omega))
            have HST := Lib.hid (ports_store (w.heap.size + 1) h 31 q)
            have hsh' : (8 : Int) ≤ (n : Int) := by omega
            by_cases hown : ownR h q ≠ 0
            · replace hR := hR.trans (if_pos hown)
              subst hR
              replace hH := hH.trans (if_neg hown)
              subst hH
              have KO : Hid (∀ W, HBlk (w.heap.size + 1) (ptsH h q) 31 W → Below w.heap.size w W → Calls Tryd.prog 30 #[.pointer (some ⟨w.heap.size + 1, 0, none⟩), .slice A1 n (c - p)] W fun e w' => ∃ ek, e = .returned (.iface 133 (.pointer (some ek))) ∧ ErrIs es (ownR h q) (.iface 133 (.pointer (some ek))) ∧ Alt (fun k => k = w.heap.size + 1) W w') := Lib.hid (fun W hk hb => by
                refine (own_calls _ (ptsH h q) 31 _ q W es (HES.out _ hb) hk (HZ.out _ hb) (fun e => by have e2 : h.pr = 6 := e; omega) hn8 (by omega) (by show (0 : Int) ≤ h.pt; omega) (by show h.pt ≤ 1000000; omega)).mono ?_
                rintro e w' ⟨u, rfl, hu, _, ha⟩
                rcases hu with ⟨e, _⟩ | ⟨k, hk2, hr2, rfl⟩
                · exact absurd e hown
                · exact ⟨_, rfl, .inr ⟨k, hk2, hr2, rfl⟩, ha⟩)
              clear hsh hR2 hql hown hn8
              go_wp2_with (first
                | (go_at_call 26; ((with_reducible refine KM2.out.mono ?_); rintro e w2 ⟨rfl, hk, hb, hz⟩; have hc0 := hk.vals.1; have hc38 := hk.vals.2.2.2.2.2.1; have HKB := Lib.hid hk; have HB2 := Lib.hid hb; have HK2 := Lib.hid hz; clear hk hb hz))
                | (go_at_call 28; ((with_reducible refine (KP2.out _).mono ?_); rintro e w3 ⟨rfl, rfl⟩))
                | (go_at_call 29; ((with_reducible refine (KT0.out _ (HZ.out _ HB2.out)).mono ?_); rintro e w4 ⟨rfl, n1, rfl⟩))
                | (go_at_call 29; ((with_reducible refine (KT2.out _ (HZ.out _ (below_drewN HB2.out n1))).mono ?_); rintro e w5 ⟨rfl, n2, rfl⟩; obtain ⟨w6, w7, s6, s7, k7, a7⟩ := HST.out (w2.drewN (n1 + n2)) (Blk.drewN HKB.out (n1 + n2)); have HB7 : Hid (Below w.heap.size w w7) := Lib.hid (below_alt (below_drewN HB2.out (n1 + n2)) a7 HB2.out.size (fun k hk => by omega)); have HZ7 : Hid (Blk w.heap.size hd0.cells 31 w7) := Lib.hid ((Blk.drewN HK2.out (n1 + n2)).alt a7 (by omega)); have HK7 := Lib.hid k7; clear k7 a7))
                | (go_at_call 30; ((with_reducible refine (KO.out _ HK7.out HB7.out).mono ?_); rintro e w8 ⟨ek, rfl, hu, ha⟩; have hz8 := HZ7.out.alt ha (by omega); have HB8 : Hid (Below w.heap.size w w8) := Lib.hid (below_alt HB7.out ha HB7.out.size (fun k hk => by omega)); have HU := Lib.hid hu; have sst8 := HSST.out _ hz8; have lld8 := HLLD.out _ hz8; clear hu ha hz8)))
              go_step3
              refine ⟨rfl, ?_⟩
              change Code.wp _ _ _ _ _
              go_wp2
              (try simp only [Exit.jump]); exact bodyPost_ret (v := .tuple #[.agg ([.int .i64 0, .bool false, .int .u8 0, .int .u8 0, .int .u8 0, .int .u8 0, .int .u8 0, .int .u8 0, .int .u8 0, .int .u8 0, .int .u8 0, .int .u8 0, .int .u8 0, .int .u8 0, .int .u8 0, .int .u8 0, .int .u8 0, .int .u8 0, .int .i64 0, .bool false, .int .u8 0, .int .u8 0, .int .u8 0, .int .u8 0, .int .u8 0, .int .u8 0, .int .u8 0, .int .u8 0, .int .u8 0, .int .u8 0, .int .u8 0, .int .u8 0, .int .u8 0, .int .u8 0, .int .u8 0, .int .u8 0, .int .i64 0, .int .i64 0, .int .i64 0, .int .i64 0] : List Value).toArray, (.iface 133 (.pointer (some ek)))]) (by simp [results, Tryd.results11, go_sem, lld8]) rfl ⟨⟨_, rfl, HU.out⟩, HB8.out⟩
            · replace hR := hR.trans (if_neg hown)
              have ho0 : ownR h q = 0 := by omega
              obtain ⟨hsp, hdp⟩ := own_sp h q
              have KO : Hid (∀ W, HBlk (w.heap.size + 1) (ptsH h q) 31 W → Below w.heap.size w W → Calls Tryd.prog 30 #[.pointer (some ⟨w.heap.size + 1, 0, none⟩), .slice A1 n (c - p)] W fun e w' => e = .returned .nilIface ∧ HBlk (w.heap.size + 1) (ownH (ptsH h q) q) 31 w' ∧ Alt (fun k => k = w.heap.size + 1) W w') := Lib.hid (fun W hk hb => by
                refine (own_calls _ (ptsH h q) 31 _ q W es (HES.out _ hb) hk (HZ.out _ hb) (fun e => by have e2 : h.pr = 6 := e; omega) hn8 (by omega) (by show (0 : Int) ≤ h.pt; omega) (by show h.pt ≤ 1000000; omega)).mono ?_
                rintro e w' ⟨u, rfl, hu, hk, ha⟩
                rcases hu with ⟨_, rfl⟩ | ⟨k, hk2, hr2, rfl⟩
                · exact ⟨rfl, hk ho0, ha⟩
                · have e3 : ownR (ptsH h q) q = ownR h q := rfl
                  omega)
              generalize ownH (ptsH h q) q = g at KO hsp hdp hR hH
              clear hsh hR2 hown hn8 ho0
              by_cases hq0 : twoN q 0 = 0
              · replace hR := hR.trans (if_pos (.inl hq0))
                subst hR
                replace hH := hH.trans (if_neg (by decide))
                subst hH
                have KR0 : Hid (∀ W, Calls Tryd.prog 31 #[.int .i64 (twoN q 0 : Int)] W fun e w' => e = .returned (.bool false) ∧ W = w') := Lib.hid (fun W => by
                  have := righth_calls (twoN q 0) (twoN_lt q 0) W
                  rw [decide_eq_false (fun e => e hq0)] at this
                  exact this)
                clear hql
                generalize twoN q 0 = f0 at KT0 hsp KR0 HST hq0
                clear hq0
                go_wp2_with (first
                  | (go_at_call 26; ((with_reducible refine KM2.out.mono ?_); rintro e w2 ⟨rfl, hk, hb, hz⟩; have hc0 := hk.vals.1; have hc38 := hk.vals.2.2.2.2.2.1; have HKB := Lib.hid hk; have HB2 := Lib.hid hb; have HK2 := Lib.hid hz; clear hk hb hz))
                  | (go_at_call 28; ((with_reducible refine (KP2.out _).mono ?_); rintro e w3 ⟨rfl, rfl⟩))
                  | (go_at_call 29; ((with_reducible refine (KT0.out _ (HZ.out _ HB2.out)).mono ?_); rintro e w4 ⟨rfl, n1, rfl⟩))
                  | (go_at_call 29; ((with_reducible refine (KT2.out _ (HZ.out _ (below_drewN HB2.out n1))).mono ?_); rintro e w5 ⟨rfl, n2, rfl⟩; obtain ⟨w6, w7, s6, s7, k7, a7⟩ := HST.out (w2.drewN (n1 + n2)) (Blk.drewN HKB.out (n1 + n2)); have HB7 : Hid (Below w.heap.size w w7) := Lib.hid (below_alt (below_drewN HB2.out (n1 + n2)) a7 HB2.out.size (fun k hk => by omega)); have HZ7 : Hid (Blk w.heap.size hd0.cells 31 w7) := Lib.hid ((Blk.drewN HK2.out (n1 + n2)).alt a7 (by omega)); have HK7 := Lib.hid k7; clear k7 a7))
                  | (go_at_call 30; ((with_reducible refine (KO.out _ HK7.out HB7.out).mono ?_); rintro e w8 ⟨rfl, hg, ha⟩; have hz8 := HZ7.out.alt ha (by omega); have HB8 : Hid (Below w.heap.size w w8) := Lib.hid (below_alt HB7.out ha HB7.out.size (fun k hk => by omega)); have HG8 := Lib.hid hg; have c18 := hg.vals.2.2.1; have c36 := hg.vals.2.2.2.1; have HZ8 := Lib.hid hz8; have sst8 := HSST.out _ hz8; have lld8 := HLLD.out _ hz8; have e4 : w8.cell? ⟨1, 0, none⟩ = some (.iface 133 (.pointer (some (eA 3)))) := HEC.out _ HB8.out 3 (by decide); have e5 : w8.cell? ⟨4, 0, none⟩ = some (.iface 133 (.pointer (some (eA 4)))) := HEC.out _ HB8.out 4 (by decide); clear ha hz8 hg))
                  | (go_at_call 31; ((with_reducible refine (KR0.out _).mono ?_); rintro e w9 ⟨rfl, rfl⟩))
                  | (go_at_call 31; ((with_reducible refine (KR2.out _).mono ?_); rintro e w9 ⟨rfl, rfl⟩)))
                go_step3
                refine ⟨rfl, ?_⟩
                change Code.wp _ _ _ _ _
                go_wp2
                (try simp only [Exit.jump]); exact bodyPost_ret (v := .tuple #[.agg ([.int .i64 0, .bool false, .int .u8 0, .int .u8 0, .int .u8 0, .int .u8 0, .int .u8 0, .int .u8 0, .int .u8 0, .int .u8 0, .int .u8 0, .int .u8 0, .int .u8 0, .int .u8 0, .int .u8 0, .int .u8 0, .int .u8 0, .int .u8 0, .int .i64 0, .bool false, .int .u8 0, .int .u8 0, .int .u8 0, .int .u8 0, .int .u8 0, .int .u8 0, .int .u8 0, .int .u8 0, .int .u8 0, .int .u8 0, .int .u8 0, .int .u8 0, .int .u8 0, .int .u8 0, .int .u8 0, .int .u8 0, .int .i64 0, .int .i64 0, .int .i64 0, .int .i64 0] : List Value).toArray, (.iface 133 (.pointer (some (eA 3))))]) (by simp [results, Tryd.results11, go_sem, lld8]) rfl ⟨⟨_, rfl, HEI.out 3 (by decide)⟩, HB8.out⟩
              · by_cases hq2 : twoN q 2 = 0
                · replace hR := hR.trans (if_pos (.inr hq2))
                  subst hR
                  replace hH := hH.trans (if_neg (by decide))
                  subst hH
                  have KR0 : Hid (∀ W, Calls Tryd.prog 31 #[.int .i64 (twoN q 0 : Int)] W fun e w' => e = .returned (.bool true) ∧ W = w') := Lib.hid (fun W => by
                    have := righth_calls (twoN q 0) (twoN_lt q 0) W
                    rw [decide_eq_true hq0] at this
                    exact this)
                  have KR2 : Hid (∀ W, Calls Tryd.prog 31 #[.int .i64 (twoN q 2 : Int)] W fun e w' => e = .returned (.bool false) ∧ W = w') := Lib.hid (fun W => by
                    have := righth_calls (twoN q 2) (twoN_lt q 2) W
                    rw [decide_eq_false (fun e => e hq2)] at this
                    exact this)
                  clear hql
                  generalize twoN q 0 = f0 at KT0 hsp KR0 HST hq0
                  generalize twoN q 2 = f2 at KT2 hdp KR2 HST hq2
                  clear hq0 hq2
                  go_wp2_with (first
                    | (go_at_call 26; ((with_reducible refine KM2.out.mono ?_); rintro e w2 ⟨rfl, hk, hb, hz⟩; have hc0 := hk.vals.1; have hc38 := hk.vals.2.2.2.2.2.1; have HKB := Lib.hid hk; have HB2 := Lib.hid hb; have HK2 := Lib.hid hz; clear hk hb hz))
                    | (go_at_call 28; ((with_reducible refine (KP2.out _).mono ?_); rintro e w3 ⟨rfl, rfl⟩))
                    | (go_at_call 29; ((with_reducible refine (KT0.out _ (HZ.out _ HB2.out)).mono ?_); rintro e w4 ⟨rfl, n1, rfl⟩))
                    | (go_at_call 29; ((with_reducible refine (KT2.out _ (HZ.out _ (below_drewN HB2.out n1))).mono ?_); rintro e w5 ⟨rfl, n2, rfl⟩; obtain ⟨w6, w7, s6, s7, k7, a7⟩ := HST.out (w2.drewN (n1 + n2)) (Blk.drewN HKB.out (n1 + n2)); have HB7 : Hid (Below w.heap.size w w7) := Lib.hid (below_alt (below_drewN HB2.out (n1 + n2)) a7 HB2.out.size (fun k hk => by omega)); have HZ7 : Hid (Blk w.heap.size hd0.cells 31 w7) := Lib.hid ((Blk.drewN HK2.out (n1 + n2)).alt a7 (by omega)); have HK7 := Lib.hid k7; clear k7 a7))
                    | (go_at_call 30; ((with_reducible refine (KO.out _ HK7.out HB7.out).mono ?_); rintro e w8 ⟨rfl, hg, ha⟩; have hz8 := HZ7.out.alt ha (by omega); have HB8 : Hid (Below w.heap.size w w8) := Lib.hid (below_alt HB7.out ha HB7.out.size (fun k hk => by omega)); have HG8 := Lib.hid hg; have c18 := hg.vals.2.2.1; have c36 := hg.vals.2.2.2.1; have HZ8 := Lib.hid hz8; have sst8 := HSST.out _ hz8; have lld8 := HLLD.out _ hz8; have e4 : w8.cell? ⟨1, 0, none⟩ = some (.iface 133 (.pointer (some (eA 3)))) := HEC.out _ HB8.out 3 (by decide); have e5 : w8.cell? ⟨4, 0, none⟩ = some (.iface 133 (.pointer (some (eA 4)))) := HEC.out _ HB8.out 4 (by decide); clear ha hz8 hg))
                    | (go_at_call 31; ((with_reducible refine (KR0.out _).mono ?_); rintro e w9 ⟨rfl, rfl⟩))
                    | (go_at_call 31; ((with_reducible refine (KR2.out _).mono ?_); rintro e w9 ⟨rfl, rfl⟩)))
                  go_step3
                  refine ⟨rfl, ?_⟩
                  change Code.wp _ _ _ _ _
                  go_wp2
                  (try simp only [Exit.jump]); exact bodyPost_ret (v := .tuple #[.agg ([.int .i64 0, .bool false, .int .u8 0, .int .u8 0, .int .u8 0, .int .u8 0, .int .u8 0, .int .u8 0, .int .u8 0, .int .u8 0, .int .u8 0, .int .u8 0, .int .u8 0, .int .u8 0, .int .u8 0, .int .u8 0, .int .u8 0, .int .u8 0, .int .i64 0, .bool false, .int .u8 0, .int .u8 0, .int .u8 0, .int .u8 0, .int .u8 0, .int .u8 0, .int .u8 0, .int .u8 0, .int .u8 0, .int .u8 0, .int .u8 0, .int .u8 0, .int .u8 0, .int .u8 0, .int .u8 0, .int .u8 0, .int .i64 0, .int .i64 0, .int .i64 0, .int .i64 0] : List Value).toArray, (.iface 133 (.pointer (some (eA 3))))]) (by simp [results, Tryd.results11, go_sem, lld8]) rfl ⟨⟨_, rfl, HEI.out 3 (by decide)⟩, HB8.out⟩
                · replace hR := hR.trans (if_neg (fun e => e.elim hq0 hq2))
                  have KR0 : Hid (∀ W, Calls Tryd.prog 31 #[.int .i64 (twoN q 0 : Int)] W fun e w' => e = .returned (.bool true) ∧ W = w') := Lib.hid (fun W => by
                    have := righth_calls (twoN q 0) (twoN_lt q 0) W
                    rw [decide_eq_true hq0] at this
                    exact this)
                  have KR2 : Hid (∀ W, Calls Tryd.prog 31 #[.int .i64 (twoN q 2 : Int)] W fun e w' => e = .returned (.bool true) ∧ W = w') := Lib.hid (fun W => by
                    have := righth_calls (twoN q 2) (twoN_lt q 2) W
                    rw [decide_eq_true hq2] at this
                    exact this)
                  have KS : Hid (∀ W, HBlk (w.heap.size + 1) g 31 W → Below w.heap.size w W → Calls Tryd.prog 32 #[.pointer (some ⟨w.heap.size + 1, 0, none⟩), .slice A1 n (c - p)] W fun e w' => e = .returned (.bool (sumB g q)) ∧ Below W.heap.size W w') := Lib.hid (fun W hk hb => summed_calls _ g 31 _ q W hk (HZ.out _ hb) (by omega) (by omega))
                  generalize sumB g q = sb at KS hR
                  generalize twoN q 0 = f0 at KT0 hsp KR0 HST hq0
                  generalize twoN q 2 = f2 at KT2 hdp KR2 HST hq2
                  clear hq0 hq2 hql
                  cases sb
                  · replace hR : R = 5 := hR
                    subst hR
                    replace hH := hH.trans (if_neg (by decide))
                    subst hH
                    go_wp2_with (first
                      | (go_at_call 26; ((with_reducible refine KM2.out.mono ?_); rintro e w2 ⟨rfl, hk, hb, hz⟩; have hc0 := hk.vals.1; have hc38 := hk.vals.2.2.2.2.2.1; have HKB := Lib.hid hk; have HB2 := Lib.hid hb; have HK2 := Lib.hid hz; clear hk hb hz))
                      | (go_at_call 28; ((with_reducible refine (KP2.out _).mono ?_); rintro e w3 ⟨rfl, rfl⟩))
                      | (go_at_call 29; ((with_reducible refine (KT0.out _ (HZ.out _ HB2.out)).mono ?_); rintro e w4 ⟨rfl, n1, rfl⟩))
                      | (go_at_call 29; ((with_reducible refine (KT2.out _ (HZ.out _ (below_drewN HB2.out n1))).mono ?_); rintro e w5 ⟨rfl, n2, rfl⟩; obtain ⟨w6, w7, s6, s7, k7, a7⟩ := HST.out (w2.drewN (n1 + n2)) (Blk.drewN HKB.out (n1 + n2)); have HB7 : Hid (Below w.heap.size w w7) := Lib.hid (below_alt (below_drewN HB2.out (n1 + n2)) a7 HB2.out.size (fun k hk => by omega)); have HZ7 : Hid (Blk w.heap.size hd0.cells 31 w7) := Lib.hid ((Blk.drewN HK2.out (n1 + n2)).alt a7 (by omega)); have HK7 := Lib.hid k7; clear k7 a7))
                      | (go_at_call 30; ((with_reducible refine (KO.out _ HK7.out HB7.out).mono ?_); rintro e w8 ⟨rfl, hg, ha⟩; have hz8 := HZ7.out.alt ha (by omega); have HB8 : Hid (Below w.heap.size w w8) := Lib.hid (below_alt HB7.out ha HB7.out.size (fun k hk => by omega)); have HG8 := Lib.hid hg; have c18 := hg.vals.2.2.1; have c36 := hg.vals.2.2.2.1; have HZ8 := Lib.hid hz8; have sst8 := HSST.out _ hz8; have lld8 := HLLD.out _ hz8; have e4 : w8.cell? ⟨1, 0, none⟩ = some (.iface 133 (.pointer (some (eA 3)))) := HEC.out _ HB8.out 3 (by decide); have e5 : w8.cell? ⟨4, 0, none⟩ = some (.iface 133 (.pointer (some (eA 4)))) := HEC.out _ HB8.out 4 (by decide); clear ha hz8 hg))
                      | (go_at_call 31; ((with_reducible refine (KR0.out _).mono ?_); rintro e w9 ⟨rfl, rfl⟩))
                      | (go_at_call 31; ((with_reducible refine (KR2.out _).mono ?_); rintro e w9 ⟨rfl, rfl⟩))
                      | (go_at_call 32; ((with_reducible refine (KS.out _ HG8.out HB8.out).mono ?_); rintro e w10 ⟨rfl, hb10⟩; have hb10' := below_then HB8.out hb10 HB8.out.size; have HB10 : Hid (Below w.heap.size w w10) := Lib.hid hb10'; have hz10 := HZ8.out.below hb10; have hg10 := Blk.below HG8.out hb10; have sst10 := HSST.out _ hz10; have lld10 := HLLD.out _ hz10; have e6 : w10.cell? ⟨4, 0, none⟩ = some (.iface 133 (.pointer (some (eA 4)))) := HEC.out _ hb10' 4 (by decide); clear hb10 hb10' hz10 hg10)))
                    go_step3
                    go_wp2
                    (try simp only [Exit.jump]); exact bodyPost_ret (v := .tuple #[.agg ([.int .i64 0, .bool false, .int .u8 0, .int .u8 0, .int .u8 0, .int .u8 0, .int .u8 0, .int .u8 0, .int .u8 0, .int .u8 0, .int .u8 0, .int .u8 0, .int .u8 0, .int .u8 0, .int .u8 0, .int .u8 0, .int .u8 0, .int .u8 0, .int .i64 0, .bool false, .int .u8 0, .int .u8 0, .int .u8 0, .int .u8 0, .int .u8 0, .int .u8 0, .int .u8 0, .int .u8 0, .int .u8 0, .int .u8 0, .int .u8 0, .int .u8 0, .int .u8 0, .int .u8 0, .int .u8 0, .int .u8 0, .int .i64 0, .int .i64 0, .int .i64 0, .int .i64 0] : List Value).toArray, (.iface 133 (.pointer (some (eA 4))))]) (by simp [results, Tryd.results11, go_sem, lld10]) rfl ⟨⟨_, rfl, HEI.out 4 (by decide)⟩, HB10.out⟩
                  · replace hR : R = 0 := hR
                    subst hR
                    replace hH := hH.trans (if_pos rfl)
                    subst hH
                    have hsl : (hdA H).toList = H.cells := rfl
                    have hsz : (hdA H).size = 40 := Hd.len H
                    go_wp2_with (first
                      | (go_at_call 26; ((with_reducible refine KM2.out.mono ?_); rintro e w2 ⟨rfl, hk, hb, hz⟩; have hc0 := hk.vals.1; have hc38 := hk.vals.2.2.2.2.2.1; have HKB := Lib.hid hk; have HB2 := Lib.hid hb; have HK2 := Lib.hid hz; clear hk hb hz))
                      | (go_at_call 28; ((with_reducible refine (KP2.out _).mono ?_); rintro e w3 ⟨rfl, rfl⟩))
                      | (go_at_call 29; ((with_reducible refine (KT0.out _ (HZ.out _ HB2.out)).mono ?_); rintro e w4 ⟨rfl, n1, rfl⟩))
                      | (go_at_call 29; ((with_reducible refine (KT2.out _ (HZ.out _ (below_drewN HB2.out n1))).mono ?_); rintro e w5 ⟨rfl, n2, rfl⟩; obtain ⟨w6, w7, s6, s7, k7, a7⟩ := HST.out (w2.drewN (n1 + n2)) (Blk.drewN HKB.out (n1 + n2)); have HB7 : Hid (Below w.heap.size w w7) := Lib.hid (below_alt (below_drewN HB2.out (n1 + n2)) a7 HB2.out.size (fun k hk => by omega)); have HZ7 : Hid (Blk w.heap.size hd0.cells 31 w7) := Lib.hid ((Blk.drewN HK2.out (n1 + n2)).alt a7 (by omega)); have HK7 := Lib.hid k7; clear k7 a7))
                      | (go_at_call 30; ((with_reducible refine (KO.out _ HK7.out HB7.out).mono ?_); rintro e w8 ⟨rfl, hg, ha⟩; have hz8 := HZ7.out.alt ha (by omega); have HB8 : Hid (Below w.heap.size w w8) := Lib.hid (below_alt HB7.out ha HB7.out.size (fun k hk => by omega)); have HG8 := Lib.hid hg; have c18 := hg.vals.2.2.1; have c36 := hg.vals.2.2.2.1; have HZ8 := Lib.hid hz8; have sst8 := HSST.out _ hz8; have lld8 := HLLD.out _ hz8; have e4 : w8.cell? ⟨1, 0, none⟩ = some (.iface 133 (.pointer (some (eA 3)))) := HEC.out _ HB8.out 3 (by decide); have e5 : w8.cell? ⟨4, 0, none⟩ = some (.iface 133 (.pointer (some (eA 4)))) := HEC.out _ HB8.out 4 (by decide); clear ha hz8 hg))
                      | (go_at_call 31; ((with_reducible refine (KR0.out _).mono ?_); rintro e w9 ⟨rfl, rfl⟩))
                      | (go_at_call 31; ((with_reducible refine (KR2.out _).mono ?_); rintro e w9 ⟨rfl, rfl⟩))
                      | (go_at_call 32; ((with_reducible refine (KS.out _ HG8.out HB8.out).mono ?_); rintro e w10 ⟨rfl, hb10⟩; have hb10' := below_then HB8.out hb10 HB8.out.size; have HB10 : Hid (Below w.heap.size w w10) := Lib.hid hb10'; have hz10 := HZ8.out.below hb10; have hg10 := Blk.below HG8.out hb10; obtain ⟨hldg, w11, s11, lld11, a11⟩ := give_out w.heap.size (w.heap.size + 1) H 31 w10 hz10 hg10; have HB11 : Hid (Below w.heap.size w w11) := Lib.hid (below_alt hb10' a11 hb10'.size (fun k hk => by omega)); clear a11; clear hb10 hb10' hz10 hg10)))
                    (try simp only [Exit.jump])
                    exact bodyPost_ret (v := .tuple #[.agg (hdA H), .nilIface]) (by simp [results, Tryd.results11, go_sem, lld11]) rfl ⟨⟨_, rfl, .inl ⟨rfl, rfl⟩⟩, HB11.out⟩
    · replace hR := hR.trans (if_pos hr0)
      subst hR
      replace hH := hH.trans (if_neg hr0)
      subst hH
      have KM2 := Lib.hid (Calls.mono KM (R' := fun e w' => ∃ ek, e = .returned (.iface 133 (.pointer (some ek))) ∧ ErrIs es R (.iface 133 (.pointer (some ek))) ∧ Below w.heap.size w w' ∧ Blk w.heap.size hd0.cells 31 w') (by
        rintro e w' ⟨u, rfl, hu, hk, hb, hz⟩
        rcases hu with ⟨e, _⟩ | ⟨k, hk2, hr2, rfl⟩
        · exact absurd e hr0
        · exact ⟨_, rfl, .inr ⟨k, hk2, hr2, rfl⟩, hb, hz⟩))
      clear KM hmp
      go_wp2_with (go_at_call 26; ((with_reducible refine KM2.out.mono ?_); rintro e w2 ⟨ek, rfl, hu, hb, hz⟩; have HU := Lib.hid hu; have HB2 := Lib.hid hb; have HK2 := Lib.hid hz; have sst2 := HSST.out _ hz; have lld2 := HLLD.out _ hz; clear hu hb hz))
      go_step3
      refine ⟨rfl, ?_⟩
      change Code.wp _ _ _ _ _
      go_wp2
      (try simp only [Exit.jump]); exact bodyPost_ret (v := .tuple #[.agg ([.int .i64 0, .bool false, .int .u8 0, .int .u8 0, .int .u8 0, .int .u8 0, .int .u8 0, .int .u8 0, .int .u8 0, .int .u8 0, .int .u8 0, .int .u8 0, .int .u8 0, .int .u8 0, .int .u8 0, .int .u8 0, .int .u8 0, .int .u8 0, .int .i64 0, .bool false, .int .u8 0, .int .u8 0, .int .u8 0, .int .u8 0, .int .u8 0, .int .u8 0, .int .u8 0, .int .u8 0, .int .u8 0, .int .u8 0, .int .u8 0, .int .u8 0, .int .u8 0, .int .u8 0, .int .u8 0, .int .u8 0, .int .i64 0, .int .i64 0, .int .i64 0, .int .i64 0] : List Value).toArray, (.iface 133 (.pointer (some ek)))]) (by simp [results, Tryd.results11, go_sem, lld2]) rfl ⟨⟨_, rfl, HU.out⟩, HB2.out⟩
  · have KM := KM6 e4
    clear KM4 KM6 e4
    generalize (l.getD 0 0) = x at hx1 hx2 h4 hxb
    generalize midR l = r at KM hR hmp
    generalize midH l = h at KM hR hH hmp
    by_cases hr0 : r = 0
    · replace hR := hR.trans (if_neg (fun e => e hr0))
      obtain ⟨p, hpt, hpl, hp60⟩ := hmp hr0
      have KM2 := Lib.hid (Calls.mono KM (R' := fun e w' => e = .returned .nilIface ∧ HBlk (w.heap.size + 1) h 31 w' ∧ Below w.heap.size w w' ∧ Blk w.heap.size hd0.cells 31 w') (by
        rintro e w' ⟨u, rfl, hu, hk, hb, hz⟩
        rcases hu with ⟨_, rfl⟩ | ⟨k, hk2, hr2, rfl⟩
        · exact ⟨rfl, hk hr0, hb, hz⟩
        · omega))
      clear KM hmp hr0
      by_cases hpr : h.pr ≠ 6 ∧ h.pr ≠ 17
      · replace hR := hR.trans (if_pos hpr)
        subst hR
        replace hH := hH.trans (if_neg (by decide))
        subst hH
        have KP : Hid (∀ W, Calls Tryd.prog 28 #[.int .i64 h.pr] W fun e w' => e = .returned (.bool false) ∧ W = w') := Lib.hid (fun W => by
          have := protoh_calls h.pr W
          rw [decide_eq_false (fun e => e.elim hpr.1 hpr.2)] at this
          exact this)
        clear hpr hpt hpl hp60
        go_wp2_with (first
          | (go_at_call 27; ((with_reducible refine KM2.out.mono ?_); rintro e w2 ⟨rfl, hk, hb, hz⟩; have hc0 := hk.vals.1; have e17 : w2.cell? ⟨3, 0, none⟩ = some (.iface 133 (.pointer (some (eA 16)))) := HEC.out _ hb 16 (by decide); have HB2 := Lib.hid hb; have HK2 := Lib.hid hz; have sst2 := HSST.out _ hz; have lld2 := HLLD.out _ hz; clear hk hb hz))
          | (go_at_call 28; ((with_reducible refine (KP.out _).mono ?_); rintro e w3 ⟨rfl, rfl⟩)))
        go_step3
        refine ⟨rfl, ?_⟩
        change Code.wp _ _ _ _ _
        go_wp2
        (try simp only [Exit.jump]); exact bodyPost_ret (v := .tuple #[.agg ([.int .i64 0, .bool false, .int .u8 0, .int .u8 0, .int .u8 0, .int .u8 0, .int .u8 0, .int .u8 0, .int .u8 0, .int .u8 0, .int .u8 0, .int .u8 0, .int .u8 0, .int .u8 0, .int .u8 0, .int .u8 0, .int .u8 0, .int .u8 0, .int .i64 0, .bool false, .int .u8 0, .int .u8 0, .int .u8 0, .int .u8 0, .int .u8 0, .int .u8 0, .int .u8 0, .int .u8 0, .int .u8 0, .int .u8 0, .int .u8 0, .int .u8 0, .int .u8 0, .int .u8 0, .int .u8 0, .int .u8 0, .int .i64 0, .int .i64 0, .int .i64 0, .int .i64 0] : List Value).toArray, (.iface 133 (.pointer (some (eA 16))))]) (by simp [results, Tryd.results11, go_sem, lld2]) rfl ⟨⟨_, rfl, HEI.out 16 (by decide)⟩, HB2.out⟩
      · replace hR := hR.trans (if_neg hpr)
        have h617 : h.pr = 6 ∨ h.pr = 17 := by omega
        have KP : Hid (∀ W, Calls Tryd.prog 28 #[.int .i64 h.pr] W fun e w' => e = .returned (.bool true) ∧ W = w') := Lib.hid (fun W => by
          have := protoh_calls h.pr W
          rw [decide_eq_true h617] at this
          exact this)
        obtain ⟨A1, _, _, z3, z4⟩ := Row.cutS (P := Tryd.prog) (fun W => Below w.heap.size w W) 22 5 Tryd.underlying22 infoU8 HRS.out HB0.out p l.length hpl (Nat.le_refl _)
        have zs : ∀ W, (Instr.slice 22 (.slice (some ad) l.length c) (some (.int .i64 (p : Int))) none none).run Tryd.prog W = .ok (.slice A1 (l.length - p) (c - p)) W := fun W => z3 rfl W .i64
        have HZ : Hid (∀ W, Below w.heap.size w W → Row eU8 W (.slice A1 (l.length - p) (c - p)) (l.drop p)) := Lib.hid (fun W hW => by
          have := z4 W hW
          rw [List.take_length] at this
          exact this)
        have hqe : l.drop h.pt.toNat = l.drop p := by rw [hpt]; rfl
        have hql : (l.drop p).length = l.length - p := List.length_drop
        replace hR : R = partR h (l.drop p) := by rw [hR, hqe]
        replace hH : H = (if R = 0 then ownH (ptsH h (l.drop p)) (l.drop p) else hd0) := by rw [hH, hqe]
        clear z3 z4 hqe hpr
        generalize l.drop p = q at HZ hql hR hH
        have hnl : l.length - p ≤ l.length := Nat.sub_le _ _
        generalize l.length - p = n at HZ hql zs hnl
        rcases h617 with h6 | h6
        · have KP2 : Hid (∀ W, Calls Tryd.prog 28 #[.int .i64 6] W fun e w' => e = .returned (.bool true) ∧ W = w') := Lib.hid (fun W => h6 ▸ KP.out W)
          by_cases hsh : n < 20
          · have hR2 : partR h q = 2 := by unfold partR; rw [h6, hql]; exact if_pos hsh
            replace hR := hR.trans hR2
            subst hR
            replace hH := hH.trans (if_neg (by decide))
            subst hH
            have hsh' : (n : Int) < 20 := by omega
            clear hsh hR2 hql
            go_wp2_with (first
              | (go_at_call 27; ((with_reducible refine KM2.out.mono ?_); rintro e w2 ⟨rfl, hk, hb, hz⟩; have hc0 := hk.vals.1; have hc38 := hk.vals.2.2.2.2.2.1; have e1 : w2.cell? ⟨0, 0, none⟩ = some (.iface 133 (.pointer (some (eA 1)))) := HEC.out _ hb 1 (by decide); have HB2 := Lib.hid hb; have HK2 := Lib.hid hz; have sst2 := HSST.out _ hz; have lld2 := HLLD.out _ hz; clear hk hb hz))
              | (go_at_call 28; ((with_reducible refine (KP2.out _).mono ?_); rintro e w3 ⟨rfl, rfl⟩)))
            go_step3
            refine ⟨rfl, ?_⟩
            change Code.wp _ _ _ _ _
            go_wp2
            (try simp only [Exit.jump]); exact bodyPost_ret (v := .tuple #[.agg ([.int .i64 0, .bool false, .int .u8 0, .int .u8 0, .int .u8 0, .int .u8 0, .int .u8 0, .int .u8 0, .int .u8 0, .int .u8 0, .int .u8 0, .int .u8 0, .int .u8 0, .int .u8 0, .int .u8 0, .int .u8 0, .int .u8 0, .int .u8 0, .int .i64 0, .bool false, .int .u8 0, .int .u8 0, .int .u8 0, .int .u8 0, .int .u8 0, .int .u8 0, .int .u8 0, .int .u8 0, .int .u8 0, .int .u8 0, .int .u8 0, .int .u8 0, .int .u8 0, .int .u8 0, .int .u8 0, .int .u8 0, .int .i64 0, .int .i64 0, .int .i64 0, .int .i64 0] : List Value).toArray, (.iface 133 (.pointer (some (eA 1))))]) (by simp [results, Tryd.results11, go_sem, lld2]) rfl ⟨⟨_, rfl, HEI.out 1 (by decide)⟩, HB2.out⟩
          · have hR2 := partR_long h q n 20 (by rw [h6]; rfl) hql hsh
            replace hR := hR.trans hR2
            have hn8 : 8 ≤ q.length := by omega
            have KT0 := Lib.hid (fun W hv => two_calls (.slice A1 n (c - p)) q 0 0 W hv rfl (by omega) (by omega))
            have KT2 := Lib.hid (fun W hv => two_calls (.slice A1 n (c - p)) q 2 2 W hv rfl (by omega) (by omega))
            have HST := Lib.hid (ports_store (w.heap.size + 1) h 31 q)
            have hsh' : (20 : Int) ≤ (n : Int) := by omega
            by_cases hown : ownR h q ≠ 0
            · replace hR := hR.trans (if_pos hown)
              subst hR
              replace hH := hH.trans (if_neg hown)
              subst hH
              have KO : Hid (∀ W, HBlk (w.heap.size + 1) (ptsH h q) 31 W → Below w.heap.size w W → Calls Tryd.prog 30 #[.pointer (some ⟨w.heap.size + 1, 0, none⟩), .slice A1 n (c - p)] W fun e w' => ∃ ek, e = .returned (.iface 133 (.pointer (some ek))) ∧ ErrIs es (ownR h q) (.iface 133 (.pointer (some ek))) ∧ Alt (fun k => k = w.heap.size + 1) W w') := Lib.hid (fun W hk hb => by
                refine (own_calls _ (ptsH h q) 31 _ q W es (HES.out _ hb) hk (HZ.out _ hb) (fun e => by have e2 : h.pr = 6 := e; omega) hn8 (by omega) (by show (0 : Int) ≤ h.pt; omega) (by show h.pt ≤ 1000000; omega)).mono ?_
                rintro e w' ⟨u, rfl, hu, _, ha⟩
                rcases hu with ⟨e, _⟩ | ⟨k, hk2, hr2, rfl⟩
                · exact absurd e hown
                · exact ⟨_, rfl, .inr ⟨k, hk2, hr2, rfl⟩, ha⟩)
              clear hsh hR2 hql hown hn8
              go_wp2_with (first
                | (go_at_call 27; ((with_reducible refine KM2.out.mono ?_); rintro e w2 ⟨rfl, hk, hb, hz⟩; have hc0 := hk.vals.1; have hc38 := hk.vals.2.2.2.2.2.1; have HKB := Lib.hid hk; have HB2 := Lib.hid hb; have HK2 := Lib.hid hz; clear hk hb hz))
                | (go_at_call 28; ((with_reducible refine (KP2.out _).mono ?_); rintro e w3 ⟨rfl, rfl⟩))
                | (go_at_call 29; ((with_reducible refine (KT0.out _ (HZ.out _ HB2.out)).mono ?_); rintro e w4 ⟨rfl, n1, rfl⟩))
                | (go_at_call 29; ((with_reducible refine (KT2.out _ (HZ.out _ (below_drewN HB2.out n1))).mono ?_); rintro e w5 ⟨rfl, n2, rfl⟩; obtain ⟨w6, w7, s6, s7, k7, a7⟩ := HST.out (w2.drewN (n1 + n2)) (Blk.drewN HKB.out (n1 + n2)); have HB7 : Hid (Below w.heap.size w w7) := Lib.hid (below_alt (below_drewN HB2.out (n1 + n2)) a7 HB2.out.size (fun k hk => by omega)); have HZ7 : Hid (Blk w.heap.size hd0.cells 31 w7) := Lib.hid ((Blk.drewN HK2.out (n1 + n2)).alt a7 (by omega)); have HK7 := Lib.hid k7; clear k7 a7))
                | (go_at_call 30; ((with_reducible refine (KO.out _ HK7.out HB7.out).mono ?_); rintro e w8 ⟨ek, rfl, hu, ha⟩; have hz8 := HZ7.out.alt ha (by omega); have HB8 : Hid (Below w.heap.size w w8) := Lib.hid (below_alt HB7.out ha HB7.out.size (fun k hk => by omega)); have HU := Lib.hid hu; have sst8 := HSST.out _ hz8; have lld8 := HLLD.out _ hz8; clear hu ha hz8)))
              go_step3
              refine ⟨rfl, ?_⟩
              change Code.wp _ _ _ _ _
              go_wp2
              (try simp only [Exit.jump]); exact bodyPost_ret (v := .tuple #[.agg ([.int .i64 0, .bool false, .int .u8 0, .int .u8 0, .int .u8 0, .int .u8 0, .int .u8 0, .int .u8 0, .int .u8 0, .int .u8 0, .int .u8 0, .int .u8 0, .int .u8 0, .int .u8 0, .int .u8 0, .int .u8 0, .int .u8 0, .int .u8 0, .int .i64 0, .bool false, .int .u8 0, .int .u8 0, .int .u8 0, .int .u8 0, .int .u8 0, .int .u8 0, .int .u8 0, .int .u8 0, .int .u8 0, .int .u8 0, .int .u8 0, .int .u8 0, .int .u8 0, .int .u8 0, .int .u8 0, .int .u8 0, .int .i64 0, .int .i64 0, .int .i64 0, .int .i64 0] : List Value).toArray, (.iface 133 (.pointer (some ek)))]) (by simp [results, Tryd.results11, go_sem, lld8]) rfl ⟨⟨_, rfl, HU.out⟩, HB8.out⟩
            · replace hR := hR.trans (if_neg hown)
              have ho0 : ownR h q = 0 := by omega
              obtain ⟨hsp, hdp⟩ := own_sp h q
              have KO : Hid (∀ W, HBlk (w.heap.size + 1) (ptsH h q) 31 W → Below w.heap.size w W → Calls Tryd.prog 30 #[.pointer (some ⟨w.heap.size + 1, 0, none⟩), .slice A1 n (c - p)] W fun e w' => e = .returned .nilIface ∧ HBlk (w.heap.size + 1) (ownH (ptsH h q) q) 31 w' ∧ Alt (fun k => k = w.heap.size + 1) W w') := Lib.hid (fun W hk hb => by
                refine (own_calls _ (ptsH h q) 31 _ q W es (HES.out _ hb) hk (HZ.out _ hb) (fun e => by have e2 : h.pr = 6 := e; omega) hn8 (by omega) (by show (0 : Int) ≤ h.pt; omega) (by show h.pt ≤ 1000000; omega)).mono ?_
                rintro e w' ⟨u, rfl, hu, hk, ha⟩
                rcases hu with ⟨_, rfl⟩ | ⟨k, hk2, hr2, rfl⟩
                · exact ⟨rfl, hk ho0, ha⟩
                · have e3 : ownR (ptsH h q) q = ownR h q := rfl
                  omega)
              generalize ownH (ptsH h q) q = g at KO hsp hdp hR hH
              clear hsh hR2 hown hn8 ho0
              by_cases hq0 : twoN q 0 = 0
              · replace hR := hR.trans (if_pos (.inl hq0))
                subst hR
                replace hH := hH.trans (if_neg (by decide))
                subst hH
                have KR0 : Hid (∀ W, Calls Tryd.prog 31 #[.int .i64 (twoN q 0 : Int)] W fun e w' => e = .returned (.bool false) ∧ W = w') := Lib.hid (fun W => by
                  have := righth_calls (twoN q 0) (twoN_lt q 0) W
                  rw [decide_eq_false (fun e => e hq0)] at this
                  exact this)
                clear hql
                generalize twoN q 0 = f0 at KT0 hsp KR0 HST hq0
                clear hq0
                go_wp2_with (first
                  | (go_at_call 27; ((with_reducible refine KM2.out.mono ?_); rintro e w2 ⟨rfl, hk, hb, hz⟩; have hc0 := hk.vals.1; have hc38 := hk.vals.2.2.2.2.2.1; have HKB := Lib.hid hk; have HB2 := Lib.hid hb; have HK2 := Lib.hid hz; clear hk hb hz))
                  | (go_at_call 28; ((with_reducible refine (KP2.out _).mono ?_); rintro e w3 ⟨rfl, rfl⟩))
                  | (go_at_call 29; ((with_reducible refine (KT0.out _ (HZ.out _ HB2.out)).mono ?_); rintro e w4 ⟨rfl, n1, rfl⟩))
                  | (go_at_call 29; ((with_reducible refine (KT2.out _ (HZ.out _ (below_drewN HB2.out n1))).mono ?_); rintro e w5 ⟨rfl, n2, rfl⟩; obtain ⟨w6, w7, s6, s7, k7, a7⟩ := HST.out (w2.drewN (n1 + n2)) (Blk.drewN HKB.out (n1 + n2)); have HB7 : Hid (Below w.heap.size w w7) := Lib.hid (below_alt (below_drewN HB2.out (n1 + n2)) a7 HB2.out.size (fun k hk => by omega)); have HZ7 : Hid (Blk w.heap.size hd0.cells 31 w7) := Lib.hid ((Blk.drewN HK2.out (n1 + n2)).alt a7 (by omega)); have HK7 := Lib.hid k7; clear k7 a7))
                  | (go_at_call 30; ((with_reducible refine (KO.out _ HK7.out HB7.out).mono ?_); rintro e w8 ⟨rfl, hg, ha⟩; have hz8 := HZ7.out.alt ha (by omega); have HB8 : Hid (Below w.heap.size w w8) := Lib.hid (below_alt HB7.out ha HB7.out.size (fun k hk => by omega)); have HG8 := Lib.hid hg; have c18 := hg.vals.2.2.1; have c36 := hg.vals.2.2.2.1; have HZ8 := Lib.hid hz8; have sst8 := HSST.out _ hz8; have lld8 := HLLD.out _ hz8; have e4 : w8.cell? ⟨1, 0, none⟩ = some (.iface 133 (.pointer (some (eA 3)))) := HEC.out _ HB8.out 3 (by decide); have e5 : w8.cell? ⟨4, 0, none⟩ = some (.iface 133 (.pointer (some (eA 4)))) := HEC.out _ HB8.out 4 (by decide); clear ha hz8 hg))
                  | (go_at_call 31; ((with_reducible refine (KR0.out _).mono ?_); rintro e w9 ⟨rfl, rfl⟩))
                  | (go_at_call 31; ((with_reducible refine (KR2.out _).mono ?_); rintro e w9 ⟨rfl, rfl⟩)))
                go_step3
                refine ⟨rfl, ?_⟩
                change Code.wp _ _ _ _ _
                go_wp2
                (try simp only [Exit.jump]); exact bodyPost_ret (v := .tuple #[.agg ([.int .i64 0, .bool false, .int .u8 0, .int .u8 0, .int .u8 0, .int .u8 0, .int .u8 0, .int .u8 0, .int .u8 0, .int .u8 0, .int .u8 0, .int .u8 0, .int .u8 0, .int .u8 0, .int .u8 0, .int .u8 0, .int .u8 0, .int .u8 0, .int .i64 0, .bool false, .int .u8 0, .int .u8 0, .int .u8 0, .int .u8 0, .int .u8 0, .int .u8 0, .int .u8 0, .int .u8 0, .int .u8 0, .int .u8 0, .int .u8 0, .int .u8 0, .int .u8 0, .int .u8 0, .int .u8 0, .int .u8 0, .int .i64 0, .int .i64 0, .int .i64 0, .int .i64 0] : List Value).toArray, (.iface 133 (.pointer (some (eA 3))))]) (by simp [results, Tryd.results11, go_sem, lld8]) rfl ⟨⟨_, rfl, HEI.out 3 (by decide)⟩, HB8.out⟩
              · by_cases hq2 : twoN q 2 = 0
                · replace hR := hR.trans (if_pos (.inr hq2))
                  subst hR
                  replace hH := hH.trans (if_neg (by decide))
                  subst hH
                  have KR0 : Hid (∀ W, Calls Tryd.prog 31 #[.int .i64 (twoN q 0 : Int)] W fun e w' => e = .returned (.bool true) ∧ W = w') := Lib.hid (fun W => by
                    have := righth_calls (twoN q 0) (twoN_lt q 0) W
                    rw [decide_eq_true hq0] at this
                    exact this)
                  have KR2 : Hid (∀ W, Calls Tryd.prog 31 #[.int .i64 (twoN q 2 : Int)] W fun e w' => e = .returned (.bool false) ∧ W = w') := Lib.hid (fun W => by
                    have := righth_calls (twoN q 2) (twoN_lt q 2) W
                    rw [decide_eq_false (fun e => e hq2)] at this
                    exact this)
                  clear hql
                  generalize twoN q 0 = f0 at KT0 hsp KR0 HST hq0
                  generalize twoN q 2 = f2 at KT2 hdp KR2 HST hq2
                  clear hq0 hq2
                  go_wp2_with (first
                    | (go_at_call 27; ((with_reducible refine KM2.out.mono ?_); rintro e w2 ⟨rfl, hk, hb, hz⟩; have hc0 := hk.vals.1; have hc38 := hk.vals.2.2.2.2.2.1; have HKB := Lib.hid hk; have HB2 := Lib.hid hb; have HK2 := Lib.hid hz; clear hk hb hz))
                    | (go_at_call 28; ((with_reducible refine (KP2.out _).mono ?_); rintro e w3 ⟨rfl, rfl⟩))
                    | (go_at_call 29; ((with_reducible refine (KT0.out _ (HZ.out _ HB2.out)).mono ?_); rintro e w4 ⟨rfl, n1, rfl⟩))
                    | (go_at_call 29; ((with_reducible refine (KT2.out _ (HZ.out _ (below_drewN HB2.out n1))).mono ?_); rintro e w5 ⟨rfl, n2, rfl⟩; obtain ⟨w6, w7, s6, s7, k7, a7⟩ := HST.out (w2.drewN (n1 + n2)) (Blk.drewN HKB.out (n1 + n2)); have HB7 : Hid (Below w.heap.size w w7) := Lib.hid (below_alt (below_drewN HB2.out (n1 + n2)) a7 HB2.out.size (fun k hk => by omega)); have HZ7 : Hid (Blk w.heap.size hd0.cells 31 w7) := Lib.hid ((Blk.drewN HK2.out (n1 + n2)).alt a7 (by omega)); have HK7 := Lib.hid k7; clear k7 a7))
                    | (go_at_call 30; ((with_reducible refine (KO.out _ HK7.out HB7.out).mono ?_); rintro e w8 ⟨rfl, hg, ha⟩; have hz8 := HZ7.out.alt ha (by omega); have HB8 : Hid (Below w.heap.size w w8) := Lib.hid (below_alt HB7.out ha HB7.out.size (fun k hk => by omega)); have HG8 := Lib.hid hg; have c18 := hg.vals.2.2.1; have c36 := hg.vals.2.2.2.1; have HZ8 := Lib.hid hz8; have sst8 := HSST.out _ hz8; have lld8 := HLLD.out _ hz8; have e4 : w8.cell? ⟨1, 0, none⟩ = some (.iface 133 (.pointer (some (eA 3)))) := HEC.out _ HB8.out 3 (by decide); have e5 : w8.cell? ⟨4, 0, none⟩ = some (.iface 133 (.pointer (some (eA 4)))) := HEC.out _ HB8.out 4 (by decide); clear ha hz8 hg))
                    | (go_at_call 31; ((with_reducible refine (KR0.out _).mono ?_); rintro e w9 ⟨rfl, rfl⟩))
                    | (go_at_call 31; ((with_reducible refine (KR2.out _).mono ?_); rintro e w9 ⟨rfl, rfl⟩)))
                  go_step3
                  refine ⟨rfl, ?_⟩
                  change Code.wp _ _ _ _ _
                  go_wp2
                  (try simp only [Exit.jump]); exact bodyPost_ret (v := .tuple #[.agg ([.int .i64 0, .bool false, .int .u8 0, .int .u8 0, .int .u8 0, .int .u8 0, .int .u8 0, .int .u8 0, .int .u8 0, .int .u8 0, .int .u8 0, .int .u8 0, .int .u8 0, .int .u8 0, .int .u8 0, .int .u8 0, .int .u8 0, .int .u8 0, .int .i64 0, .bool false, .int .u8 0, .int .u8 0, .int .u8 0, .int .u8 0, .int .u8 0, .int .u8 0, .int .u8 0, .int .u8 0, .int .u8 0, .int .u8 0, .int .u8 0, .int .u8 0, .int .u8 0, .int .u8 0, .int .u8 0, .int .u8 0, .int .i64 0, .int .i64 0, .int .i64 0, .int .i64 0] : List Value).toArray, (.iface 133 (.pointer (some (eA 3))))]) (by simp [results, Tryd.results11, go_sem, lld8]) rfl ⟨⟨_, rfl, HEI.out 3 (by decide)⟩, HB8.out⟩
                · replace hR := hR.trans (if_neg (fun e => e.elim hq0 hq2))
                  have KR0 : Hid (∀ W, Calls Tryd.prog 31 #[.int .i64 (twoN q 0 : Int)] W fun e w' => e = .returned (.bool true) ∧ W = w') := Lib.hid (fun W => by
                    have := righth_calls (twoN q 0) (twoN_lt q 0) W
                    rw [decide_eq_true hq0] at this
                    exact this)
                  have KR2 : Hid (∀ W, Calls Tryd.prog 31 #[.int .i64 (twoN q 2 : Int)] W fun e w' => e = .returned (.bool true) ∧ W = w') := Lib.hid (fun W => by
                    have := righth_calls (twoN q 2) (twoN_lt q 2) W
                    rw [decide_eq_true hq2] at this
                    exact this)
                  have KS : Hid (∀ W, HBlk (w.heap.size + 1) g 31 W → Below w.heap.size w W → Calls Tryd.prog 32 #[.pointer (some ⟨w.heap.size + 1, 0, none⟩), .slice A1 n (c - p)] W fun e w' => e = .returned (.bool (sumB g q)) ∧ Below W.heap.size W w') := Lib.hid (fun W hk hb => summed_calls _ g 31 _ q W hk (HZ.out _ hb) (by omega) (by omega))
                  generalize sumB g q = sb at KS hR
                  generalize twoN q 0 = f0 at KT0 hsp KR0 HST hq0
                  generalize twoN q 2 = f2 at KT2 hdp KR2 HST hq2
                  clear hq0 hq2 hql
                  cases sb
                  · replace hR : R = 5 := hR
                    subst hR
                    replace hH := hH.trans (if_neg (by decide))
                    subst hH
                    go_wp2_with (first
                      | (go_at_call 27; ((with_reducible refine KM2.out.mono ?_); rintro e w2 ⟨rfl, hk, hb, hz⟩; have hc0 := hk.vals.1; have hc38 := hk.vals.2.2.2.2.2.1; have HKB := Lib.hid hk; have HB2 := Lib.hid hb; have HK2 := Lib.hid hz; clear hk hb hz))
                      | (go_at_call 28; ((with_reducible refine (KP2.out _).mono ?_); rintro e w3 ⟨rfl, rfl⟩))
                      | (go_at_call 29; ((with_reducible refine (KT0.out _ (HZ.out _ HB2.out)).mono ?_); rintro e w4 ⟨rfl, n1, rfl⟩))
                      | (go_at_call 29; ((with_reducible refine (KT2.out _ (HZ.out _ (below_drewN HB2.out n1))).mono ?_); rintro e w5 ⟨rfl, n2, rfl⟩; obtain ⟨w6, w7, s6, s7, k7, a7⟩ := HST.out (w2.drewN (n1 + n2)) (Blk.drewN HKB.out (n1 + n2)); have HB7 : Hid (Below w.heap.size w w7) := Lib.hid (below_alt (below_drewN HB2.out (n1 + n2)) a7 HB2.out.size (fun k hk => by omega)); have HZ7 : Hid (Blk w.heap.size hd0.cells 31 w7) := Lib.hid ((Blk.drewN HK2.out (n1 + n2)).alt a7 (by omega)); have HK7 := Lib.hid k7; clear k7 a7))
                      | (go_at_call 30; ((with_reducible refine (KO.out _ HK7.out HB7.out).mono ?_); rintro e w8 ⟨rfl, hg, ha⟩; have hz8 := HZ7.out.alt ha (by omega); have HB8 : Hid (Below w.heap.size w w8) := Lib.hid (below_alt HB7.out ha HB7.out.size (fun k hk => by omega)); have HG8 := Lib.hid hg; have c18 := hg.vals.2.2.1; have c36 := hg.vals.2.2.2.1; have HZ8 := Lib.hid hz8; have sst8 := HSST.out _ hz8; have lld8 := HLLD.out _ hz8; have e4 : w8.cell? ⟨1, 0, none⟩ = some (.iface 133 (.pointer (some (eA 3)))) := HEC.out _ HB8.out 3 (by decide); have e5 : w8.cell? ⟨4, 0, none⟩ = some (.iface 133 (.pointer (some (eA 4)))) := HEC.out _ HB8.out 4 (by decide); clear ha hz8 hg))
                      | (go_at_call 31; ((with_reducible refine (KR0.out _).mono ?_); rintro e w9 ⟨rfl, rfl⟩))
                      | (go_at_call 31; ((with_reducible refine (KR2.out _).mono ?_); rintro e w9 ⟨rfl, rfl⟩))
                      | (go_at_call 32; ((with_reducible refine (KS.out _ HG8.out HB8.out).mono ?_); rintro e w10 ⟨rfl, hb10⟩; have hb10' := below_then HB8.out hb10 HB8.out.size; have HB10 : Hid (Below w.heap.size w w10) := Lib.hid hb10'; have hz10 := HZ8.out.below hb10; have hg10 := Blk.below HG8.out hb10; have sst10 := HSST.out _ hz10; have lld10 := HLLD.out _ hz10; have e6 : w10.cell? ⟨4, 0, none⟩ = some (.iface 133 (.pointer (some (eA 4)))) := HEC.out _ hb10' 4 (by decide); clear hb10 hb10' hz10 hg10)))
                    go_step3
                    go_wp2
                    (try simp only [Exit.jump]); exact bodyPost_ret (v := .tuple #[.agg ([.int .i64 0, .bool false, .int .u8 0, .int .u8 0, .int .u8 0, .int .u8 0, .int .u8 0, .int .u8 0, .int .u8 0, .int .u8 0, .int .u8 0, .int .u8 0, .int .u8 0, .int .u8 0, .int .u8 0, .int .u8 0, .int .u8 0, .int .u8 0, .int .i64 0, .bool false, .int .u8 0, .int .u8 0, .int .u8 0, .int .u8 0, .int .u8 0, .int .u8 0, .int .u8 0, .int .u8 0, .int .u8 0, .int .u8 0, .int .u8 0, .int .u8 0, .int .u8 0, .int .u8 0, .int .u8 0, .int .u8 0, .int .i64 0, .int .i64 0, .int .i64 0, .int .i64 0] : List Value).toArray, (.iface 133 (.pointer (some (eA 4))))]) (by simp [results, Tryd.results11, go_sem, lld10]) rfl ⟨⟨_, rfl, HEI.out 4 (by decide)⟩, HB10.out⟩
                  · replace hR : R = 0 := hR
                    subst hR
                    replace hH := hH.trans (if_pos rfl)
                    subst hH
                    have hsl : (hdA H).toList = H.cells := rfl
                    have hsz : (hdA H).size = 40 := Hd.len H
                    go_wp2_with (first
                      | (go_at_call 27; ((with_reducible refine KM2.out.mono ?_); rintro e w2 ⟨rfl, hk, hb, hz⟩; have hc0 := hk.vals.1; have hc38 := hk.vals.2.2.2.2.2.1; have HKB := Lib.hid hk; have HB2 := Lib.hid hb; have HK2 := Lib.hid hz; clear hk hb hz))
                      | (go_at_call 28; ((with_reducible refine (KP2.out _).mono ?_); rintro e w3 ⟨rfl, rfl⟩))
                      | (go_at_call 29; ((with_reducible refine (KT0.out _ (HZ.out _ HB2.out)).mono ?_); rintro e w4 ⟨rfl, n1, rfl⟩))
                      | (go_at_call 29; ((with_reducible refine (KT2.out _ (HZ.out _ (below_drewN HB2.out n1))).mono ?_); rintro e w5 ⟨rfl, n2, rfl⟩; obtain ⟨w6, w7, s6, s7, k7, a7⟩ := HST.out (w2.drewN (n1 + n2)) (Blk.drewN HKB.out (n1 + n2)); have HB7 : Hid (Below w.heap.size w w7) := Lib.hid (below_alt (below_drewN HB2.out (n1 + n2)) a7 HB2.out.size (fun k hk => by omega)); have HZ7 : Hid (Blk w.heap.size hd0.cells 31 w7) := Lib.hid ((Blk.drewN HK2.out (n1 + n2)).alt a7 (by omega)); have HK7 := Lib.hid k7; clear k7 a7))
                      | (go_at_call 30; ((with_reducible refine (KO.out _ HK7.out HB7.out).mono ?_); rintro e w8 ⟨rfl, hg, ha⟩; have hz8 := HZ7.out.alt ha (by omega); have HB8 : Hid (Below w.heap.size w w8) := Lib.hid (below_alt HB7.out ha HB7.out.size (fun k hk => by omega)); have HG8 := Lib.hid hg; have c18 := hg.vals.2.2.1; have c36 := hg.vals.2.2.2.1; have HZ8 := Lib.hid hz8; have sst8 := HSST.out _ hz8; have lld8 := HLLD.out _ hz8; have e4 : w8.cell? ⟨1, 0, none⟩ = some (.iface 133 (.pointer (some (eA 3)))) := HEC.out _ HB8.out 3 (by decide); have e5 : w8.cell? ⟨4, 0, none⟩ = some (.iface 133 (.pointer (some (eA 4)))) := HEC.out _ HB8.out 4 (by decide); clear ha hz8 hg))
                      | (go_at_call 31; ((with_reducible refine (KR0.out _).mono ?_); rintro e w9 ⟨rfl, rfl⟩))
                      | (go_at_call 31; ((with_reducible refine (KR2.out _).mono ?_); rintro e w9 ⟨rfl, rfl⟩))
                      | (go_at_call 32; ((with_reducible refine (KS.out _ HG8.out HB8.out).mono ?_); rintro e w10 ⟨rfl, hb10⟩; have hb10' := below_then HB8.out hb10 HB8.out.size; have HB10 : Hid (Below w.heap.size w w10) := Lib.hid hb10'; have hz10 := HZ8.out.below hb10; have hg10 := Blk.below HG8.out hb10; obtain ⟨hldg, w11, s11, lld11, a11⟩ := give_out w.heap.size (w.heap.size + 1) H 31 w10 hz10 hg10; have HB11 : Hid (Below w.heap.size w w11) := Lib.hid (below_alt hb10' a11 hb10'.size (fun k hk => by omega)); clear a11; clear hb10 hb10' hz10 hg10)))
                    (try simp only [Exit.jump])
                    exact bodyPost_ret (v := .tuple #[.agg (hdA H), .nilIface]) (by simp [results, Tryd.results11, go_sem, lld11]) rfl ⟨⟨_, rfl, .inl ⟨rfl, rfl⟩⟩, HB11.out⟩
        · have KP2 : Hid (∀ W, Calls Tryd.prog 28 #[.int .i64 17] W fun e w' => e = .returned (.bool true) ∧ W = w') := Lib.hid (fun W => h6 ▸ KP.out W)
          by_cases hsh : n < 8
          · have hR2 : partR h q = 2 := by unfold partR; rw [h6, hql]; exact if_pos hsh
            replace hR := hR.trans hR2
            subst hR
            replace hH := hH.trans (if_neg (by decide))
            subst hH
            have hsh' : (n : Int) < 8 := by omega
            clear hsh hR2 hql
            go_wp2_with (first
              | (go_at_call 27; ((with_reducible refine KM2.out.mono ?_); rintro e w2 ⟨rfl, hk, hb, hz⟩; have hc0 := hk.vals.1; have hc38 := hk.vals.2.2.2.2.2.1; have e1 : w2.cell? ⟨0, 0, none⟩ = some (.iface 133 (.pointer (some (eA 1)))) := HEC.out _ hb 1 (by decide); have HB2 := Lib.hid hb; have HK2 := Lib.hid hz; have sst2 := HSST.out _ hz; have lld2 := HLLD.out _ hz; clear hk hb hz))
              | (go_at_call 28; ((with_reducible refine (KP2.out _).mono ?_); rintro e w3 ⟨rfl, rfl⟩)))
            go_step3
            refine ⟨rfl, ?_⟩
            change Code.wp _ _ _ _ _
            go_wp2
            (try simp only [Exit.jump]); exact bodyPost_ret (v := .tuple #[.agg ([.int .i64 0, .bool false, .int .u8 0, .int .u8 0, .int .u8 0, .int .u8 0, .int .u8 0, .int .u8 0, .int .u8 0, .int .u8 0, .int .u8 0, .int .u8 0, .int .u8 0, .int .u8 0, .int .u8 0, .int .u8 0, .int .u8 0, .int .u8 0, .int .i64 0, .bool false, .int .u8 0, .int .u8 0, .int .u8 0, .int .u8 0, .int .u8 0, .int .u8 0, .int .u8 0, .int .u8 0, .int .u8 0, .int .u8 0, .int .u8 0, .int .u8 0, .int .u8 0, .int .u8 0, .int .u8 0, .int .u8 0, .int .i64 0, .int .i64 0, .int .i64 0, .int .i64 0] : List Value).toArray, (.iface 133 (.pointer (some (eA 1))))]) (by simp [results, Tryd.results11, go_sem, lld2]) rfl ⟨⟨_, rfl, HEI.out 1 (by decide)⟩, HB2.out⟩
          · have hR2 := partR_long h q n 8 (by rw [h6]; rfl) hql hsh
            replace hR := hR.trans hR2
            have hn8 : 8 ≤ q.length := by omega
            have KT0 := Lib.hid (fun W hv => two_calls (.slice A1 n (c - p)) q 0 0 W hv rfl (by omega) (by omega))
            have KT2 := Lib.hid (fun W hv => two_calls (.slice A1 n (c - p)) q 2 2 W hv rfl (by omega) (by omega))
            have HST := Lib.hid (ports_store (w.heap.size + 1) h 31 q)
            have hsh' : (8 : Int) ≤ (n : Int) := by omega
            by_cases hown : ownR h q ≠ 0
            · replace hR := hR.trans (if_pos hown)
              subst hR
              replace hH := hH.trans (if_neg hown)
              subst hH
              have KO : Hid (∀ W, HBlk (w.heap.size + 1) (ptsH h q) 31 W → Below w.heap.size w W → Calls Tryd.prog 30 #[.pointer (some ⟨w.heap.size + 1, 0, none⟩), .slice A1 n (c - p)] W fun e w' => ∃ ek, e = .returned (.iface 133 (.pointer (some ek))) ∧ ErrIs es (ownR h q) (.iface 133 (.pointer (some ek))) ∧ Alt (fun k => k = w.heap.size + 1) W w') := Lib.hid (fun W hk hb => by
                refine (own_calls _ (ptsH h q) 31 _ q W es (HES.out _ hb) hk (HZ.out _ hb) (fun e => by have e2 : h.pr = 6 := e; omega) hn8 (by omega) (by show (0 : Int) ≤ h.pt; omega) (by show h.pt ≤ 1000000; omega)).mono ?_
                rintro e w' ⟨u, rfl, hu, _, ha⟩
                rcases hu with ⟨e, _⟩ | ⟨k, hk2, hr2, rfl⟩
                · exact absurd e hown
                · exact ⟨_, rfl, .inr ⟨k, hk2, hr2, rfl⟩, ha⟩)
              clear hsh hR2 hql hown hn8
              go_wp2_with (first
                | (go_at_call 27; ((with_reducible refine KM2.out.mono ?_); rintro e w2 ⟨rfl, hk, hb, hz⟩; have hc0 := hk.vals.1; have hc38 := hk.vals.2.2.2.2.2.1; have HKB := Lib.hid hk; have HB2 := Lib.hid hb; have HK2 := Lib.hid hz; clear hk hb hz))
                | (go_at_call 28; ((with_reducible refine (KP2.out _).mono ?_); rintro e w3 ⟨rfl, rfl⟩))
                | (go_at_call 29; ((with_reducible refine (KT0.out _ (HZ.out _ HB2.out)).mono ?_); rintro e w4 ⟨rfl, n1, rfl⟩))
                | (go_at_call 29; ((with_reducible refine (KT2.out _ (HZ.out _ (below_drewN HB2.out n1))).mono ?_); rintro e w5 ⟨rfl, n2, rfl⟩; obtain ⟨w6, w7, s6, s7, k7, a7⟩ := HST.out (w2.drewN (n1 + n2)) (Blk.drewN HKB.out (n1 + n2)); have HB7 : Hid (Below w.heap.size w w7) := Lib.hid (below_alt (below_drewN HB2.out (n1 + n2)) a7 HB2.out.size (fun k hk => by omega)); have HZ7 : Hid (Blk w.heap.size hd0.cells 31 w7) := Lib.hid ((Blk.drewN HK2.out (n1 + n2)).alt a7 (by omega)); have HK7 := Lib.hid k7; clear k7 a7))
                | (go_at_call 30; ((with_reducible refine (KO.out _ HK7.out HB7.out).mono ?_); rintro e w8 ⟨ek, rfl, hu, ha⟩; have hz8 := HZ7.out.alt ha (by omega); have HB8 : Hid (Below w.heap.size w w8) := Lib.hid (below_alt HB7.out ha HB7.out.size (fun k hk => by omega)); have HU := Lib.hid hu; have sst8 := HSST.out _ hz8; have lld8 := HLLD.out _ hz8; clear hu ha hz8)))
              go_step3
              refine ⟨rfl, ?_⟩
              change Code.wp _ _ _ _ _
              go_wp2
              (try simp only [Exit.jump]); exact bodyPost_ret (v := .tuple #[.agg ([.int .i64 0, .bool false, .int .u8 0, .int .u8 0, .int .u8 0, .int .u8 0, .int .u8 0, .int .u8 0, .int .u8 0, .int .u8 0, .int .u8 0, .int .u8 0, .int .u8 0, .int .u8 0, .int .u8 0, .int .u8 0, .int .u8 0, .int .u8 0, .int .i64 0, .bool false, .int .u8 0, .int .u8 0, .int .u8 0, .int .u8 0, .int .u8 0, .int .u8 0, .int .u8 0, .int .u8 0, .int .u8 0, .int .u8 0, .int .u8 0, .int .u8 0, .int .u8 0, .int .u8 0, .int .u8 0, .int .u8 0, .int .i64 0, .int .i64 0, .int .i64 0, .int .i64 0] : List Value).toArray, (.iface 133 (.pointer (some ek)))]) (by simp [results, Tryd.results11, go_sem, lld8]) rfl ⟨⟨_, rfl, HU.out⟩, HB8.out⟩
            · replace hR := hR.trans (if_neg hown)
              have ho0 : ownR h q = 0 := by omega
              obtain ⟨hsp, hdp⟩ := own_sp h q
              have KO : Hid (∀ W, HBlk (w.heap.size + 1) (ptsH h q) 31 W → Below w.heap.size w W → Calls Tryd.prog 30 #[.pointer (some ⟨w.heap.size + 1, 0, none⟩), .slice A1 n (c - p)] W fun e w' => e = .returned .nilIface ∧ HBlk (w.heap.size + 1) (ownH (ptsH h q) q) 31 w' ∧ Alt (fun k => k = w.heap.size + 1) W w') := Lib.hid (fun W hk hb => by
                refine (own_calls _ (ptsH h q) 31 _ q W es (HES.out _ hb) hk (HZ.out _ hb) (fun e => by have e2 : h.pr = 6 := e; omega) hn8 (by omega) (by show (0 : Int) ≤ h.pt; omega) (by show h.pt ≤ 1000000; omega)).mono ?_
                rintro e w' ⟨u, rfl, hu, hk, ha⟩
                rcases hu with ⟨_, rfl⟩ | ⟨k, hk2, hr2, rfl⟩
                · exact ⟨rfl, hk ho0, ha⟩
                · have e3 : ownR (ptsH h q) q = ownR h q := rfl
                  omega)
              generalize ownH (ptsH h q) q = g at KO hsp hdp hR hH
              clear hsh hR2 hown hn8 ho0
              by_cases hq0 : twoN q 0 = 0
              · replace hR := hR.trans (if_pos (.inl hq0))
                subst hR
                replace hH := hH.trans (if_neg (by decide))
                subst hH
                have KR0 : Hid (∀ W, Calls Tryd.prog 31 #[.int .i64 (twoN q 0 : Int)] W fun e w' => e = .returned (.bool false) ∧ W = w') := Lib.hid (fun W => by
                  have := righth_calls (twoN q 0) (twoN_lt q 0) W
                  rw [decide_eq_false (fun e => e hq0)] at this
                  exact this)
                clear hql
                generalize twoN q 0 = f0 at KT0 hsp KR0 HST hq0
                clear hq0
                go_wp2_with (first
                  | (go_at_call 27; ((with_reducible refine KM2.out.mono ?_); rintro e w2 ⟨rfl, hk, hb, hz⟩; have hc0 := hk.vals.1; have hc38 := hk.vals.2.2.2.2.2.1; have HKB := Lib.hid hk; have HB2 := Lib.hid hb; have HK2 := Lib.hid hz; clear hk hb hz))
                  | (go_at_call 28; ((with_reducible refine (KP2.out _).mono ?_); rintro e w3 ⟨rfl, rfl⟩))
                  | (go_at_call 29; ((with_reducible refine (KT0.out _ (HZ.out _ HB2.out)).mono ?_); rintro e w4 ⟨rfl, n1, rfl⟩))
                  | (go_at_call 29; ((with_reducible refine (KT2.out _ (HZ.out _ (below_drewN HB2.out n1))).mono ?_); rintro e w5 ⟨rfl, n2, rfl⟩; obtain ⟨w6, w7, s6, s7, k7, a7⟩ := HST.out (w2.drewN (n1 + n2)) (Blk.drewN HKB.out (n1 + n2)); have HB7 : Hid (Below w.heap.size w w7) := Lib.hid (below_alt (below_drewN HB2.out (n1 + n2)) a7 HB2.out.size (fun k hk => by omega)); have HZ7 : Hid (Blk w.heap.size hd0.cells 31 w7) := Lib.hid ((Blk.drewN HK2.out (n1 + n2)).alt a7 (by omega)); have HK7 := Lib.hid k7; clear k7 a7))
                  | (go_at_call 30; ((with_reducible refine (KO.out _ HK7.out HB7.out).mono ?_); rintro e w8 ⟨rfl, hg, ha⟩; have hz8 := HZ7.out.alt ha (by omega); have HB8 : Hid (Below w.heap.size w w8) := Lib.hid (below_alt HB7.out ha HB7.out.size (fun k hk => by omega)); have HG8 := Lib.hid hg; have c18 := hg.vals.2.2.1; have c36 := hg.vals.2.2.2.1; have HZ8 := Lib.hid hz8; have sst8 := HSST.out _ hz8; have lld8 := HLLD.out _ hz8; have e4 : w8.cell? ⟨1, 0, none⟩ = some (.iface 133 (.pointer (some (eA 3)))) := HEC.out _ HB8.out 3 (by decide); have e5 : w8.cell? ⟨4, 0, none⟩ = some (.iface 133 (.pointer (some (eA 4)))) := HEC.out _ HB8.out 4 (by decide); clear ha hz8 hg))
                  | (go_at_call 31; ((with_reducible refine (KR0.out _).mono ?_); rintro e w9 ⟨rfl, rfl⟩))
                  | (go_at_call 31; ((with_reducible refine (KR2.out _).mono ?_); rintro e w9 ⟨rfl, rfl⟩)))
                go_step3
                refine ⟨rfl, ?_⟩
                change Code.wp _ _ _ _ _
                go_wp2
                (try simp only [Exit.jump]); exact bodyPost_ret (v := .tuple #[.agg ([.int .i64 0, .bool false, .int .u8 0, .int .u8 0, .int .u8 0, .int .u8 0, .int .u8 0, .int .u8 0, .int .u8 0, .int .u8 0, .int .u8 0, .int .u8 0, .int .u8 0, .int .u8 0, .int .u8 0, .int .u8 0, .int .u8 0, .int .u8 0, .int .i64 0, .bool false, .int .u8 0, .int .u8 0, .int .u8 0, .int .u8 0, .int .u8 0, .int .u8 0, .int .u8 0, .int .u8 0, .int .u8 0, .int .u8 0, .int .u8 0, .int .u8 0, .int .u8 0, .int .u8 0, .int .u8 0, .int .u8 0, .int .i64 0, .int .i64 0, .int .i64 0, .int .i64 0] : List Value).toArray, (.iface 133 (.pointer (some (eA 3))))]) (by simp [results, Tryd.results11, go_sem, lld8]) rfl ⟨⟨_, rfl, HEI.out 3 (by decide)⟩, HB8.out⟩
              · by_cases hq2 : twoN q 2 = 0
                · replace hR := hR.trans (if_pos (.inr hq2))
                  subst hR
                  replace hH := hH.trans (if_neg (by decide))
                  subst hH
                  have KR0 : Hid (∀ W, Calls Tryd.prog 31 #[.int .i64 (twoN q 0 : Int)] W fun e w' => e = .returned (.bool true) ∧ W = w') := Lib.hid (fun W => by
                    have := righth_calls (twoN q 0) (twoN_lt q 0) W
                    rw [decide_eq_true hq0] at this
                    exact this)
                  have KR2 : Hid (∀ W, Calls Tryd.prog 31 #[.int .i64 (twoN q 2 : Int)] W fun e w' => e = .returned (.bool false) ∧ W = w') := Lib.hid (fun W => by
                    have := righth_calls (twoN q 2) (twoN_lt q 2) W
                    rw [decide_eq_false (fun e => e hq2)] at this
                    exact this)
                  clear hql
                  generalize twoN q 0 = f0 at KT0 hsp KR0 HST hq0
                  generalize twoN q 2 = f2 at KT2 hdp KR2 HST hq2
                  clear hq0 hq2
                  go_wp2_with (first
                    | (go_at_call 27; ((with_reducible refine KM2.out.mono ?_); rintro e w2 ⟨rfl, hk, hb, hz⟩; have hc0 := hk.vals.1; have hc38 := hk.vals.2.2.2.2.2.1; have HKB := Lib.hid hk; have HB2 := Lib.hid hb; have HK2 := Lib.hid hz; clear hk hb hz))
                    | (go_at_call 28; ((with_reducible refine (KP2.out _).mono ?_); rintro e w3 ⟨rfl, rfl⟩))
                    | (go_at_call 29; ((with_reducible refine (KT0.out _ (HZ.out _ HB2.out)).mono ?_); rintro e w4 ⟨rfl, n1, rfl⟩))
                    | (go_at_call 29; ((with_reducible refine (KT2.out _ (HZ.out _ (below_drewN HB2.out n1))).mono ?_); rintro e w5 ⟨rfl, n2, rfl⟩; obtain ⟨w6, w7, s6, s7, k7, a7⟩ := HST.out (w2.drewN (n1 + n2)) (Blk.drewN HKB.out (n1 + n2)); have HB7 : Hid (Below w.heap.size w w7) := Lib.hid (below_alt (below_drewN HB2.out (n1 + n2)) a7 HB2.out.size (fun k hk => by omega)); have HZ7 : Hid (Blk w.heap.size hd0.cells 31 w7) := Lib.hid ((Blk.drewN HK2.out (n1 + n2)).alt a7 (by omega)); have HK7 := Lib.hid k7; clear k7 a7))
                    | (go_at_call 30; ((with_reducible refine (KO.out _ HK7.out HB7.out).mono ?_); rintro e w8 ⟨rfl, hg, ha⟩; have hz8 := HZ7.out.alt ha (by omega); have HB8 : Hid (Below w.heap.size w w8) := Lib.hid (below_alt HB7.out ha HB7.out.size (fun k hk => by omega)); have HG8 := Lib.hid hg; have c18 := hg.vals.2.2.1; have c36 := hg.vals.2.2.2.1; have HZ8 := Lib.hid hz8; have sst8 := HSST.out _ hz8; have lld8 := HLLD.out _ hz8; have e4 : w8.cell? ⟨1, 0, none⟩ = some (.iface 133 (.pointer (some (eA 3)))) := HEC.out _ HB8.out 3 (by decide); have e5 : w8.cell? ⟨4, 0, none⟩ = some (.iface 133 (.pointer (some (eA 4)))) := HEC.out _ HB8.out 4 (by decide); clear ha hz8 hg))
                    | (go_at_call 31; ((with_reducible refine (KR0.out _).mono ?_); rintro e w9 ⟨rfl, rfl⟩))
                    | (go_at_call 31; ((with_reducible refine (KR2.out _).mono ?_); rintro e w9 ⟨rfl, rfl⟩)))
                  go_step3
                  refine ⟨rfl, ?_⟩
                  change Code.wp _ _ _ _ _
                  go_wp2
                  (try simp only [Exit.jump]); exact bodyPost_ret (v := .tuple #[.agg ([.int .i64 0, .bool false, .int .u8 0, .int .u8 0, .int .u8 0, .int .u8 0, .int .u8 0, .int .u8 0, .int .u8 0, .int .u8 0, .int .u8 0, .int .u8 0, .int .u8 0, .int .u8 0, .int .u8 0, .int .u8 0, .int .u8 0, .int .u8 0, .int .i64 0, .bool false, .int .u8 0, .int .u8 0, .int .u8 0, .int .u8 0, .int .u8 0, .int .u8 0, .int .u8 0, .int .u8 0, .int .u8 0, .int .u8 0, .int .u8 0, .int .u8 0, .int .u8 0, .int .u8 0, .int .u8 0, .int .u8 0, .int .i64 0, .int .i64 0, .int .i64 0, .int .i64 0] : List Value).toArray, (.iface 133 (.pointer (some (eA 3))))]) (by simp [results, Tryd.results11, go_sem, lld8]) rfl ⟨⟨_, rfl, HEI.out 3 (by decide)⟩, HB8.out⟩
                · replace hR := hR.trans (if_neg (fun e => e.elim hq0 hq2))
                  have KR0 : Hid (∀ W, Calls Tryd.prog 31 #[.int .i64 (twoN q 0 : Int)] W fun e w' => e = .returned (.bool true) ∧ W = w') := Lib.hid (fun W => by
                    have := righth_calls (twoN q 0) (twoN_lt q 0) W
                    rw [decide_eq_true hq0] at this
                    exact this)
                  have KR2 : Hid (∀ W, Calls Tryd.prog 31 #[.int .i64 (twoN q 2 : Int)] W fun e w' => e = .returned (.bool true) ∧ W = w') := Lib.hid (fun W => by
                    have := righth_calls (twoN q 2) (twoN_lt q 2) W
                    rw [decide_eq_true hq2] at this
                    exact this)
                  have KS : Hid (∀ W, HBlk (w.heap.size + 1) g 31 W → Below w.heap.size w W → Calls Tryd.prog 32 #[.pointer (some ⟨w.heap.size + 1, 0, none⟩), .slice A1 n (c - p)] W fun e w' => e = .returned (.bool (sumB g q)) ∧ Below W.heap.size W w') := Lib.hid (fun W hk hb => summed_calls _ g 31 _ q W hk (HZ.out _ hb) (by omega) (by omega))
                  generalize sumB g q = sb at KS hR
                  generalize twoN q 0 = f0 at KT0 hsp KR0 HST hq0
                  generalize twoN q 2 = f2 at KT2 hdp KR2 HST hq2
                  clear hq0 hq2 hql
                  cases sb
                  · replace hR : R = 5 := hR
                    subst hR
                    replace hH := hH.trans (if_neg (by decide))
                    subst hH
                    go_wp2_with (first
                      | (go_at_call 27; ((with_reducible refine KM2.out.mono ?_); rintro e w2 ⟨rfl, hk, hb, hz⟩; have hc0 := hk.vals.1; have hc38 := hk.vals.2.2.2.2.2.1; have HKB := Lib.hid hk; have HB2 := Lib.hid hb; have HK2 := Lib.hid hz; clear hk hb hz))
                      | (go_at_call 28; ((with_reducible refine (KP2.out _).mono ?_); rintro e w3 ⟨rfl, rfl⟩))
                      | (go_at_call 29; ((with_reducible refine (KT0.out _ (HZ.out _ HB2.out)).mono ?_); rintro e w4 ⟨rfl, n1, rfl⟩))
                      | (go_at_call 29; ((with_reducible refine (KT2.out _ (HZ.out _ (below_drewN HB2.out n1))).mono ?_); rintro e w5 ⟨rfl, n2, rfl⟩; obtain ⟨w6, w7, s6, s7, k7, a7⟩ := HST.out (w2.drewN (n1 + n2)) (Blk.drewN HKB.out (n1 + n2)); have HB7 : Hid (Below w.heap.size w w7) := Lib.hid (below_alt (below_drewN HB2.out (n1 + n2)) a7 HB2.out.size (fun k hk => by omega)); have HZ7 : Hid (Blk w.heap.size hd0.cells 31 w7) := Lib.hid ((Blk.drewN HK2.out (n1 + n2)).alt a7 (by omega)); have HK7 := Lib.hid k7; clear k7 a7))
                      | (go_at_call 30; ((with_reducible refine (KO.out _ HK7.out HB7.out).mono ?_); rintro e w8 ⟨rfl, hg, ha⟩; have hz8 := HZ7.out.alt ha (by omega); have HB8 : Hid (Below w.heap.size w w8) := Lib.hid (below_alt HB7.out ha HB7.out.size (fun k hk => by omega)); have HG8 := Lib.hid hg; have c18 := hg.vals.2.2.1; have c36 := hg.vals.2.2.2.1; have HZ8 := Lib.hid hz8; have sst8 := HSST.out _ hz8; have lld8 := HLLD.out _ hz8; have e4 : w8.cell? ⟨1, 0, none⟩ = some (.iface 133 (.pointer (some (eA 3)))) := HEC.out _ HB8.out 3 (by decide); have e5 : w8.cell? ⟨4, 0, none⟩ = some (.iface 133 (.pointer (some (eA 4)))) := HEC.out _ HB8.out 4 (by decide); clear ha hz8 hg))
                      | (go_at_call 31; ((with_reducible refine (KR0.out _).mono ?_); rintro e w9 ⟨rfl, rfl⟩))
                      | (go_at_call 31; ((with_reducible refine (KR2.out _).mono ?_); rintro e w9 ⟨rfl, rfl⟩))
                      | (go_at_call 32; ((with_reducible refine (KS.out _ HG8.out HB8.out).mono ?_); rintro e w10 ⟨rfl, hb10⟩; have hb10' := below_then HB8.out hb10 HB8.out.size; have HB10 : Hid (Below w.heap.size w w10) := Lib.hid hb10'; have hz10 := HZ8.out.below hb10; have hg10 := Blk.below HG8.out hb10; have sst10 := HSST.out _ hz10; have lld10 := HLLD.out _ hz10; have e6 : w10.cell? ⟨4, 0, none⟩ = some (.iface 133 (.pointer (some (eA 4)))) := HEC.out _ hb10' 4 (by decide); clear hb10 hb10' hz10 hg10)))
                    go_step3
                    go_wp2
                    (try simp only [Exit.jump]); exact bodyPost_ret (v := .tuple #[.agg ([.int .i64 0, .bool false, .int .u8 0, .int .u8 0, .int .u8 0, .int .u8 0, .int .u8 0, .int .u8 0, .int .u8 0, .int .u8 0, .int .u8 0, .int .u8 0, .int .u8 0, .int .u8 0, .int .u8 0, .int .u8 0, .int .u8 0, .int .u8 0, .int .i64 0, .bool false, .int .u8 0, .int .u8 0, .int .u8 0, .int .u8 0, .int .u8 0, .int .u8 0, .int .u8 0, .int .u8 0, .int .u8 0, .int .u8 0, .int .u8 0, .int .u8 0, .int .u8 0, .int .u8 0, .int .u8 0, .int .u8 0, .int .i64 0, .int .i64 0, .int .i64 0, .int .i64 0] : List Value).toArray, (.iface 133 (.pointer (some (eA 4))))]) (by simp [results, Tryd.results11, go_sem, lld10]) rfl ⟨⟨_, rfl, HEI.out 4 (by decide)⟩, HB10.out⟩
                  · replace hR : R = 0 := hR
                    subst hR
                    replace hH := hH.trans (if_pos rfl)
                    subst hH
                    have hsl : (hdA H).toList = H.cells := rfl
                    have hsz : (hdA H).size = 40 := Hd.len H
                    go_wp2_with (first
                      | (go_at_call 27; ((with_reducible refine KM2.out.mono ?_); rintro e w2 ⟨rfl, hk, hb, hz⟩; have hc0 := hk.vals.1; have hc38 := hk.vals.2.2.2.2.2.1; have HKB := Lib.hid hk; have HB2 := Lib.hid hb; have HK2 := Lib.hid hz; clear hk hb hz))
                      | (go_at_call 28; ((with_reducible refine (KP2.out _).mono ?_); rintro e w3 ⟨rfl, rfl⟩))
                      | (go_at_call 29; ((with_reducible refine (KT0.out _ (HZ.out _ HB2.out)).mono ?_); rintro e w4 ⟨rfl, n1, rfl⟩))
                      | (go_at_call 29; ((with_reducible refine (KT2.out _ (HZ.out _ (below_drewN HB2.out n1))).mono ?_); rintro e w5 ⟨rfl, n2, rfl⟩; obtain ⟨w6, w7, s6, s7, k7, a7⟩ := HST.out (w2.drewN (n1 + n2)) (Blk.drewN HKB.out (n1 + n2)); have HB7 : Hid (Below w.heap.size w w7) := Lib.hid (below_alt (below_drewN HB2.out (n1 + n2)) a7 HB2.out.size (fun k hk => by omega)); have HZ7 : Hid (Blk w.heap.size hd0.cells 31 w7) := Lib.hid ((Blk.drewN HK2.out (n1 + n2)).alt a7 (by omega)); have HK7 := Lib.hid k7; clear k7 a7))
                      | (go_at_call 30; ((with_reducible refine (KO.out _ HK7.out HB7.out).mono ?_); rintro e w8 ⟨rfl, hg, ha⟩; have hz8 := HZ7.out.alt ha (by omega); have HB8 : Hid (Below w.heap.size w w8) := Lib.hid (below_alt HB7.out ha HB7.out.size (fun k hk => by omega)); have HG8 := Lib.hid hg; have c18 := hg.vals.2.2.1; have c36 := hg.vals.2.2.2.1; have HZ8 := Lib.hid hz8; have sst8 := HSST.out _ hz8; have lld8 := HLLD.out _ hz8; have e4 : w8.cell? ⟨1, 0, none⟩ = some (.iface 133 (.pointer (some (eA 3)))) := HEC.out _ HB8.out 3 (by decide); have e5 : w8.cell? ⟨4, 0, none⟩ = some (.iface 133 (.pointer (some (eA 4)))) := HEC.out _ HB8.out 4 (by decide); clear ha hz8 hg))
                      | (go_at_call 31; ((with_reducible refine (KR0.out _).mono ?_); rintro e w9 ⟨rfl, rfl⟩))
                      | (go_at_call 31; ((with_reducible refine (KR2.out _).mono ?_); rintro e w9 ⟨rfl, rfl⟩))
                      | (go_at_call 32; ((with_reducible refine (KS.out _ HG8.out HB8.out).mono ?_); rintro e w10 ⟨rfl, hb10⟩; have hb10' := below_then HB8.out hb10 HB8.out.size; have HB10 : Hid (Below w.heap.size w w10) := Lib.hid hb10'; have hz10 := HZ8.out.below hb10; have hg10 := Blk.below HG8.out hb10; obtain ⟨hldg, w11, s11, lld11, a11⟩ := give_out w.heap.size (w.heap.size + 1) H 31 w10 hz10 hg10; have HB11 : Hid (Below w.heap.size w w11) := Lib.hid (below_alt hb10' a11 hb10'.size (fun k hk => by omega)); clear a11; clear hb10 hb10' hz10 hg10)))
                    (try simp only [Exit.jump])
                    exact bodyPost_ret (v := .tuple #[.agg (hdA H), .nilIface]) (by simp [results, Tryd.results11, go_sem, lld11]) rfl ⟨⟨_, rfl, .inl ⟨rfl, rfl⟩⟩, HB11.out⟩
    · replace hR := hR.trans (if_pos hr0)
      subst hR
      replace hH := hH.trans (if_neg hr0)
      subst hH
      have KM2 := Lib.hid (Calls.mono KM (R' := fun e w' => ∃ ek, e = .returned (.iface 133 (.pointer (some ek))) ∧ ErrIs es R (.iface 133 (.pointer (some ek))) ∧ Below w.heap.size w w' ∧ Blk w.heap.size hd0.cells 31 w') (by
        rintro e w' ⟨u, rfl, hu, hk, hb, hz⟩
        rcases hu with ⟨e, _⟩ | ⟨k, hk2, hr2, rfl⟩
        · exact absurd e hr0
        · exact ⟨_, rfl, .inr ⟨k, hk2, hr2, rfl⟩, hb, hz⟩))
      clear KM hmp
      go_wp2_with (go_at_call 27; ((with_reducible refine KM2.out.mono ?_); rintro e w2 ⟨ek, rfl, hu, hb, hz⟩; have HU := Lib.hid hu; have HB2 := Lib.hid hb; have HK2 := Lib.hid hz; have sst2 := HSST.out _ hz; have lld2 := HLLD.out _ hz; clear hu hb hz))
      go_step3
      refine ⟨rfl, ?_⟩
      change Code.wp _ _ _ _ _
      go_wp2
      (try simp only [Exit.jump]); exact bodyPost_ret (v := .tuple #[.agg ([.int .i64 0, .bool false, .int .u8 0, .int .u8 0, .int .u8 0, .int .u8 0, .int .u8 0, .int .u8 0, .int .u8 0, .int .u8 0, .int .u8 0, .int .u8 0, .int .u8 0, .int .u8 0, .int .u8 0, .int .u8 0, .int .u8 0, .int .u8 0, .int .i64 0, .bool false, .int .u8 0, .int .u8 0, .int .u8 0, .int .u8 0, .int .u8 0, .int .u8 0, .int .u8 0, .int .u8 0, .int .u8 0, .int .u8 0, .int .u8 0, .int .u8 0, .int .u8 0, .int .u8 0, .int .u8 0, .int .u8 0, .int .i64 0, .int .i64 0, .int .i64 0, .int .i64 0] : List Value).toArray, (.iface 133 (.pointer (some ek)))]) (by simp [results, Tryd.results11, go_sem, lld2]) rfl ⟨⟨_, rfl, HU.out⟩, HB2.out⟩
end Go.Proofs.YtfoehgcamkmooaaDoor.Head
