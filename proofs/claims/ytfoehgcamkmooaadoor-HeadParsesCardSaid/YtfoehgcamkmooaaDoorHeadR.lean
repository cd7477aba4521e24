/- linkboyref28.Parse. -/
import Derived.Test.YtfoehgcamkmooaaDoorHeadK
import Derived.Deep.DeepCutAuto
namespace Go.Proofs.YtfoehgcamkmooaaDoor.Head
open Go.RowKit Go.Proofs.YtfoehgcamkmooaaDoor.Mem Go.Proofs.YtfoehgcamkmooaaDoor.Num Go.Proofs.YtfoehgcamkmooaaDoor.Err
open Go.Proofs.YtfoehgcamkmooaaDoor.Addr hiding below_allocd
open Go.Proofs.YtfoehgcamkmooaaDoor.Sums Go.Proofs.YtfoehgcamkmooaaDoor.SumsP Go.Proofs.YtfoehgcamkmooaaDoor.Pseudo
set_option linter.unusedVariables false
set_option linter.unusedSimpArgs false
set_option maxRecDepth 100000
attribute [-go_sem] Builtin.append_ loadCells loadCellsFrom storeCells
def tailC : Nat → Code → Code
  | 0, c => c
  | n + 1, .seq _ b => tailC n b
  | _ + 1, c => c
/-- The code behind the outer head. -/
noncomputable def restC : Code := tailC 8 (Tryd.f12.body.getD .skip)
/-- What stands behind the outer head: the result's block, none's block, the head's. -/
def RCut (w : World) (l : List UInt8) (W : World) : Prop := midR l = 0 ∧ Blk w.heap.size hd0.cells 36 W ∧ Blk (w.heap.size + 1) hd0.cells 36 W ∧ HBlk (w.heap.size + 2) (midH l) 36 W ∧ Below w.heap.size w W
theorem pt_store (b : Nat) (t : TypeId) (l : List UInt8) (z : Int) (hz : z = (ptN l : Int)) (W : World) (hW : HBlk b hd0 t W) : ∃ w1, (storeCells ⟨b, 38, none⟩ [.int .i64 z]).run Tryd.prog W = .ok () w1 ∧ HBlk b { hd0 with pt := (ptN l : Int) } t w1 ∧ Alt (fun k => k = b) W w1 := by
  subst hz
  obtain ⟨w1, s1, k1, a1⟩ := store_at (P := Tryd.prog) (off := 38) (vs := [.int .i64 (ptN l : Int)]) hW (by rw [Hd.len]; simp) (by intro u hu; rw [List.mem_singleton.1 hu]; rfl)
  rw [splice_one _ _ _ (by rw [Hd.len]; decide), (Hd.sets _ _).2.2.2.2.1] at k1
  exact ⟨w1, s1, k1, a1⟩
theorem four_store (b : Nat) (t : TypeId) (l : List UInt8) (W : World) (hW : HBlk b { hd0 with pt := (ptN l : Int) } t W) : ∃ w2 w3 w4, (storeCells ⟨b, 0, none⟩ [.int .i64 ((l.getD 9 0).toNat : Int)]).run Tryd.prog W = .ok () w2 ∧ (storeCells ⟨b, 1, none⟩ (adCells false (pad ((l.take 16).drop 12)))).run Tryd.prog w2 = .ok () w3 ∧ (storeCells ⟨b, 19, none⟩ (adCells false (pad ((l.take 20).drop 16)))).run Tryd.prog w3 = .ok () w4 ∧ HBlk b (fourH hd0 l) t w4 ∧ Alt (fun k => k = b) W w4 := by
  obtain ⟨w2, s2, k2, a2⟩ := store_at (P := Tryd.prog) (off := 0) (vs := [.int .i64 ((l.getD 9 0).toNat : Int)]) hW (by rw [Hd.len]; simp) (by intro u hu; rw [List.mem_singleton.1 hu]; rfl)
  rw [splice_one _ _ _ (by rw [Hd.len]; decide), (Hd.sets _ _).1] at k2
  obtain ⟨w3, s3, k3, a3⟩ := store_at (P := Tryd.prog) (off := 1) (vs := adCells false (pad ((l.take 16).drop 12))) k2 (by rw [Hd.len, adCells_len _ _ (pad_le _ _ _ (by decide))]; decide) (adCells_one _ _)
  rw [Hd.src _ false _ (pad_le _ _ _ (by decide))] at k3
  obtain ⟨w4, s4, k4, a4⟩ := store_at (P := Tryd.prog) (off := 19) (vs := adCells false (pad ((l.take 20).drop 16))) k3 (by rw [Hd.len, adCells_len _ _ (pad_le _ _ _ (by decide))]; decide) (adCells_one _ _)
  rw [Hd.dst _ false _ (pad_le _ _ _ (by decide))] at k4
  exact ⟨w2, w3, w4, s2, s3, s4, k4, (a2.trans a3).trans a4⟩
theorem six_store (b : Nat) (t : TypeId) (l : List UInt8) (W : World) (hW : HBlk b hd0 t W) : ∃ w1 w2 w3 w4, (storeCells ⟨b, 38, none⟩ [.int .i64 40]).run Tryd.prog W = .ok () w1 ∧ (storeCells ⟨b, 0, none⟩ [.int .i64 ((l.getD 6 0).toNat : Int)]).run Tryd.prog w1 = .ok () w2 ∧ (storeCells ⟨b, 1, none⟩ (adCells true (pad ((l.take 24).drop 8)))).run Tryd.prog w2 = .ok () w3 ∧ (storeCells ⟨b, 19, none⟩ (adCells true (pad ((l.take 40).drop 24)))).run Tryd.prog w3 = .ok () w4 ∧ HBlk b (sixH hd0 l) t w4 ∧ Alt (fun k => k = b) W w4 ∧ Alt (fun k => k = b) W w1 := by
  obtain ⟨w1, s1, k1, a1⟩ := store_at (P := Tryd.prog) (off := 38) (vs := [.int .i64 40]) hW (by rw [Hd.len]; simp) (by intro u hu; rw [List.mem_singleton.1 hu]; rfl)
  rw [splice_one _ _ _ (by rw [Hd.len]; decide), (Hd.sets _ _).2.2.2.2.1] at k1
  obtain ⟨w2, s2, k2, a2⟩ := store_at (P := Tryd.prog) (off := 0) (vs := [.int .i64 ((l.getD 6 0).toNat : Int)]) k1 (by rw [Hd.len]; simp) (by intro u hu; rw [List.mem_singleton.1 hu]; rfl)
  rw [splice_one _ _ _ (by rw [Hd.len]; decide), (Hd.sets _ _).1] at k2
  obtain ⟨w3, s3, k3, a3⟩ := store_at (P := Tryd.prog) (off := 1) (vs := adCells true (pad ((l.take 24).drop 8))) k2 (by rw [Hd.len, adCells_len _ _ (pad_le _ _ _ (by decide))]; decide) (adCells_one _ _)
  rw [Hd.src _ true _ (pad_le _ _ _ (by decide))] at k3
  obtain ⟨w4, s4, k4, a4⟩ := store_at (P := Tryd.prog) (off := 19) (vs := adCells true (pad ((l.take 40).drop 24))) k3 (by rw [Hd.len, adCells_len _ _ (pad_le _ _ _ (by decide))]; decide) (adCells_one _ _)
  rw [Hd.dst _ true _ (pad_le _ _ _ (by decide))] at k4
  exact ⟨w1, w2, w3, w4, s1, s2, s3, s4, k4, ((a1.trans a2).trans a3).trans a4, a1⟩
theorem out_bad (H : Hd) (R n : Nat) (hH : H = hd0) (hR : R = n) : Ending.returned (.tuple #[.agg ([.int .i64 0, .bool false, .int .u8 0, .int .u8 0, .int .u8 0, .int .u8 0, .int .u8 0, .int .u8 0, .int .u8 0, .int .u8 0, .int .u8 0, .int .u8 0, .int .u8 0, .int .u8 0, .int .u8 0, .int .u8 0, .int .u8 0, .int .u8 0, .int .i64 0, .bool false, .int .u8 0, .int .u8 0, .int .u8 0, .int .u8 0, .int .u8 0, .int .u8 0, .int .u8 0, .int .u8 0, .int .u8 0, .int .u8 0, .int .u8 0, .int .u8 0, .int .u8 0, .int .u8 0, .int .u8 0, .int .u8 0, .int .i64 0, .int .i64 0, .int .i64 0, .int .i64 0] : List Value).toArray, .int .i64 (n : Int)]) = .returned (.tuple #[.agg (hdA H), .int .i64 (R : Int)]) := by subst hH hR; rfl
theorem fl_store (b : Nat) (h : Hd) (t : TypeId) (z : Int) (W : World) (hW : HBlk b h t W) : ∃ w1, (storeCells ⟨b, 37, none⟩ [.int .i64 z]).run Tryd.prog W = .ok () w1 ∧ HBlk b { h with fl := z } t w1 ∧ Alt (fun k => k = b) W w1 := by
  obtain ⟨w1, s1, k1, a1⟩ := store_at (P := Tryd.prog) (off := 37) (vs := [.int .i64 z]) hW (by rw [Hd.len]; simp) (by intro u hu; rw [List.mem_singleton.1 hu]; rfl)
  rw [splice_one _ _ _ (by rw [Hd.len]; decide), (Hd.sets _ _).2.2.2.1] at k1
  exact ⟨w1, s1, k1, a1⟩
theorem bd_store (b : Nat) (h : Hd) (t : TypeId) (z : Int) (W : World) (hW : HBlk b h t W) : ∃ w1, (storeCells ⟨b, 39, none⟩ [.int .i64 z]).run Tryd.prog W = .ok () w1 ∧ HBlk b { h with bd := z } t w1 ∧ Alt (fun k => k = b) W w1 := by
  obtain ⟨w1, s1, k1, a1⟩ := store_at (P := Tryd.prog) (off := 39) (vs := [.int .i64 z]) hW (by rw [Hd.len]; simp) (by intro u hu; rw [List.mem_singleton.1 hu]; rfl)
  rw [splice_one _ _ _ (by rw [Hd.len]; decide), (Hd.sets _ _).2.2.2.2.2] at k1
  exact ⟨w1, s1, k1, a1⟩
theorem part_loads (b : Nat) (h : Hd) (t : TypeId) (W : World) (hW : HBlk b h t W) : (loadCells ⟨b, 1, none⟩ 17).run Tryd.prog W = .ok (adA h.s6 h.sb) W ∧ (loadCells ⟨b, 19, none⟩ 17).run Tryd.prog W = .ok (adA h.d6 h.db) W :=
  ⟨Blk.load hW 1 17 _ h.srcPart (adCells_len _ _ h.hs), Blk.load hW 19 17 _ h.dstPart (adCells_len _ _ h.hd)⟩
theorem midH_six (l : List UInt8) : (midH l).s6 = !decide (verN l = 4) := by
  unfold midH
  by_cases e : verN l = 4
  · rw [if_pos e, decide_eq_true e]; rfl
  · rw [if_neg e, decide_eq_false e]; rfl
theorem out_good (H : Hd) (R : Nat) (G : Hd) (hH : H = G) (hR : R = 0) : Ending.returned (.tuple #[.agg (hdA G), .int .i64 0]) = .returned (.tuple #[.agg (hdA H), .int .i64 (R : Int)]) := by subst hH hR; rfl
theorem sumB_eq (g : Hd) (q : List UInt8) (h : ¬ (g.pr = 17 ∧ twoN q 6 = 0)) : sumB g q = goodN (total (psL g q.length ++ q) : Nat) := by unfold sumB; rw [if_neg h]
theorem ownR6 (h : Hd) (q : List UInt8) (h6 : h.pr = 6) : ownR h q = if ownN q < 20 ∨ q.length < ownN q then 4 else 0 := by unfold ownR tcpR; rw [if_pos h6]
theorem ownR17 (h : Hd) (q : List UInt8) (h6 : h.pr = 17) : ownR h q = if twoN q 4 ≠ q.length then 4 else 0 := by unfold ownR udpR; rw [if_neg (by omega)]
theorem ownH6 (h : Hd) (q : List UInt8) (h6 : h.pr = 6) : ownH (ptsH h q) q = { { ptsH h q with fl := ((q.getD 13 0).toNat : Int) } with bd := h.pt + (ownN q : Int) } := by unfold ownH; rw [if_pos (show (ptsH h q).pr = 6 from h6)]; rfl
theorem ownH17 (h : Hd) (q : List UInt8) (h6 : h.pr = 17) : ownH (ptsH h q) q = { ptsH h q with bd := h.pt + 8 } := by unfold ownH; rw [if_neg (show ¬ (ptsH h q).pr = 6 by have e : (ptsH h q).pr = h.pr := rfl; omega)]; rfl
/-- Why a head with short addresses is of no right form. -/
theorem four_bad (l : List UInt8) (h2 : ptN l < 20 ∨ l.length < ptN l ∨ twoN l 2 ≠ l.length ∨ fragB (twoN l 6) = true) :
    (ptN l : Int) < 20 ∨ (¬ (ptN l : Int) < 20 ∧ (l.length : Int) < (ptN l : Int)) ∨ (¬ (ptN l : Int) < 20 ∧ (ptN l : Int) ≤ (l.length : Int) ∧ twoN l 2 ≠ l.length) ∨ (¬ (ptN l : Int) < 20 ∧ (ptN l : Int) ≤ (l.length : Int) ∧ twoN l 2 = l.length ∧ twoN l 6 ≠ 0 ∧ twoN l 6 ≠ 16384) := by
  by_cases q1 : ptN l < 20
  · exact .inl (by omega)
  · by_cases q2 : l.length < ptN l
    · exact .inr (.inl ⟨by omega, by omega⟩)
    · by_cases q3 : twoN l 2 = l.length
      · rcases h2 with h2 | h2 | h2 | h2
        · exact absurd h2 q1
        · exact absurd h2 q2
        · exact absurd q3 h2
        · rw [frag_law _ (twoN_lt l 6)] at h2
          have := of_decide_eq_true h2
          exact .inr (.inr (.inr ⟨by omega, by omega, q3, this.1, this.2⟩))
      · exact .inr (.inr (.inl ⟨by omega, by omega, q3⟩))
theorem four_good (l : List UInt8) (h2 : ¬ (ptN l < 20 ∨ l.length < ptN l ∨ twoN l 2 ≠ l.length ∨ fragB (twoN l 6) = true)) :
    ¬ (ptN l : Int) < 20 ∧ (ptN l : Int) ≤ (l.length : Int) ∧ twoN l 2 = l.length ∧ (twoN l 6 = 0 ∨ twoN l 6 = 16384) := by
  rw [frag_law _ (twoN_lt l 6)] at h2
  refine ⟨fun e => h2 (.inl (by omega)), ?_, ?_, ?_⟩
  · by_cases e : l.length < ptN l
    · exact absurd (.inr (.inl e)) h2
    · omega
  · by_cases e : twoN l 2 = l.length
    · exact e
    · exact absurd (.inr (.inr (.inl e))) h2
  · by_cases e : twoN l 6 ≠ 0 ∧ twoN l 6 ≠ 16384
    · exact absurd (.inr (.inr (.inr (decide_eq_true e)))) h2
    · omega

set_option maxHeartbeats 16000000 in
theorem refparse_early (v : Value) (l : List UInt8) (w : World) (hv : Row eU8 w v l) (hl : l.length ≤ 600) (hbad : l.length = 0 ∨ (verN l ≠ 4 ∧ verN l ≠ 6) ∨ 300 < l.length) :
    Calls Tryd.prog 12 #[v] w fun e w' => e = .returned (.tuple #[.agg (hdA (if parseR l = 0 then parseH l else hd0)), .int .i64 (parseR l : Int)]) ∧ Below w.heap.size w w' := by
  obtain ⟨A, c, rfl, hc, hm, hr⟩ := hv.parts
  have HRS : Hid (∀ W, Below w.heap.size w W → Row eU8 W (.slice A l.length c) l) := Lib.hid (fun W hW => hr.below hW)
  clear hv hr
  obtain ⟨H, hH⟩ : ∃ H, H = (if parseR l = 0 then parseH l else hd0) := ⟨_, rfl⟩
  obtain ⟨R, hR⟩ : ∃ R, R = parseR l := ⟨_, rfl⟩
  rw [← hH, ← hR]
  rw [← hR] at hH
  have z0 : Blk w.heap.size hd0.cells 36 ((w.alloc (.cells #[.int .i64 0, .bool false, .int .u8 0, .int .u8 0, .int .u8 0, .int .u8 0, .int .u8 0, .int .u8 0, .int .u8 0, .int .u8 0, .int .u8 0, .int .u8 0, .int .u8 0, .int .u8 0, .int .u8 0, .int .u8 0, .int .u8 0, .int .u8 0, .int .i64 0, .bool false, .int .u8 0, .int .u8 0, .int .u8 0, .int .u8 0, .int .u8 0, .int .u8 0, .int .u8 0, .int .u8 0, .int .u8 0, .int .u8 0, .int .u8 0, .int .u8 0, .int .u8 0, .int .u8 0, .int .u8 0, .int .u8 0, .int .i64 0, .int .i64 0, .int .i64 0, .int .i64 0] 36)).alloc (.cells #[.int .i64 0, .bool false, .int .u8 0, .int .u8 0, .int .u8 0, .int .u8 0, .int .u8 0, .int .u8 0, .int .u8 0, .int .u8 0, .int .u8 0, .int .u8 0, .int .u8 0, .int .u8 0, .int .u8 0, .int .u8 0, .int .u8 0, .int .u8 0, .int .i64 0, .bool false, .int .u8 0, .int .u8 0, .int .u8 0, .int .u8 0, .int .u8 0, .int .u8 0, .int .u8 0, .int .u8 0, .int .u8 0, .int .u8 0, .int .u8 0, .int .u8 0, .int .u8 0, .int .u8 0, .int .u8 0, .int .u8 0, .int .i64 0, .int .i64 0, .int .i64 0, .int .i64 0] 36)) := (Blk.new _ _ _ _ _ rfl rfl).alloc _
  have z1 : Blk (w.heap.size + 1) hd0.cells 36 ((w.alloc (.cells #[.int .i64 0, .bool false, .int .u8 0, .int .u8 0, .int .u8 0, .int .u8 0, .int .u8 0, .int .u8 0, .int .u8 0, .int .u8 0, .int .u8 0, .int .u8 0, .int .u8 0, .int .u8 0, .int .u8 0, .int .u8 0, .int .u8 0, .int .u8 0, .int .i64 0, .bool false, .int .u8 0, .int .u8 0, .int .u8 0, .int .u8 0, .int .u8 0, .int .u8 0, .int .u8 0, .int .u8 0, .int .u8 0, .int .u8 0, .int .u8 0, .int .u8 0, .int .u8 0, .int .u8 0, .int .u8 0, .int .u8 0, .int .i64 0, .int .i64 0, .int .i64 0, .int .i64 0] 36)).alloc (.cells #[.int .i64 0, .bool false, .int .u8 0, .int .u8 0, .int .u8 0, .int .u8 0, .int .u8 0, .int .u8 0, .int .u8 0, .int .u8 0, .int .u8 0, .int .u8 0, .int .u8 0, .int .u8 0, .int .u8 0, .int .u8 0, .int .u8 0, .int .u8 0, .int .i64 0, .bool false, .int .u8 0, .int .u8 0, .int .u8 0, .int .u8 0, .int .u8 0, .int .u8 0, .int .u8 0, .int .u8 0, .int .u8 0, .int .u8 0, .int .u8 0, .int .u8 0, .int .u8 0, .int .u8 0, .int .u8 0, .int .u8 0, .int .i64 0, .int .i64 0, .int .i64 0, .int .i64 0] 36)) := Blk.new _ _ _ _ _ rfl (by simp)
  have zb : Below w.heap.size w ((w.alloc (.cells #[.int .i64 0, .bool false, .int .u8 0, .int .u8 0, .int .u8 0, .int .u8 0, .int .u8 0, .int .u8 0, .int .u8 0, .int .u8 0, .int .u8 0, .int .u8 0, .int .u8 0, .int .u8 0, .int .u8 0, .int .u8 0, .int .u8 0, .int .u8 0, .int .i64 0, .bool false, .int .u8 0, .int .u8 0, .int .u8 0, .int .u8 0, .int .u8 0, .int .u8 0, .int .u8 0, .int .u8 0, .int .u8 0, .int .u8 0, .int .u8 0, .int .u8 0, .int .u8 0, .int .u8 0, .int .u8 0, .int .u8 0, .int .i64 0, .int .i64 0, .int .i64 0, .int .i64 0] 36)).alloc (.cells #[.int .i64 0, .bool false, .int .u8 0, .int .u8 0, .int .u8 0, .int .u8 0, .int .u8 0, .int .u8 0, .int .u8 0, .int .u8 0, .int .u8 0, .int .u8 0, .int .u8 0, .int .u8 0, .int .u8 0, .int .u8 0, .int .u8 0, .int .u8 0, .int .i64 0, .bool false, .int .u8 0, .int .u8 0, .int .u8 0, .int .u8 0, .int .u8 0, .int .u8 0, .int .u8 0, .int .u8 0, .int .u8 0, .int .u8 0, .int .u8 0, .int .u8 0, .int .u8 0, .int .u8 0, .int .u8 0, .int .u8 0, .int .i64 0, .int .i64 0, .int .i64 0, .int .i64 0] 36)) := ((Below.refl _ _).alloc (Nat.le_refl _) _).alloc (by simp) _
  have zs : ((w.alloc (.cells #[.int .i64 0, .bool false, .int .u8 0, .int .u8 0, .int .u8 0, .int .u8 0, .int .u8 0, .int .u8 0, .int .u8 0, .int .u8 0, .int .u8 0, .int .u8 0, .int .u8 0, .int .u8 0, .int .u8 0, .int .u8 0, .int .u8 0, .int .u8 0, .int .i64 0, .bool false, .int .u8 0, .int .u8 0, .int .u8 0, .int .u8 0, .int .u8 0, .int .u8 0, .int .u8 0, .int .u8 0, .int .u8 0, .int .u8 0, .int .u8 0, .int .u8 0, .int .u8 0, .int .u8 0, .int .u8 0, .int .u8 0, .int .i64 0, .int .i64 0, .int .i64 0, .int .i64 0] 36)).alloc (.cells #[.int .i64 0, .bool false, .int .u8 0, .int .u8 0, .int .u8 0, .int .u8 0, .int .u8 0, .int .u8 0, .int .u8 0, .int .u8 0, .int .u8 0, .int .u8 0, .int .u8 0, .int .u8 0, .int .u8 0, .int .u8 0, .int .u8 0, .int .u8 0, .int .i64 0, .bool false, .int .u8 0, .int .u8 0, .int .u8 0, .int .u8 0, .int .u8 0, .int .u8 0, .int .u8 0, .int .u8 0, .int .u8 0, .int .u8 0, .int .u8 0, .int .u8 0, .int .u8 0, .int .u8 0, .int .u8 0, .int .u8 0, .int .i64 0, .int .i64 0, .int .i64 0, .int .i64 0] 36)).heap.size = w.heap.size + 2 := by simp
  have st1 : (storeCells ⟨w.heap.size + 1, 0, none⟩ [.int .i64 0, .bool false, .int .u8 0, .int .u8 0, .int .u8 0, .int .u8 0, .int .u8 0, .int .u8 0, .int .u8 0, .int .u8 0, .int .u8 0, .int .u8 0, .int .u8 0, .int .u8 0, .int .u8 0, .int .u8 0, .int .u8 0, .int .u8 0, .int .i64 0, .bool false, .int .u8 0, .int .u8 0, .int .u8 0, .int .u8 0, .int .u8 0, .int .u8 0, .int .u8 0, .int .u8 0, .int .u8 0, .int .u8 0, .int .u8 0, .int .u8 0, .int .u8 0, .int .u8 0, .int .u8 0, .int .u8 0, .int .i64 0, .int .i64 0, .int .i64 0, .int .i64 0]).run Tryd.prog ((w.alloc (.cells #[.int .i64 0, .bool false, .int .u8 0, .int .u8 0, .int .u8 0, .int .u8 0, .int .u8 0, .int .u8 0, .int .u8 0, .int .u8 0, .int .u8 0, .int .u8 0, .int .u8 0, .int .u8 0, .int .u8 0, .int .u8 0, .int .u8 0, .int .u8 0, .int .i64 0, .bool false, .int .u8 0, .int .u8 0, .int .u8 0, .int .u8 0, .int .u8 0, .int .u8 0, .int .u8 0, .int .u8 0, .int .u8 0, .int .u8 0, .int .u8 0, .int .u8 0, .int .u8 0, .int .u8 0, .int .u8 0, .int .u8 0, .int .i64 0, .int .i64 0, .int .i64 0, .int .i64 0] 36)).alloc (.cells #[.int .i64 0, .bool false, .int .u8 0, .int .u8 0, .int .u8 0, .int .u8 0, .int .u8 0, .int .u8 0, .int .u8 0, .int .u8 0, .int .u8 0, .int .u8 0, .int .u8 0, .int .u8 0, .int .u8 0, .int .u8 0, .int .u8 0, .int .u8 0, .int .i64 0, .bool false, .int .u8 0, .int .u8 0, .int .u8 0, .int .u8 0, .int .u8 0, .int .u8 0, .int .u8 0, .int .u8 0, .int .u8 0, .int .u8 0, .int .u8 0, .int .u8 0, .int .u8 0, .int .u8 0, .int .u8 0, .int .u8 0, .int .i64 0, .int .i64 0, .int .i64 0, .int .i64 0] 36)) = .ok () ((w.alloc (.cells #[.int .i64 0, .bool false, .int .u8 0, .int .u8 0, .int .u8 0, .int .u8 0, .int .u8 0, .int .u8 0, .int .u8 0, .int .u8 0, .int .u8 0, .int .u8 0, .int .u8 0, .int .u8 0, .int .u8 0, .int .u8 0, .int .u8 0, .int .u8 0, .int .i64 0, .bool false, .int .u8 0, .int .u8 0, .int .u8 0, .int .u8 0, .int .u8 0, .int .u8 0, .int .u8 0, .int .u8 0, .int .u8 0, .int .u8 0, .int .u8 0, .int .u8 0, .int .u8 0, .int .u8 0, .int .u8 0, .int .u8 0, .int .i64 0, .int .i64 0, .int .i64 0, .int .i64 0] 36)).alloc (.cells #[.int .i64 0, .bool false, .int .u8 0, .int .u8 0, .int .u8 0, .int .u8 0, .int .u8 0, .int .u8 0, .int .u8 0, .int .u8 0, .int .u8 0, .int .u8 0, .int .u8 0, .int .u8 0, .int .u8 0, .int .u8 0, .int .u8 0, .int .u8 0, .int .i64 0, .bool false, .int .u8 0, .int .u8 0, .int .u8 0, .int .u8 0, .int .u8 0, .int .u8 0, .int .u8 0, .int .u8 0, .int .u8 0, .int .u8 0, .int .u8 0, .int .u8 0, .int .u8 0, .int .u8 0, .int .u8 0, .int .u8 0, .int .i64 0, .int .i64 0, .int .i64 0, .int .i64 0] 36)) := store_same z1 hd0.one
  have HSST : Hid (∀ b W, Blk b hd0.cells 36 W → (storeCells ⟨b, 0, none⟩ [.int .i64 0, .bool false, .int .u8 0, .int .u8 0, .int .u8 0, .int .u8 0, .int .u8 0, .int .u8 0, .int .u8 0, .int .u8 0, .int .u8 0, .int .u8 0, .int .u8 0, .int .u8 0, .int .u8 0, .int .u8 0, .int .u8 0, .int .u8 0, .int .i64 0, .bool false, .int .u8 0, .int .u8 0, .int .u8 0, .int .u8 0, .int .u8 0, .int .u8 0, .int .u8 0, .int .u8 0, .int .u8 0, .int .u8 0, .int .u8 0, .int .u8 0, .int .u8 0, .int .u8 0, .int .u8 0, .int .u8 0, .int .i64 0, .int .i64 0, .int .i64 0, .int .i64 0]).run Tryd.prog W = .ok () W) := Lib.hid (fun b W hW => store_same hW hd0.one)
  have HLLD : Hid (∀ b W, Blk b hd0.cells 36 W → (loadCells ⟨b, 0, none⟩ 40).run Tryd.prog W = .ok ([.int .i64 0, .bool false, .int .u8 0, .int .u8 0, .int .u8 0, .int .u8 0, .int .u8 0, .int .u8 0, .int .u8 0, .int .u8 0, .int .u8 0, .int .u8 0, .int .u8 0, .int .u8 0, .int .u8 0, .int .u8 0, .int .u8 0, .int .u8 0, .int .i64 0, .bool false, .int .u8 0, .int .u8 0, .int .u8 0, .int .u8 0, .int .u8 0, .int .u8 0, .int .u8 0, .int .u8 0, .int .u8 0, .int .u8 0, .int .u8 0, .int .u8 0, .int .u8 0, .int .u8 0, .int .u8 0, .int .u8 0, .int .i64 0, .int .i64 0, .int .i64 0, .int .i64 0] : List Value).toArray W) := Lib.hid (fun b W hW => hW.load 0 40 [.int .i64 0, .bool false, .int .u8 0, .int .u8 0, .int .u8 0, .int .u8 0, .int .u8 0, .int .u8 0, .int .u8 0, .int .u8 0, .int .u8 0, .int .u8 0, .int .u8 0, .int .u8 0, .int .u8 0, .int .u8 0, .int .u8 0, .int .u8 0, .int .i64 0, .bool false, .int .u8 0, .int .u8 0, .int .u8 0, .int .u8 0, .int .u8 0, .int .u8 0, .int .u8 0, .int .u8 0, .int .u8 0, .int .u8 0, .int .u8 0, .int .u8 0, .int .u8 0, .int .u8 0, .int .u8 0, .int .u8 0, .int .i64 0, .int .i64 0, .int .i64 0, .int .i64 0] rfl rfl)
  have HNEW : Hid (∀ W : World, W.heap.size = w.heap.size + 2 → Blk (w.heap.size + 2) hd0.cells 36 (W.alloc (.cells #[.int .i64 0, .bool false, .int .u8 0, .int .u8 0, .int .u8 0, .int .u8 0, .int .u8 0, .int .u8 0, .int .u8 0, .int .u8 0, .int .u8 0, .int .u8 0, .int .u8 0, .int .u8 0, .int .u8 0, .int .u8 0, .int .u8 0, .int .u8 0, .int .i64 0, .bool false, .int .u8 0, .int .u8 0, .int .u8 0, .int .u8 0, .int .u8 0, .int .u8 0, .int .u8 0, .int .u8 0, .int .u8 0, .int .u8 0, .int .u8 0, .int .u8 0, .int .u8 0, .int .u8 0, .int .u8 0, .int .u8 0, .int .i64 0, .int .i64 0, .int .i64 0, .int .i64 0] 36))) := by
    refine Lib.hid ?_
    intro W hW
    exact Blk.new W hd0.cells _ 36 (w.heap.size + 2) rfl hW
  have HZ0 := Lib.hid z0
  have HZ1 := Lib.hid z1
  have HZB := Lib.hid zb
  clear z0 z1 zb
  by_cases h0 : l.length = 0
  · have hp : parseR l = 2 := by unfold parseR; rw [if_pos h0]
    replace hR := hR.trans hp
    subst hR
    replace hH := hH.trans (if_neg (by decide))
    subst hH
    have h0' : ((l.length : Int) == 0) = true := by rw [h0]; rfl
    clear h0 hc hl
    go_enter Tryd.func12, Tryd.ntmps12
    go_upto_region 2 with (fail)
    clear st1
    generalize (w.alloc (.cells #[.int .i64 0, .bool false, .int .u8 0, .int .u8 0, .int .u8 0, .int .u8 0, .int .u8 0, .int .u8 0, .int .u8 0, .int .u8 0, .int .u8 0, .int .u8 0, .int .u8 0, .int .u8 0, .int .u8 0, .int .u8 0, .int .u8 0, .int .u8 0, .int .i64 0, .bool false, .int .u8 0, .int .u8 0, .int .u8 0, .int .u8 0, .int .u8 0, .int .u8 0, .int .u8 0, .int .u8 0, .int .u8 0, .int .u8 0, .int .u8 0, .int .u8 0, .int .u8 0, .int .u8 0, .int .u8 0, .int .u8 0, .int .i64 0, .int .i64 0, .int .i64 0, .int .i64 0] 36)).alloc (.cells #[.int .i64 0, .bool false, .int .u8 0, .int .u8 0, .int .u8 0, .int .u8 0, .int .u8 0, .int .u8 0, .int .u8 0, .int .u8 0, .int .u8 0, .int .u8 0, .int .u8 0, .int .u8 0, .int .u8 0, .int .u8 0, .int .u8 0, .int .u8 0, .int .i64 0, .bool false, .int .u8 0, .int .u8 0, .int .u8 0, .int .u8 0, .int .u8 0, .int .u8 0, .int .u8 0, .int .u8 0, .int .u8 0, .int .u8 0, .int .u8 0, .int .u8 0, .int .u8 0, .int .u8 0, .int .u8 0, .int .u8 0, .int .i64 0, .int .i64 0, .int .i64 0, .int .i64 0] 36) = w2 at HZ0 HZ1 HZB zs ⊢
    have ld1 := HLLD.out _ _ HZ1.out
    have st0 := HSST.out _ _ HZ0.out
    have ld0 := HLLD.out _ _ HZ0.out
    go_wp2
    exact bodyPost_ret (v := .tuple #[.agg ([.int .i64 0, .bool false, .int .u8 0, .int .u8 0, .int .u8 0, .int .u8 0, .int .u8 0, .int .u8 0, .int .u8 0, .int .u8 0, .int .u8 0, .int .u8 0, .int .u8 0, .int .u8 0, .int .u8 0, .int .u8 0, .int .u8 0, .int .u8 0, .int .i64 0, .bool false, .int .u8 0, .int .u8 0, .int .u8 0, .int .u8 0, .int .u8 0, .int .u8 0, .int .u8 0, .int .u8 0, .int .u8 0, .int .u8 0, .int .u8 0, .int .u8 0, .int .u8 0, .int .u8 0, .int .u8 0, .int .u8 0, .int .i64 0, .int .i64 0, .int .i64 0, .int .i64 0] : List Value).toArray, .int .i64 2]) (by simp [results, Tryd.results12, go_sem, ld0]) rfl ⟨rfl, HZB.out⟩
  have h0' : ((l.length : Int) == 0) = false := beq_eq_false_iff_ne.mpr (by omega)
  have h0p : (0 : Int) < (l.length : Int) := by omega
  obtain ⟨ad, rfl, hzz⟩ := (HRS.out w (Below.refl _ _)).atU8 (k := 0) (by omega)
  clear hzz
  have HBY := Lib.hid (fun k hk => byteS _ HRS.out k hk)
  have hxb : ((l.getD 0 0).toNat : Int) < 256 := by have := (l.getD 0 0).toNat_lt; omega
  have hver : verN l = (l.getD 0 0).toNat / 16 := rfl
  have hxw : IntKind.i64.wrap ((l.getD 0 0).toNat : Int) = ((l.getD 0 0).toNat : Int) := by rw [IntKind.wrap_i64]; omega
  have HX : Hid (∀ W, Below w.heap.size w W → W.cell? ad = some (.int .u8 ((l.getD 0 0).toNat : Int))) := Lib.hid (HBY.out 0 (by omega))
  by_cases h1 : verN l ≠ 4 ∧ verN l ≠ 6
  · have hp : parseR l = 4 := by unfold parseR; rw [if_neg h0, if_pos h1]
    replace hR := hR.trans hp
    subst hR
    replace hH := hH.trans (if_neg (by decide))
    subst hH
    have n4 : (((l.getD 0 0).toNat : Int) / 16 != 4) = true := bne_iff_ne.mpr (by omega)
    have n6 : (((l.getD 0 0).toNat : Int) / 16 != 6) = true := bne_iff_ne.mpr (by omega)
    clear h1 hver h0 HBY
    generalize (l.getD 0 0) = x at HX n4 n6 hxb hxw
    go_enter Tryd.func12, Tryd.ntmps12
    go_upto_region 2 with (fail)
    clear st1
    generalize (w.alloc (.cells #[.int .i64 0, .bool false, .int .u8 0, .int .u8 0, .int .u8 0, .int .u8 0, .int .u8 0, .int .u8 0, .int .u8 0, .int .u8 0, .int .u8 0, .int .u8 0, .int .u8 0, .int .u8 0, .int .u8 0, .int .u8 0, .int .u8 0, .int .u8 0, .int .i64 0, .bool false, .int .u8 0, .int .u8 0, .int .u8 0, .int .u8 0, .int .u8 0, .int .u8 0, .int .u8 0, .int .u8 0, .int .u8 0, .int .u8 0, .int .u8 0, .int .u8 0, .int .u8 0, .int .u8 0, .int .u8 0, .int .u8 0, .int .i64 0, .int .i64 0, .int .i64 0, .int .i64 0] 36)).alloc (.cells #[.int .i64 0, .bool false, .int .u8 0, .int .u8 0, .int .u8 0, .int .u8 0, .int .u8 0, .int .u8 0, .int .u8 0, .int .u8 0, .int .u8 0, .int .u8 0, .int .u8 0, .int .u8 0, .int .u8 0, .int .u8 0, .int .u8 0, .int .u8 0, .int .i64 0, .bool false, .int .u8 0, .int .u8 0, .int .u8 0, .int .u8 0, .int .u8 0, .int .u8 0, .int .u8 0, .int .u8 0, .int .u8 0, .int .u8 0, .int .u8 0, .int .u8 0, .int .u8 0, .int .u8 0, .int .u8 0, .int .u8 0, .int .i64 0, .int .i64 0, .int .i64 0, .int .i64 0] 36) = w2 at HZ0 HZ1 HZB zs ⊢
    have hx := HX.out _ HZB.out
    have ld1 := HLLD.out _ _ HZ1.out
    have st0 := HSST.out _ _ HZ0.out
    have ld0 := HLLD.out _ _ HZ0.out
    go_wp2
    exact bodyPost_ret (v := .tuple #[.agg ([.int .i64 0, .bool false, .int .u8 0, .int .u8 0, .int .u8 0, .int .u8 0, .int .u8 0, .int .u8 0, .int .u8 0, .int .u8 0, .int .u8 0, .int .u8 0, .int .u8 0, .int .u8 0, .int .u8 0, .int .u8 0, .int .u8 0, .int .u8 0, .int .i64 0, .bool false, .int .u8 0, .int .u8 0, .int .u8 0, .int .u8 0, .int .u8 0, .int .u8 0, .int .u8 0, .int .u8 0, .int .u8 0, .int .u8 0, .int .u8 0, .int .u8 0, .int .u8 0, .int .u8 0, .int .u8 0, .int .u8 0, .int .i64 0, .int .i64 0, .int .i64 0, .int .i64 0] : List Value).toArray, .int .i64 4]) (by simp [results, Tryd.results12, go_sem, ld0]) rfl ⟨rfl, HZB.out⟩
  have h46 : ((l.getD 0 0).toNat : Int) / 16 = 4 ∧ verN l = 4 ∨ ((l.getD 0 0).toNat : Int) / 16 = 6 ∧ ¬ verN l = 4 := by
    by_cases e : verN l = 4
    · exact .inl ⟨by omega, e⟩
    · exact .inr ⟨by omega, e⟩
  by_cases h2 : 300 < l.length
  · have hp : parseR l = 3 := by unfold parseR; rw [if_neg h0, if_neg h1, if_pos h2]
    replace hR := hR.trans hp
    subst hR
    replace hH := hH.trans (if_neg (by decide))
    subst hH
    have h2' : (300 : Int) < (l.length : Int) := by omega
    clear h1 hver h0 HBY
    generalize (l.getD 0 0) = x at HX h46 hxb hxw
    rcases h46 with ⟨h4, _⟩ | ⟨h4, _⟩
    all_goals
      go_enter Tryd.func12, Tryd.ntmps12
      go_upto_region 2 with (fail)
      clear st1
      generalize (w.alloc (.cells #[.int .i64 0, .bool false, .int .u8 0, .int .u8 0, .int .u8 0, .int .u8 0, .int .u8 0, .int .u8 0, .int .u8 0, .int .u8 0, .int .u8 0, .int .u8 0, .int .u8 0, .int .u8 0, .int .u8 0, .int .u8 0, .int .u8 0, .int .u8 0, .int .i64 0, .bool false, .int .u8 0, .int .u8 0, .int .u8 0, .int .u8 0, .int .u8 0, .int .u8 0, .int .u8 0, .int .u8 0, .int .u8 0, .int .u8 0, .int .u8 0, .int .u8 0, .int .u8 0, .int .u8 0, .int .u8 0, .int .u8 0, .int .i64 0, .int .i64 0, .int .i64 0, .int .i64 0] 36)).alloc (.cells #[.int .i64 0, .bool false, .int .u8 0, .int .u8 0, .int .u8 0, .int .u8 0, .int .u8 0, .int .u8 0, .int .u8 0, .int .u8 0, .int .u8 0, .int .u8 0, .int .u8 0, .int .u8 0, .int .u8 0, .int .u8 0, .int .u8 0, .int .u8 0, .int .i64 0, .bool false, .int .u8 0, .int .u8 0, .int .u8 0, .int .u8 0, .int .u8 0, .int .u8 0, .int .u8 0, .int .u8 0, .int .u8 0, .int .u8 0, .int .u8 0, .int .u8 0, .int .u8 0, .int .u8 0, .int .u8 0, .int .u8 0, .int .i64 0, .int .i64 0, .int .i64 0, .int .i64 0] 36) = w2 at HZ0 HZ1 HZB zs ⊢
      have hx := HX.out _ HZB.out
      have ld1 := HLLD.out _ _ HZ1.out
      have st0 := HSST.out _ _ HZ0.out
      have ld0 := HLLD.out _ _ HZ0.out
      go_wp2
      exact bodyPost_ret (v := .tuple #[.agg ([.int .i64 0, .bool false, .int .u8 0, .int .u8 0, .int .u8 0, .int .u8 0, .int .u8 0, .int .u8 0, .int .u8 0, .int .u8 0, .int .u8 0, .int .u8 0, .int .u8 0, .int .u8 0, .int .u8 0, .int .u8 0, .int .u8 0, .int .u8 0, .int .i64 0, .bool false, .int .u8 0, .int .u8 0, .int .u8 0, .int .u8 0, .int .u8 0, .int .u8 0, .int .u8 0, .int .u8 0, .int .u8 0, .int .u8 0, .int .u8 0, .int .u8 0, .int .u8 0, .int .u8 0, .int .u8 0, .int .u8 0, .int .i64 0, .int .i64 0, .int .i64 0, .int .i64 0] : List Value).toArray, .int .i64 3]) (by simp [results, Tryd.results12, go_sem, ld0]) rfl ⟨rfl, HZB.out⟩
  exact absurd hbad (fun e => e.elim h0 (fun e => e.elim h1 h2))
end Go.Proofs.YtfoehgcamkmooaaDoor.Head
