/- head.Head: its cells; the heads of parts. -/
import Derived.Test.YtfoehgcamkmooaaDoorHeadB
namespace Go.Proofs.YtfoehgcamkmooaaDoor.Head
open Go.RowKit Go.Proofs.YtfoehgcamkmooaaDoor.Mem Go.Proofs.YtfoehgcamkmooaaDoor.Num Go.Proofs.YtfoehgcamkmooaaDoor.Err
open Go.Proofs.YtfoehgcamkmooaaDoor.Addr hiding below_allocd
open Go.Proofs.YtfoehgcamkmooaaDoor.Sums Go.Proofs.YtfoehgcamkmooaaDoor.SumsP Go.Proofs.YtfoehgcamkmooaaDoor.Pseudo
set_option linter.unusedVariables false
set_option linter.unusedSimpArgs false
set_option maxRecDepth 100000
attribute [-go_sem] Builtin.append_ loadCells loadCellsFrom storeCells
/-- A head. -/
structure Hd where
  pr : Int
  s6 : Bool
  sb : List UInt8
  sp : Int
  d6 : Bool
  db : List UInt8
  dp : Int
  fl : Int
  pt : Int
  bd : Int
  hs : sb.length = 16
  hd : db.length = 16
def Hd.cells (h : Hd) : List Value := .int .i64 h.pr :: (adCells h.s6 h.sb ++ (.int .i64 h.sp :: (adCells h.d6 h.db ++ [.int .i64 h.dp, .int .i64 h.fl, .int .i64 h.pt, .int .i64 h.bd])))
theorem Hd.len (h : Hd) : h.cells.length = 40 := by simp [Hd.cells, adCells, h.hs, h.hd]
theorem Hd.one (h : Hd) : ∀ v ∈ h.cells, v.oneCell' = true := by
  intro v hv
  unfold Hd.cells at hv
  simp only [List.mem_cons, List.mem_append, List.not_mem_nil, or_false] at hv
  rcases hv with rfl | hv | rfl | hv | rfl | rfl | rfl | rfl <;> first | rfl | exact adCells_one _ _ _ hv
theorem Hd.at (h : Hd) : h.cells[0]? = some (.int .i64 h.pr) ∧ h.cells[1]? = some (.bool h.s6) ∧ h.cells[18]? = some (.int .i64 h.sp) ∧ h.cells[19]? = some (.bool h.d6) ∧ h.cells[36]? = some (.int .i64 h.dp) ∧ h.cells[37]? = some (.int .i64 h.fl) ∧ h.cells[38]? = some (.int .i64 h.pt) ∧ h.cells[39]? = some (.int .i64 h.bd) := by
  obtain ⟨pr, s6, sb, sp, d6, db, dp, fl, pt, bd, hs, hd⟩ := h
  obtain ⟨b0, b1, b2, b3, b4, b5, b6, b7, b8, b9, b10, b11, b12, b13, b14, b15, rfl⟩ := split16 sb hs
  obtain ⟨c0, c1, c2, c3, c4, c5, c6, c7, c8, c9, c10, c11, c12, c13, c14, c15, rfl⟩ := split16 db hd
  exact ⟨rfl, rfl, rfl, rfl, rfl, rfl, rfl, rfl⟩
theorem Hd.sets (h : Hd) (x : Int) : h.cells.set 0 (.int .i64 x) = Hd.cells { h with pr := x } ∧ h.cells.set 18 (.int .i64 x) = Hd.cells { h with sp := x } ∧ h.cells.set 36 (.int .i64 x) = Hd.cells { h with dp := x } ∧ h.cells.set 37 (.int .i64 x) = Hd.cells { h with fl := x } ∧ h.cells.set 38 (.int .i64 x) = Hd.cells { h with pt := x } ∧ h.cells.set 39 (.int .i64 x) = Hd.cells { h with bd := x } := by
  obtain ⟨pr, s6, sb, sp, d6, db, dp, fl, pt, bd, hs, hd⟩ := h
  obtain ⟨b0, b1, b2, b3, b4, b5, b6, b7, b8, b9, b10, b11, b12, b13, b14, b15, rfl⟩ := split16 sb hs
  obtain ⟨c0, c1, c2, c3, c4, c5, c6, c7, c8, c9, c10, c11, c12, c13, c14, c15, rfl⟩ := split16 db hd
  exact ⟨rfl, rfl, rfl, rfl, rfl, rfl⟩
theorem Hd.src (h : Hd) (six : Bool) (b : List UInt8) (hb : b.length = 16) : splice h.cells 1 (adCells six b) = Hd.cells { h with s6 := six, sb := b, hs := hb } := by
  obtain ⟨pr, s6, sb, sp, d6, db, dp, fl, pt, bd, hs, hd⟩ := h
  obtain ⟨a0, a1, a2, a3, a4, a5, a6, a7, a8, a9, a10, a11, a12, a13, a14, a15, rfl⟩ := split16 b hb
  obtain ⟨b0, b1, b2, b3, b4, b5, b6, b7, b8, b9, b10, b11, b12, b13, b14, b15, rfl⟩ := split16 sb hs
  obtain ⟨c0, c1, c2, c3, c4, c5, c6, c7, c8, c9, c10, c11, c12, c13, c14, c15, rfl⟩ := split16 db hd
  rfl
theorem Hd.dst (h : Hd) (six : Bool) (b : List UInt8) (hb : b.length = 16) : splice h.cells 19 (adCells six b) = Hd.cells { h with d6 := six, db := b, hd := hb } := by
  obtain ⟨pr, s6, sb, sp, d6, db, dp, fl, pt, bd, hs, hd⟩ := h
  obtain ⟨a0, a1, a2, a3, a4, a5, a6, a7, a8, a9, a10, a11, a12, a13, a14, a15, rfl⟩ := split16 b hb
  obtain ⟨b0, b1, b2, b3, b4, b5, b6, b7, b8, b9, b10, b11, b12, b13, b14, b15, rfl⟩ := split16 sb hs
  obtain ⟨c0, c1, c2, c3, c4, c5, c6, c7, c8, c9, c10, c11, c12, c13, c14, c15, rfl⟩ := split16 db hd
  rfl
theorem Hd.srcPart (h : Hd) : (h.cells.drop 1).take 17 = adCells h.s6 h.sb := by
  obtain ⟨pr, s6, sb, sp, d6, db, dp, fl, pt, bd, hs, hd⟩ := h
  obtain ⟨b0, b1, b2, b3, b4, b5, b6, b7, b8, b9, b10, b11, b12, b13, b14, b15, rfl⟩ := split16 sb hs
  rfl
theorem Hd.dstPart (h : Hd) : (h.cells.drop 19).take 17 = adCells h.d6 h.db := by
  obtain ⟨pr, s6, sb, sp, d6, db, dp, fl, pt, bd, hs, hd⟩ := h
  obtain ⟨b0, b1, b2, b3, b4, b5, b6, b7, b8, b9, b10, b11, b12, b13, b14, b15, rfl⟩ := split16 sb hs
  obtain ⟨c0, c1, c2, c3, c4, c5, c6, c7, c8, c9, c10, c11, c12, c13, c14, c15, rfl⟩ := split16 db hd
  rfl
/-- Block b holds a head. -/
def HBlk (b : Nat) (h : Hd) (t : TypeId) (w : World) : Prop := Blk b h.cells t w
theorem HBlk.vals {b : Nat} {h : Hd} {t : TypeId} {w : World} (k : HBlk b h t w) : w.cell? ⟨b, 0, none⟩ = some (.int .i64 h.pr) ∧ w.cell? ⟨b, 1, none⟩ = some (.bool h.s6) ∧ w.cell? ⟨b, 18, none⟩ = some (.int .i64 h.sp) ∧ w.cell? ⟨b, 36, none⟩ = some (.int .i64 h.dp) ∧ w.cell? ⟨b, 37, none⟩ = some (.int .i64 h.fl) ∧ w.cell? ⟨b, 38, none⟩ = some (.int .i64 h.pt) ∧ w.cell? ⟨b, 39, none⟩ = some (.int .i64 h.bd) := by
  obtain ⟨a0, a1, a2, a3, a4, a5, a6, a7⟩ := h.at
  exact ⟨Blk.cell k _ _ a0, Blk.cell k _ _ a1, Blk.cell k _ _ a2, Blk.cell k _ _ a4, Blk.cell k _ _ a5, Blk.cell k _ _ a6, Blk.cell k _ _ a7⟩
theorem HBlk.frees {b : Nat} {h : Hd} {t : TypeId} {w : World} (k : HBlk b h t w) : w.frozen? ⟨b, 0, none⟩ = false ∧ w.frozen? ⟨b, 18, none⟩ = false ∧ w.frozen? ⟨b, 36, none⟩ = false ∧ w.frozen? ⟨b, 37, none⟩ = false ∧ w.frozen? ⟨b, 38, none⟩ = false ∧ w.frozen? ⟨b, 39, none⟩ = false :=
  ⟨Blk.free k _, Blk.free k _, Blk.free k _, Blk.free k _, Blk.free k _, Blk.free k _⟩
theorem HBlk.set {b : Nat} {h : Hd} {t : TypeId} {w : World} (k : HBlk b h t w) (i : Nat) (v : Value) (h' : Hd) (he : h.cells.set i v = h'.cells) : HBlk b h' t (w.setCell ⟨b, i, none⟩ v) := by
  unfold HBlk Blk at k ⊢
  rw [← he]
  unfold World.setCell
  simp only [Array.getElem?_modify, k]
  simp
end Go.Proofs.YtfoehgcamkmooaaDoor.Head
