/- linkboyref28.Parse, behind its first tests. -/
import Derived.Test.YtfoehgcamkmooaaDoorHeadS1
import Derived.Test.YtfoehgcamkmooaaDoorHeadS2
import Derived.Test.YtfoehgcamkmooaaDoorHeadS3
import Derived.Deep.DeepCutAuto
namespace Go.Proofs.YtfoehgcamkmooaaDoor.Head
open Go.RowKit Go.Proofs.YtfoehgcamkmooaaDoor.Mem Go.Proofs.YtfoehgcamkmooaaDoor.Num Go.Proofs.YtfoehgcamkmooaaDoor.Err
open Go.Proofs.YtfoehgcamkmooaaDoor.Addr hiding below_allocd
open Go.Proofs.YtfoehgcamkmooaaDoor.Sums Go.Proofs.YtfoehgcamkmooaaDoor.SumsP Go.Proofs.YtfoehgcamkmooaaDoor.Pseudo
set_option linter.unusedVariables false
set_option linter.unusedSimpArgs false
set_option maxRecDepth 100000
attribute [-go_sem] Builtin.append_ loadCells loadCellsFrom storeCells

set_option maxHeartbeats 16000000 in
theorem refparse_main6 (v : Value) (l : List UInt8) (w : World) (hv : Row eU8 w v l) (hl : l.length ≤ 600) (h0 : ¬ l.length = 0) (h1 : ¬ (verN l ≠ 4 ∧ verN l ≠ 6)) (h2 : ¬ 300 < l.length) (hver : ¬ verN l = 4) :
    Calls Tryd.prog 12 #[v] w fun e w' => e = .returned (.tuple #[.agg (hdA (if parseR l = 0 then parseH l else hd0)), .int .i64 (parseR l : Int)]) ∧ Below w.heap.size w w' := by
  obtain ⟨A, c, rfl, hc, hm, hr⟩ := hv.parts
  have HRS : Hid (∀ W, Below w.heap.size w W → Row eU8 W (.slice A l.length c) l) := Lib.hid (fun W hW => hr.below hW)
  clear hv hr
  obtain ⟨H, hH⟩ : ∃ H, H = (if parseR l = 0 then parseH l else hd0) := ⟨_, rfl⟩
  obtain ⟨R, hR⟩ : ∃ R, R = parseR l := ⟨_, rfl⟩
  rw [← hH, ← hR]
  rw [← hR] at hH
  have z0 : Blk w.heap.size hd0.cells 36 ((w.alloc (.cells #[.int .i64 0, .bool false, .int .u8 0, .int .u8 0, .int .u8 0, .int .u8 0, .int .u8 0, .int .u8 0, .int .u8 0, .int .u8 0, .int .u8 0, .int .u8 0, .int .u8 0, .int .u8 0, .int .u8 0, .int .u8 0, .int .u8 0, .int .u8 0, .int .i64 0, .bool false, .int .u8 0, .int .u8 0, .int .u8 0, .int .u8 0, .int .u8 0, .int .u8 0, .int .u8 0, .int .u8 0, .int .u8 0, .int .u8 0, .int .u8 0, .int .u8 0, .int .u8 0, .int .u8 0, .int .u8 0, .int .u8 0, .int .i64 0, .int .i64 0, .int .i64 0, .int .i64 0] 36)).alloc (.cells #[.int .i64 0, .bool false, .int .u8 0, .int .u8 0, .int .u8 0, .int .u8 0, .int .u8 0, .int .u8 0, .int .u8 0, .int .u8 0, .int .u8 0, .int .u8 0, .int .u8 0, .int .u8 0, .int .u8 0, .int .u8 0, .int .u8 0, .int .u8 0, .int .i64 0, .bool false, .int .u8 0, .int .u8 0, .int .u8 0, .int .u8 0, .int .u8 0, .int .u8 0, .int .u8 0, .int .u8 0, .int .u8 0, .int .u8 0, .int .u8 0, .int .u8 0, .int .u8 0, .int .u8 0, .int .u8 0, .int .u8 0, .int .i64 0, .int .i64 0, .int .i64 0, .int .i64 0] 36)) := (Blk.new _ _ _ _ _ rfl rfl).alloc _
  have z1 : Blk (w.heap.size + 1) hd0.cells 36 ((w.alloc (.cells #[.int .i64 0, .bool false, .int .u8 0, .int .u8 0, .int .u8 0, .int .u8 0, .int .u8 0, .int .u8 0, .int .u8 0, .int .u8 0, .int .u8 0, .int .u8 0, .int .u8 0, .int .u8 0, .int .u8 0, .int .u8 0, .int .u8 0, .int .u8 0, .int .i64 0, .bool false, .int .u8 0, .int .u8 0, .int .u8 0, .int .u8 0, .int .u8 0, .int .u8 0, .int .u8 0, .int .u8 0, .int .u8 0, .int .u8 0, .int .u8 0, .int .u8 0, .int .u8 0, .int .u8 0, .int .u8 0, .int .u8 0, .int .i64 0, .int .i64 0, .int .i64 0, .int .i64 0] 36)).alloc (.cells #[.int .i64 0, .bool false, .int .u8 0, .int .u8 0, .int .u8 0, .int .u8 0, .int .u8 0, .int .u8 0, .int .u8 0, .int .u8 0, .int .u8 0, .int .u8 0, .int .u8 0, .int .u8 0, .int .u8 0, .int .u8 0, .int .u8 0, .int .u8 0, .int .i64 0, .bool false, .int .u8 0, .int .u8 0, .int .u8 0, .int .u8 0, .int .u8 0, .int .u8 0, .int .u8 0, .int .u8 0, .int .u8 0, .int .u8 0, .int .u8 0, .int .u8 0, .int .u8 0, .int .u8 0, .int .u8 0, .int .u8 0, .int .i64 0, .int .i64 0, .int .i64 0, .int .i64 0] 36)) := Blk.new _ _ _ _ _ rfl (by simp)
  have zb : Below w.heap.size w ((w.alloc (.cells #[.int .i64 0, .bool false, .int .u8 0, .int .u8 0, .int .u8 0, .int .u8 0, .int .u8 0, .int .u8 0, .int .u8 0, .int .u8 0, .int .u8 0, .int .u8 0, .int .u8 0, .int .u8 0, .int .u8 0, .int .u8 0, .int .u8 0, .int .u8 0, .int .i64 0, .bool false, .int .u8 0, .int .u8 0, .int .u8 0, .int .u8 0, .int .u8 0, .int .u8 0, .int .u8 0, .int .u8 0, .int .u8 0, .int .u8 0, .int .u8 0, .int .u8 0, .int .u8 0, .int .u8 0, .int .u8 0, .int .u8 0, .int .i64 0, .int .i64 0, .int .i64 0, .int .i64 0] 36)).alloc (.cells #[.int .i64 0, .bool false, .int .u8 0, .int .u8 0, .int .u8 0, .int .u8 0, .int .u8 0, .int .u8 0, .int .u8 0, .int .u8 0, .int .u8 0, .int .u8 0, .int .u8 0, .int .u8 0, .int .u8 0, .int .u8 0, .int .u8 0, .int .u8 0, .int .i64 0, .bool false, .int .u8 0, .int .u8 0, .int .u8 0, .int .u8 0, .int .u8 0, .int .u8 0, .int .u8 0, .int .u8 0, .int .u8 0, .int .u8 0, .int .u8 0, .int .u8 0, .int .u8 0, .int .u8 0, .int .u8 0, .int .u8 0, .int .i64 0, .int .i64 0, .int .i64 0, .int .i64 0] 36)) := ((Below.refl _ _).alloc (Nat.le_refl _) _).alloc (by simp) _
  have zs : ((w.alloc (.cells #[.int .i64 0, .bool false, .int .u8 0, .int .u8 0, .int .u8 0, .int .u8 0, .int .u8 0, .int .u8 0, .int .u8 0, .int .u8 0, .int .u8 0, .int .u8 0, .int .u8 0, .int .u8 0, .int .u8 0, .int .u8 0, .int .u8 0, .int .u8 0, .int .i64 0, .bool false, .int .u8 0, .int .u8 0, .int .u8 0, .int .u8 0, .int .u8 0, .int .u8 0, .int .u8 0, .int .u8 0, .int .u8 0, .int .u8 0, .int .u8 0, .int .u8 0, .int .u8 0, .int .u8 0, .int .u8 0, .int .u8 0, .int .i64 0, .int .i64 0, .int .i64 0, .int .i64 0] 36)).alloc (.cells #[.int .i64 0, .bool false, .int .u8 0, .int .u8 0, .int .u8 0, .int .u8 0, .int .u8 0, .int .u8 0, .int .u8 0, .int .u8 0, .int .u8 0, .int .u8 0, .int .u8 0, .int .u8 0, .int .u8 0, .int .u8 0, .int .u8 0, .int .u8 0, .int .i64 0, .bool false, .int .u8 0, .int .u8 0, .int .u8 0, .int .u8 0, .int .u8 0, .int .u8 0, .int .u8 0, .int .u8 0, .int .u8 0, .int .u8 0, .int .u8 0, .int .u8 0, .int .u8 0, .int .u8 0, .int .u8 0, .int .u8 0, .int .i64 0, .int .i64 0, .int .i64 0, .int .i64 0] 36)).heap.size = w.heap.size + 2 := by simp
  have st1 : (storeCells ⟨w.heap.size + 1, 0, none⟩ [.int .i64 0, .bool false, .int .u8 0, .int .u8 0, .int .u8 0, .int .u8 0, .int .u8 0, .int .u8 0, .int .u8 0, .int .u8 0, .int .u8 0, .int .u8 0, .int .u8 0, .int .u8 0, .int .u8 0, .int .u8 0, .int .u8 0, .int .u8 0, .int .i64 0, .bool false, .int .u8 0, .int .u8 0, .int .u8 0, .int .u8 0, .int .u8 0, .int .u8 0, .int .u8 0, .int .u8 0, .int .u8 0, .int .u8 0, .int .u8 0, .int .u8 0, .int .u8 0, .int .u8 0, .int .u8 0, .int .u8 0, .int .i64 0, .int .i64 0, .int .i64 0, .int .i64 0]).run Tryd.prog ((w.alloc (.cells #[.int .i64 0, .bool false, .int .u8 0, .int .u8 0, .int .u8 0, .int .u8 0, .int .u8 0, .int .u8 0, .int .u8 0, .int .u8 0, .int .u8 0, .int .u8 0, .int .u8 0, .int .u8 0, .int .u8 0, .int .u8 0, .int .u8 0, .int .u8 0, .int .i64 0, .bool false, .int .u8 0, .int .u8 0, .int .u8 0, .int .u8 0, .int .u8 0, .int .u8 0, .int .u8 0, .int .u8 0, .int .u8 0, .int .u8 0, .int .u8 0, .int .u8 0, .int .u8 0, .int .u8 0, .int .u8 0, .int .u8 0, .int .i64 0, .int .i64 0, .int .i64 0, .int .i64 0] 36)).alloc (.cells #[.int .i64 0, .bool false, .int .u8 0, .int .u8 0, .int .u8 0, .int .u8 0, .int .u8 0, .int .u8 0, .int .u8 0, .int .u8 0, .int .u8 0, .int .u8 0, .int .u8 0, .int .u8 0, .int .u8 0, .int .u8 0, .int .u8 0, .int .u8 0, .int .i64 0, .bool false, .int .u8 0, .int .u8 0, .int .u8 0, .int .u8 0, .int .u8 0, .int .u8 0, .int .u8 0, .int .u8 0, .int .u8 0, .int .u8 0, .int .u8 0, .int .u8 0, .int .u8 0, .int .u8 0, .int .u8 0, .int .u8 0, .int .i64 0, .int .i64 0, .int .i64 0, .int .i64 0] 36)) = .ok () ((w.alloc (.cells #[.int .i64 0, .bool false, .int .u8 0, .int .u8 0, .int .u8 0, .int .u8 0, .int .u8 0, .int .u8 0, .int .u8 0, .int .u8 0, .int .u8 0, .int .u8 0, .int .u8 0, .int .u8 0, .int .u8 0, .int .u8 0, .int .u8 0, .int .u8 0, .int .i64 0, .bool false, .int .u8 0, .int .u8 0, .int .u8 0, .int .u8 0, .int .u8 0, .int .u8 0, .int .u8 0, .int .u8 0, .int .u8 0, .int .u8 0, .int .u8 0, .int .u8 0, .int .u8 0, .int .u8 0, .int .u8 0, .int .u8 0, .int .i64 0, .int .i64 0, .int .i64 0, .int .i64 0] 36)).alloc (.cells #[.int .i64 0, .bool false, .int .u8 0, .int .u8 0, .int .u8 0, .int .u8 0, .int .u8 0, .int .u8 0, .int .u8 0, .int .u8 0, .int .u8 0, .int .u8 0, .int .u8 0, .int .u8 0, .int .u8 0, .int .u8 0, .int .u8 0, .int .u8 0, .int .i64 0, .bool false, .int .u8 0, .int .u8 0, .int .u8 0, .int .u8 0, .int .u8 0, .int .u8 0, .int .u8 0, .int .u8 0, .int .u8 0, .int .u8 0, .int .u8 0, .int .u8 0, .int .u8 0, .int .u8 0, .int .u8 0, .int .u8 0, .int .i64 0, .int .i64 0, .int .i64 0, .int .i64 0] 36)) := store_same z1 hd0.one
  have HSST : Hid (∀ b W, Blk b hd0.cells 36 W → (storeCells ⟨b, 0, none⟩ [.int .i64 0, .bool false, .int .u8 0, .int .u8 0, .int .u8 0, .int .u8 0, .int .u8 0, .int .u8 0, .int .u8 0, .int .u8 0, .int .u8 0, .int .u8 0, .int .u8 0, .int .u8 0, .int .u8 0, .int .u8 0, .int .u8 0, .int .u8 0, .int .i64 0, .bool false, .int .u8 0, .int .u8 0, .int .u8 0, .int .u8 0, .int .u8 0, .int .u8 0, .int .u8 0, .int .u8 0, .int .u8 0, .int .u8 0, .int .u8 0, .int .u8 0, .int .u8 0, .int .u8 0, .int .u8 0, .int .u8 0, .int .i64 0, .int .i64 0, .int .i64 0, .int .i64 0]).run Tryd.prog W = .ok () W) := Lib.hid (fun b W hW => store_same hW hd0.one)
  have HLLD : Hid (∀ b W, Blk b hd0.cells 36 W → (loadCells ⟨b, 0, none⟩ 40).run Tryd.prog W = .ok ([.int .i64 0, .bool false, .int .u8 0, .int .u8 0, .int .u8 0, .int .u8 0, .int .u8 0, .int .u8 0, .int .u8 0, .int .u8 0, .int .u8 0, .int .u8 0, .int .u8 0, .int .u8 0, .int .u8 0, .int .u8 0, .int .u8 0, .int .u8 0, .int .i64 0, .bool false, .int .u8 0, .int .u8 0, .int .u8 0, .int .u8 0, .int .u8 0, .int .u8 0, .int .u8 0, .int .u8 0, .int .u8 0, .int .u8 0, .int .u8 0, .int .u8 0, .int .u8 0, .int .u8 0, .int .u8 0, .int .u8 0, .int .i64 0, .int .i64 0, .int .i64 0, .int .i64 0] : List Value).toArray W) := Lib.hid (fun b W hW => hW.load 0 40 [.int .i64 0, .bool false, .int .u8 0, .int .u8 0, .int .u8 0, .int .u8 0, .int .u8 0, .int .u8 0, .int .u8 0, .int .u8 0, .int .u8 0, .int .u8 0, .int .u8 0, .int .u8 0, .int .u8 0, .int .u8 0, .int .u8 0, .int .u8 0, .int .i64 0, .bool false, .int .u8 0, .int .u8 0, .int .u8 0, .int .u8 0, .int .u8 0, .int .u8 0, .int .u8 0, .int .u8 0, .int .u8 0, .int .u8 0, .int .u8 0, .int .u8 0, .int .u8 0, .int .u8 0, .int .u8 0, .int .u8 0, .int .i64 0, .int .i64 0, .int .i64 0, .int .i64 0] rfl rfl)
  have HNEW : Hid (∀ W : World, W.heap.size = w.heap.size + 2 → Blk (w.heap.size + 2) hd0.cells 36 (W.alloc (.cells #[.int .i64 0, .bool false, .int .u8 0, .int .u8 0, .int .u8 0, .int .u8 0, .int .u8 0, .int .u8 0, .int .u8 0, .int .u8 0, .int .u8 0, .int .u8 0, .int .u8 0, .int .u8 0, .int .u8 0, .int .u8 0, .int .u8 0, .int .u8 0, .int .i64 0, .bool false, .int .u8 0, .int .u8 0, .int .u8 0, .int .u8 0, .int .u8 0, .int .u8 0, .int .u8 0, .int .u8 0, .int .u8 0, .int .u8 0, .int .u8 0, .int .u8 0, .int .u8 0, .int .u8 0, .int .u8 0, .int .u8 0, .int .i64 0, .int .i64 0, .int .i64 0, .int .i64 0] 36))) := by
    refine Lib.hid ?_
    intro W hW
    exact Blk.new W hd0.cells _ 36 (w.heap.size + 2) rfl hW
  have HZ0 := Lib.hid z0
  have HZ1 := Lib.hid z1
  have HZB := Lib.hid zb
  clear z0 z1 zb
  have h0' : ((l.length : Int) == 0) = false := beq_eq_false_iff_ne.mpr (by omega)
  have h0p : (0 : Int) < (l.length : Int) := by omega
  obtain ⟨ad, rfl, hzz⟩ := (HRS.out w (Below.refl _ _)).atU8 (k := 0) (by omega)
  clear hzz
  have HBY := Lib.hid (fun k hk => byteS _ HRS.out k hk)
  have hxb : ((l.getD 0 0).toNat : Int) < 256 := by have := (l.getD 0 0).toNat_lt; omega
  have hvr : verN l = (l.getD 0 0).toNat / 16 := rfl
  have hxw : IntKind.i64.wrap ((l.getD 0 0).toNat : Int) = ((l.getD 0 0).toNat : Int) := by rw [IntKind.wrap_i64]; omega
  have HX : Hid (∀ W, Below w.heap.size w W → W.cell? ad = some (.int .u8 ((l.getD 0 0).toNat : Int))) := Lib.hid (HBY.out 0 (by omega))
  have h46 : ((l.getD 0 0).toNat : Int) / 16 = 4 ∧ verN l = 4 ∨ ((l.getD 0 0).toNat : Int) / 16 = 6 ∧ ¬ verN l = 4 := by
    by_cases e : verN l = 4
    · exact .inl ⟨by omega, e⟩
    · exact .inr ⟨by omega, e⟩
  have h2' : (l.length : Int) ≤ 300 := by omega
  have hp := parseR_mid l h0 h1 h2
  replace hR := hR.trans hp
  have hPH := parseH_eq l
  replace hH : H = (if R = 0 then ownH (ptsH (midH l) (l.drop (midH l).pt.toNat)) (l.drop (midH l).pt.toNat) else hd0) := by rw [hH, hPH]
  clear hp hPH
  have H46 := Lib.hid h46
  have HPT : Hid (((l.getD 0 0).toNat : Int) % 16 * 4 = (ptN l : Int)) := Lib.hid (by unfold ptN; omega)
  have hmid : Hid (∀ K : Nat, midR l = K → K ≠ 0 → R = K) := Lib.hid (fun K e1 e2 => by rw [hR, e1, if_pos e2])
  have hmidH : Hid (R ≠ 0 → H = hd0) := Lib.hid (fun e => by rw [hH, if_neg e])
  have HRe := Lib.hid hR
  have HHe := Lib.hid hH
  clear h46 h1 hvr h0 hR hH
  generalize (l.getD 0 0) = x at HX H46 HPT hxb hxw
  go_enter Tryd.func12, Tryd.ntmps12
  go_upto_region 2 with (fail)
  clear st1
  generalize (w.alloc (.cells #[.int .i64 0, .bool false, .int .u8 0, .int .u8 0, .int .u8 0, .int .u8 0, .int .u8 0, .int .u8 0, .int .u8 0, .int .u8 0, .int .u8 0, .int .u8 0, .int .u8 0, .int .u8 0, .int .u8 0, .int .u8 0, .int .u8 0, .int .u8 0, .int .i64 0, .bool false, .int .u8 0, .int .u8 0, .int .u8 0, .int .u8 0, .int .u8 0, .int .u8 0, .int .u8 0, .int .u8 0, .int .u8 0, .int .u8 0, .int .u8 0, .int .u8 0, .int .u8 0, .int .u8 0, .int .u8 0, .int .u8 0, .int .i64 0, .int .i64 0, .int .i64 0, .int .i64 0] 36)).alloc (.cells #[.int .i64 0, .bool false, .int .u8 0, .int .u8 0, .int .u8 0, .int .u8 0, .int .u8 0, .int .u8 0, .int .u8 0, .int .u8 0, .int .u8 0, .int .u8 0, .int .u8 0, .int .u8 0, .int .u8 0, .int .u8 0, .int .u8 0, .int .u8 0, .int .i64 0, .bool false, .int .u8 0, .int .u8 0, .int .u8 0, .int .u8 0, .int .u8 0, .int .u8 0, .int .u8 0, .int .u8 0, .int .u8 0, .int .u8 0, .int .u8 0, .int .u8 0, .int .u8 0, .int .u8 0, .int .u8 0, .int .u8 0, .int .i64 0, .int .i64 0, .int .i64 0, .int .i64 0] 36) = w2 at HZ0 HZ1 HZB zs ⊢
  have hx := HX.out _ HZB.out
  have hn2 := HNEW.out _ zs
  have st2 := HSST.out _ _ hn2
  have HN2 := Lib.hid hn2
  clear hn2
  go_upto_region 5 with (fail)
  go_cut [5, 25] (fun s5 s25 wx => s5 = .int .i64 ((x.toNat : Int) / 16) ∧ s25 = .bool false ∧ wx = w2)
  case first =>
    rcases H46.out with ⟨e4, _⟩ | ⟨e6, _⟩
    · have h4' : ((x.toNat : Int) / 16 != 4) = false := by rw [e4]; rfl
      have E4 := Lib.hid e4
      clear e4
      go_wp2_with fail
      go_meet
      exact ⟨by rw [E4.out], rfl, rfl⟩
    · have h4' : ((x.toNat : Int) / 16 != 4) = true := by rw [e6]; rfl
      have h6' : ((x.toNat : Int) / 16 != 6) = false := by rw [e6]; rfl
      have E6 := Lib.hid e6
      clear e6
      go_wp2_with fail
      go_meet
      exact ⟨by rw [E6.out], rfl, rfl⟩
  case rest =>
    obtain ⟨rfl, rfl, rfl⟩ := hcut
    go_upto_if 33 with (fail)
    rename_i K0 hK0
    have HB3 := Lib.hid (HZB.out.alloc HZB.out.size (.cells #[.int .i64 0, .bool false, .int .u8 0, .int .u8 0, .int .u8 0, .int .u8 0, .int .u8 0, .int .u8 0, .int .u8 0, .int .u8 0, .int .u8 0, .int .u8 0, .int .u8 0, .int .u8 0, .int .u8 0, .int .u8 0, .int .u8 0, .int .u8 0, .int .i64 0, .bool false, .int .u8 0, .int .u8 0, .int .u8 0, .int .u8 0, .int .u8 0, .int .u8 0, .int .u8 0, .int .u8 0, .int .u8 0, .int .u8 0, .int .u8 0, .int .u8 0, .int .u8 0, .int .u8 0, .int .u8 0, .int .u8 0, .int .i64 0, .int .i64 0, .int .i64 0, .int .i64 0] 36))
    have HE0 := Lib.hid (HZ0.out.alloc (.cells #[.int .i64 0, .bool false, .int .u8 0, .int .u8 0, .int .u8 0, .int .u8 0, .int .u8 0, .int .u8 0, .int .u8 0, .int .u8 0, .int .u8 0, .int .u8 0, .int .u8 0, .int .u8 0, .int .u8 0, .int .u8 0, .int .u8 0, .int .u8 0, .int .i64 0, .bool false, .int .u8 0, .int .u8 0, .int .u8 0, .int .u8 0, .int .u8 0, .int .u8 0, .int .u8 0, .int .u8 0, .int .u8 0, .int .u8 0, .int .u8 0, .int .u8 0, .int .u8 0, .int .u8 0, .int .u8 0, .int .u8 0, .int .i64 0, .int .i64 0, .int .i64 0, .int .i64 0] 36))
    have HE1 := Lib.hid (HZ1.out.alloc (.cells #[.int .i64 0, .bool false, .int .u8 0, .int .u8 0, .int .u8 0, .int .u8 0, .int .u8 0, .int .u8 0, .int .u8 0, .int .u8 0, .int .u8 0, .int .u8 0, .int .u8 0, .int .u8 0, .int .u8 0, .int .u8 0, .int .u8 0, .int .u8 0, .int .i64 0, .bool false, .int .u8 0, .int .u8 0, .int .u8 0, .int .u8 0, .int .u8 0, .int .u8 0, .int .u8 0, .int .u8 0, .int .u8 0, .int .u8 0, .int .u8 0, .int .u8 0, .int .u8 0, .int .u8 0, .int .u8 0, .int .u8 0, .int .i64 0, .int .i64 0, .int .i64 0, .int .i64 0] 36))
    change Code.wp _ _ _ _ (wc.alloc (.cells #[.int .i64 0, .bool false, .int .u8 0, .int .u8 0, .int .u8 0, .int .u8 0, .int .u8 0, .int .u8 0, .int .u8 0, .int .u8 0, .int .u8 0, .int .u8 0, .int .u8 0, .int .u8 0, .int .u8 0, .int .u8 0, .int .u8 0, .int .u8 0, .int .i64 0, .bool false, .int .u8 0, .int .u8 0, .int .u8 0, .int .u8 0, .int .u8 0, .int .u8 0, .int .u8 0, .int .u8 0, .int .u8 0, .int .u8 0, .int .u8 0, .int .u8 0, .int .u8 0, .int .u8 0, .int .u8 0, .int .u8 0, .int .i64 0, .int .i64 0, .int .i64 0, .int .i64 0] 36))
    clear st2 hx
    generalize wc.alloc (.cells #[.int .i64 0, .bool false, .int .u8 0, .int .u8 0, .int .u8 0, .int .u8 0, .int .u8 0, .int .u8 0, .int .u8 0, .int .u8 0, .int .u8 0, .int .u8 0, .int .u8 0, .int .u8 0, .int .u8 0, .int .u8 0, .int .u8 0, .int .u8 0, .int .i64 0, .bool false, .int .u8 0, .int .u8 0, .int .u8 0, .int .u8 0, .int .u8 0, .int .u8 0, .int .u8 0, .int .u8 0, .int .u8 0, .int .u8 0, .int .u8 0, .int .u8 0, .int .u8 0, .int .u8 0, .int .u8 0, .int .u8 0, .int .i64 0, .int .i64 0, .int .i64 0, .int .i64 0] 36) = w3 at HB3 HE0 HE1 HN2 ⊢
    have hx := HX.out _ HB3.out
    go_cut [] (fun wy => RCut w l wy)
    case first =>
      rename_i J1 K1 hJ1 hK1
      rcases H46.out with ⟨e4, v4⟩ | ⟨e6, v6⟩
      · exact absurd v4 hver
      · have e6' : ((x.toNat : Int) / 16 == 4) = false := by rw [e6]; rfl
        have hmR : midR l = sixR l := by unfold midR; rw [if_neg v6]
        have hmH : midH l = sixH hd0 l := by unfold midH; rw [if_neg v6]
        clear e6 v6
        by_cases h40 : l.length < 40
        · have h40' : (l.length : Int) < 40 := by omega
          have HRR := Lib.hid (hmid.out 2 (hmR.trans (by unfold sixR; rw [if_pos h40])) (by decide))
          clear hmR hmH h40 hJ1 hK1
          have ld1 := HLLD.out _ _ HE1.out
          have st0 := HSST.out _ _ HE0.out
          have ld0 := HLLD.out _ _ HE0.out
          go_upto_region 21 with (fail)
          iterate 14 (first | go_values | go_skip | go_guarded | go_step | go_upon | go_back)
          go_step
          exact bodyPost_ret (v := .tuple #[.agg ([.int .i64 0, .bool false, .int .u8 0, .int .u8 0, .int .u8 0, .int .u8 0, .int .u8 0, .int .u8 0, .int .u8 0, .int .u8 0, .int .u8 0, .int .u8 0, .int .u8 0, .int .u8 0, .int .u8 0, .int .u8 0, .int .u8 0, .int .u8 0, .int .i64 0, .bool false, .int .u8 0, .int .u8 0, .int .u8 0, .int .u8 0, .int .u8 0, .int .u8 0, .int .u8 0, .int .u8 0, .int .u8 0, .int .u8 0, .int .u8 0, .int .u8 0, .int .u8 0, .int .u8 0, .int .u8 0, .int .u8 0, .int .i64 0, .int .i64 0, .int .i64 0, .int .i64 0] : List Value).toArray, .int .i64 2]) (by simp [results, Tryd.results12, go_sem, ld0]) rfl ⟨out_bad H R 2 (hmidH.out (by rw [HRR.out]; decide)) HRR.out, HB3.out⟩
        have h40' : ¬ (l.length : Int) < 40 := by omega
        have KP4 := Lib.hid (fun W hv => pair2_calls (.slice (some ad) l.length c) l 4 4 W hv rfl (by omega) (by omega))
        have hn4 : ((twoN l 4 : Nat) : Int) < 65536 := by have := twoN_lt l 4; omega
        have hn4' : 0 ≤ ((twoN l 4 : Nat) : Int) := by omega
        have ld1 : ∀ n, (loadCells ⟨w.heap.size + 1, 0, none⟩ 40).run Tryd.prog (w3.drewN n) = .ok ([.int .i64 0, .bool false, .int .u8 0, .int .u8 0, .int .u8 0, .int .u8 0, .int .u8 0, .int .u8 0, .int .u8 0, .int .u8 0, .int .u8 0, .int .u8 0, .int .u8 0, .int .u8 0, .int .u8 0, .int .u8 0, .int .u8 0, .int .u8 0, .int .i64 0, .bool false, .int .u8 0, .int .u8 0, .int .u8 0, .int .u8 0, .int .u8 0, .int .u8 0, .int .u8 0, .int .u8 0, .int .u8 0, .int .u8 0, .int .u8 0, .int .u8 0, .int .u8 0, .int .u8 0, .int .u8 0, .int .u8 0, .int .i64 0, .int .i64 0, .int .i64 0, .int .i64 0] : List Value).toArray (w3.drewN n) := fun n => HLLD.out _ _ (HE1.out.drewN n)
        have st0 : ∀ n, (storeCells ⟨w.heap.size, 0, none⟩ [.int .i64 0, .bool false, .int .u8 0, .int .u8 0, .int .u8 0, .int .u8 0, .int .u8 0, .int .u8 0, .int .u8 0, .int .u8 0, .int .u8 0, .int .u8 0, .int .u8 0, .int .u8 0, .int .u8 0, .int .u8 0, .int .u8 0, .int .u8 0, .int .i64 0, .bool false, .int .u8 0, .int .u8 0, .int .u8 0, .int .u8 0, .int .u8 0, .int .u8 0, .int .u8 0, .int .u8 0, .int .u8 0, .int .u8 0, .int .u8 0, .int .u8 0, .int .u8 0, .int .u8 0, .int .u8 0, .int .u8 0, .int .i64 0, .int .i64 0, .int .i64 0, .int .i64 0]).run Tryd.prog (w3.drewN n) = .ok () (w3.drewN n) := fun n => HSST.out _ _ (HE0.out.drewN n)
        have ld0 : ∀ n, (loadCells ⟨w.heap.size, 0, none⟩ 40).run Tryd.prog (w3.drewN n) = .ok ([.int .i64 0, .bool false, .int .u8 0, .int .u8 0, .int .u8 0, .int .u8 0, .int .u8 0, .int .u8 0, .int .u8 0, .int .u8 0, .int .u8 0, .int .u8 0, .int .u8 0, .int .u8 0, .int .u8 0, .int .u8 0, .int .u8 0, .int .u8 0, .int .i64 0, .bool false, .int .u8 0, .int .u8 0, .int .u8 0, .int .u8 0, .int .u8 0, .int .u8 0, .int .u8 0, .int .u8 0, .int .u8 0, .int .u8 0, .int .u8 0, .int .u8 0, .int .u8 0, .int .u8 0, .int .u8 0, .int .u8 0, .int .i64 0, .int .i64 0, .int .i64 0, .int .i64 0] : List Value).toArray (w3.drewN n) := fun n => HLLD.out _ _ (HE0.out.drewN n)
        by_cases h2 : twoN l 4 + 40 ≠ l.length
        · have HRR := Lib.hid (hmid.out 4 (hmR.trans (by unfold sixR; rw [if_neg h40, if_pos h2])) (by decide))
          have q3b : (((twoN l 4 : Nat) : Int) + 40 != (l.length : Int)) = true := bne_iff_ne.mpr (by omega)
          clear hmR hmH h40 h2 hJ1 hK1
          generalize ((twoN l 4 : Nat) : Int) = m at KP4 q3b hn4 hn4'
          go_upto_region 23 with (go_at_call 33; ((with_reducible refine (KP4.out _ (HRS.out _ HB3.out)).mono ?_); rintro e w5 ⟨rfl, n5, rfl⟩))
          iterate 14 (first | go_values | go_skip | go_guarded | go_step | go_upon | go_back)
          go_step
          exact bodyPost_ret (v := .tuple #[.agg ([.int .i64 0, .bool false, .int .u8 0, .int .u8 0, .int .u8 0, .int .u8 0, .int .u8 0, .int .u8 0, .int .u8 0, .int .u8 0, .int .u8 0, .int .u8 0, .int .u8 0, .int .u8 0, .int .u8 0, .int .u8 0, .int .u8 0, .int .u8 0, .int .i64 0, .bool false, .int .u8 0, .int .u8 0, .int .u8 0, .int .u8 0, .int .u8 0, .int .u8 0, .int .u8 0, .int .u8 0, .int .u8 0, .int .u8 0, .int .u8 0, .int .u8 0, .int .u8 0, .int .u8 0, .int .u8 0, .int .u8 0, .int .i64 0, .int .i64 0, .int .i64 0, .int .i64 0] : List Value).toArray, .int .i64 4]) (by simp [results, Tryd.results12, go_sem, ld0]) rfl ⟨out_bad H R 4 (hmidH.out (by rw [HRR.out]; decide)) HRR.out, below_drewN HB3.out _⟩
        clear ld1 st0 ld0
        have HMR := Lib.hid (hmR.trans (show sixR l = 0 by unfold sixR; rw [if_neg h40, if_neg h2]))
        have HMH := Lib.hid hmH
        have q3b : (((twoN l 4 : Nat) : Int) + 40 != (l.length : Int)) = false := by simp; omega
        have HSS := Lib.hid (six_store (w.heap.size + 2) 36 l)
        have h6 : (6 : Int) < (l.length : Int) := by omega
        obtain ⟨A1, y1, _, _, y4⟩ := Row.cutS (P := Tryd.prog) (fun W => Below w.heap.size w W) 22 5 Tryd.underlying22 infoU8 HRS.out (Below.refl _ _) 8 24 (by omega) (by omega)
        have zs1 : ∀ W, (Instr.slice 22 (.slice (some ad) l.length c) (some (.int .i64 8)) (some (.int .i64 24)) none).run Tryd.prog W = .ok (.slice A1 16 (c - 8)) W := fun W => y1 W .i64 .i64
        obtain ⟨A2, x1, _, _, x4⟩ := Row.cutS (P := Tryd.prog) (fun W => Below w.heap.size w W) 22 5 Tryd.underlying22 infoU8 HRS.out (Below.refl _ _) 24 40 (by omega) (by omega)
        have zs2 : ∀ W, (Instr.slice 22 (.slice (some ad) l.length c) (some (.int .i64 24)) (some (.int .i64 40)) none).run Tryd.prog W = .ok (.slice A2 16 (c - 24)) W := fun W => x1 W .i64 .i64
        have hl1 : ((l.take 24).drop 8).length = 16 := by rw [List.length_drop, List.length_take]; omega
        have hl2 : ((l.take 40).drop 24).length = 16 := by rw [List.length_drop, List.length_take]; omega
        have KD1 : Hid (∀ W, Below w.heap.size w W → Calls Tryd.prog 35 #[.slice A1 16 (c - 8)] W fun e w' => e = .returned (adV true (pad ((l.take 24).drop 8))) ∧ Below W.heap.size W w') := Lib.hid (fun W hW => by
          have := refaddress_calls _ _ W (y4 W hW) (.inr hl1)
          rw [hl1] at this; exact this)
        have KD2 : Hid (∀ W, Below w.heap.size w W → Calls Tryd.prog 35 #[.slice A2 16 (c - 24)] W fun e w' => e = .returned (adV true (pad ((l.take 40).drop 24))) ∧ Below W.heap.size W w') := Lib.hid (fun W hW => by
          have := refaddress_calls _ _ W (x4 W hW) (.inr hl2)
          rw [hl2] at this; exact this)
        have hsl1 : (adA true (pad ((l.take 24).drop 8))).toList = adCells true (pad ((l.take 24).drop 8)) := rfl
        have hsl2 : (adA true (pad ((l.take 40).drop 24))).toList = adCells true (pad ((l.take 40).drop 24)) := rfl
        have hsz1 : (adA true (pad ((l.take 24).drop 8))).size = 17 := adCells_len _ _ (pad_le _ _ _ (by decide))
        have hsz2 : (adA true (pad ((l.take 40).drop 24))).size = 17 := adCells_len _ _ (pad_le _ _ _ (by decide))
        have hyb : ((l.getD 6 0).toNat : Int) < 256 := by have := (l.getD 6 0).toNat_lt; omega
        have hyw : IntKind.i64.wrap ((l.getD 6 0).toNat : Int) = ((l.getD 6 0).toNat : Int) := by rw [IntKind.wrap_i64]; omega
        have HY9 : Hid (∀ W, Below w.heap.size w W → W.cell? (ad.add 6) = some (.int .u8 ((l.getD 6 0).toNat : Int))) := Lib.hid (HBY.out 6 (by omega))
        clear hmR hmH h2 h40 y1 y4 x1 x4 hl1 hl2
        generalize hq : pad ((l.take 24).drop 8) = q at KD1 HSS hsl1 hsz1
        generalize hq' : pad ((l.take 40).drop 24) = q' at KD2 HSS hsl2 hsz2
        clear hq hq'
        generalize (l.getD 6 0) = y at HY9 hyb hyw HSS
        generalize sixH hd0 l = h' at HSS HMH
        generalize ((twoN l 4 : Nat) : Int) = m at KP4 q3b hn4 hn4'
        have HW3 : Hid (∀ n, Below w.heap.size w (w3.drewN n)) := Lib.hid (fun n => below_drewN HB3.out n)
        have m4 : ∀ n, (w3.drewN n).cell? ⟨ad.block, ad.off + 6, none⟩ = some (.int .u8 (y.toNat : Int)) := fun n => HY9.out _ (HW3.out n)
        have m4b : w3.cell? ⟨ad.block, ad.off + 6, none⟩ = some (.int .u8 (y.toNat : Int)) := HY9.out _ HB3.out
        go_upto_region 24 with (go_at_call 33; ((with_reducible refine (KP4.out _ (HRS.out _ HB3.out)).mono ?_); rintro e w5 ⟨rfl, n5, rfl⟩))
        go_region_law (first
          | (go_simp; go_at_call 35; ((with_reducible refine (KD1.out _ (HW3.out (n5 + 1))).mono ?_); rintro e w8 ⟨rfl, hb8⟩; have HB8 : Hid (Below w3.heap.size w3 w8) := Lib.hid (below_next (below_drewN (Below.refl _ w3) (n5 + 1)) hb8); have HA8 := Lib.hid (HB3.out.trans (HB8.out.mono HB3.out.size)); have m6 : w8.cell? ⟨ad.block, ad.off + 6, none⟩ = _ := HY9.out _ HA8.out; clear hb8))
          | (go_simp; go_at_call 35; ((with_reducible refine (KD2.out _ HA8.out).mono ?_); rintro e w9 ⟨rfl, hb9⟩; have HB9 : Hid (Below w3.heap.size w3 w9) := Lib.hid (below_next HB8.out hb9); have HA9 := Lib.hid (HB3.out.trans (HB9.out.mono HB3.out.size)); have m7 : w9.cell? ⟨ad.block, ad.off + 6, none⟩ = _ := HY9.out _ HA9.out; obtain ⟨w13, w10, w11, w12, s13, s10, s11, s12, k12, a12, a13⟩ := HSS.out w9 (Blk.below HN2.out HB9.out); have m8 : w13.cell? ⟨ad.block, ad.off + 6, none⟩ = _ := HY9.out _ (below_alt HA9.out a13 HA9.out.size (fun k hk => by omega)); have HK12 := Lib.hid k12; have HA12 := Lib.hid (below_alt HA9.out a12 HA9.out.size (fun k hk => by omega)); have HG0 := Lib.hid ((HE0.out.below HB9.out).alt a12 (by omega)); have HG1 := Lib.hid ((HE1.out.below HB9.out).alt a12 (by omega)); clear hb9 k12 a12)))
        all_goals go_wp2_with fail
        all_goals go_meet
        all_goals exact ⟨HMR.out, HG0.out, HG1.out, by rw [HMH.out]; exact HK12.out, HA12.out⟩
    case rest =>
      refine hK0 _ _ ?_
      by_cases hpr : (midH l).pr ≠ 6 ∧ (midH l).pr ≠ 17
      · exact restbad_wp l w wc ad c H R x (by omega) hc hm HRS.out H46.out HRe.out HHe.out hcut hpr _ _ _ _ _ _ _ _ _ _ _ _ _ _ _ _ _ _ _ _ _ _ _ _ _ _ _ _ _ _ _ _ _ _ _ _ _ _ _ _ _ _ _ _ _ _ _ _ _ _ _ _ _ _ _ _ _ _ _ _ _ _ _ _ _ _ _ _ _ _ _ _ _ _ _ _ _ _ _ _ _ _ _ _ _ _ _ _ _ _ _ _ _ _ _ _ _ _ _ _ _ _ _ _ _ _ _ _ _ _ _ _ _ _ _ _ _ _ _ _ _ _ _ _ _ _ _ _ _ _ _ _ _ _ _ _ _ _ _ _ _ _ _ _ _ _ _ _ _ _ _ _ _ _ _ _ _ _ _ _ _ _ _ _ _ _ _ _ _ _ _ _ _ _ _ _ _ _ _ _ _ _ _ _ _ _ _ _ _ _ _ _ _ _ _ _ _ _ _ _ _ _ _ _ _ _ _ _ _ _ _ _ _ _ _ _ _ _ _ _ _ _ _ _ _ _
      · by_cases h6 : (midH l).pr = 6
        · exact rest6_wp l w wc ad c H R x (by omega) hc hm HRS.out H46.out HRe.out HHe.out hcut h6 _ _ _ _ _ _ _ _ _ _ _ _ _ _ _ _ _ _ _ _ _ _ _ _ _ _ _ _ _ _ _ _ _ _ _ _ _ _ _ _ _ _ _ _ _ _ _ _ _ _ _ _ _ _ _ _ _ _ _ _ _ _ _ _ _ _ _ _ _ _ _ _ _ _ _ _ _ _ _ _ _ _ _ _ _ _ _ _ _ _ _ _ _ _ _ _ _ _ _ _ _ _ _ _ _ _ _ _ _ _ _ _ _ _ _ _ _ _ _ _ _ _ _ _ _ _ _ _ _ _ _ _ _ _ _ _ _ _ _ _ _ _ _ _ _ _ _ _ _ _ _ _ _ _ _ _ _ _ _ _ _ _ _ _ _ _ _ _ _ _ _ _ _ _ _ _ _ _ _ _ _ _ _ _ _ _ _ _ _ _ _ _ _ _ _ _ _ _ _ _ _ _ _ _ _ _ _ _ _ _ _ _ _ _ _ _ _ _ _ _ _ _ _ _ _ _
        · have h17 : (midH l).pr = 17 := by omega
          exact rest17_wp l w wc ad c H R x (by omega) hc hm HRS.out H46.out HRe.out HHe.out hcut h17 _ _ _ _ _ _ _ _ _ _ _ _ _ _ _ _ _ _ _ _ _ _ _ _ _ _ _ _ _ _ _ _ _ _ _ _ _ _ _ _ _ _ _ _ _ _ _ _ _ _ _ _ _ _ _ _ _ _ _ _ _ _ _ _ _ _ _ _ _ _ _ _ _ _ _ _ _ _ _ _ _ _ _ _ _ _ _ _ _ _ _ _ _ _ _ _ _ _ _ _ _ _ _ _ _ _ _ _ _ _ _ _ _ _ _ _ _ _ _ _ _ _ _ _ _ _ _ _ _ _ _ _ _ _ _ _ _ _ _ _ _ _ _ _ _ _ _ _ _ _ _ _ _ _ _ _ _ _ _ _ _ _ _ _ _ _ _ _ _ _ _ _ _ _ _ _ _ _ _ _ _ _ _ _ _ _ _ _ _ _ _ _ _ _ _ _ _ _ _ _ _ _ _ _ _ _ _ _ _ _ _ _ _ _ _ _ _ _ _ _ _ _ _ _ _ _
end Go.Proofs.YtfoehgcamkmooaaDoor.Head
