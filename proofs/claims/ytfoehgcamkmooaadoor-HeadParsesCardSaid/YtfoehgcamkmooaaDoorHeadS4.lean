/- linkboyref28.Parse, behind its first tests. -/
import Derived.Test.YtfoehgcamkmooaaDoorHeadS1
import Derived.Test.YtfoehgcamkmooaaDoorHeadS2
import Derived.Test.YtfoehgcamkmooaaDoorHeadS3
import Derived.Deep.DeepCutAuto
namespace Go.Proofs.YtfoehgcamkmooaaDoor.Head
open Go.RowKit Go.Proofs.YtfoehgcamkmooaaDoor.Mem Go.Proofs.YtfoehgcamkmooaaDoor.Num Go.Proofs.YtfoehgcamkmooaaDoor.Err
open Go.Proofs.YtfoehgcamkmooaaDoor.Addr hiding below_allocd
open Go.Proofs.YtfoehgcamkmooaaDoor.Sums Go.Proofs.YtfoehgcamkmooaaDoor.SumsP Go.Proofs.YtfoehgcamkmooaaDoor.Pseudo
set_option linter.unusedVariables false
set_option linter.unusedSimpArgs false
set_option maxRecDepth 100000
attribute [-go_sem] Builtin.append_ loadCells loadCellsFrom storeCells

set_option maxHeartbeats 16000000 in
theorem refparse_main4bad (v : Value) (l : List UInt8) (w : World) (hv : Row eU8 w v l) (hl : l.length ≤ 600) (h0 : ¬ l.length = 0) (h1 : ¬ (verN l ≠ 4 ∧ verN l ≠ 6)) (h2 : ¬ 300 < l.length) (hver : verN l = 4) (hmr : midR l ≠ 0) :
    Calls Tryd.prog 12 #[v] w fun e w' => e = .returned (.tuple #[.agg (hdA (if parseR l = 0 then parseH l else hd0)), .int .i64 (parseR l : Int)]) ∧ Below w.heap.size w w' := by
  obtain ⟨A, c, rfl, hc, hm, hr⟩ := hv.parts
  have HRS : Hid (∀ W, Below w.heap.size w W → Row eU8 W (.slice A l.length c) l) := Lib.hid (fun W hW => hr.below hW)
  clear hv hr
  obtain ⟨H, hH⟩ : ∃ H, H = (if parseR l = 0 then parseH l else hd0) := ⟨_, rfl⟩
  obtain ⟨R, hR⟩ : ∃ R, R = parseR l := ⟨_, rfl⟩
  rw [← hH, ← hR]
  rw [← hR] at hH
  have z0 : Blk w.heap.size hd0.cells 36 ((w.alloc (.cells #[.int .i64 0, .bool false, .int .u8 0, .int .u8 0, .int .u8 0, .int .u8 0, .int .u8 0, .int .u8 0, .int .u8 0, .int .u8 0, .int .u8 0, .int .u8 0, .int .u8 0, .int .u8 0, .int .u8 0, .int .u8 0, .int .u8 0, .int .u8 0, .int .i64 0, .bool false, .int .u8 0, .int .u8 0, .int .u8 0, .int .u8 0, .int .u8 0, .int .u8 0, .int .u8 0, .int .u8 0, .int .u8 0, .int .u8 0, .int .u8 0, .int .u8 0, .int .u8 0, .int .u8 0, .int .u8 0, .int .u8 0, .int .i64 0, .int .i64 0, .int .i64 0, .int .i64 0] 36)).alloc (.cells #[.int .i64 0, .bool false, .int .u8 0, .int .u8 0, .int .u8 0, .int .u8 0, .int .u8 0, .int .u8 0, .int .u8 0, .int .u8 0, .int .u8 0, .int .u8 0, .int .u8 0, .int .u8 0, .int .u8 0, .int .u8 0, .int .u8 0, .int .u8 0, .int .i64 0, .bool false, .int .u8 0, .int .u8 0, .int .u8 0, .int .u8 0, .int .u8 0, .int .u8 0, .int .u8 0, .int .u8 0, .int .u8 0, .int .u8 0, .int .u8 0, .int .u8 0, .int .u8 0, .int .u8 0, .int .u8 0, .int .u8 0, .int .i64 0, .int .i64 0, .int .i64 0, .int .i64 0] 36)) := (Blk.new _ _ _ _ _ rfl rfl).alloc _
  have z1 : Blk (w.heap.size + 1) hd0.cells 36 ((w.alloc (.cells #[.int .i64 0, .bool false, .int .u8 0, .int .u8 0, .int .u8 0, .int .u8 0, .int .u8 0, .int .u8 0, .int .u8 0, .int .u8 0, .int .u8 0, .int .u8 0, .int .u8 0, .int .u8 0, .int .u8 0, .int .u8 0, .int .u8 0, .int .u8 0, .int .i64 0, .bool false, .int .u8 0, .int .u8 0, .int .u8 0, .int .u8 0, .int .u8 0, .int .u8 0, .int .u8 0, .int .u8 0, .int .u8 0, .int .u8 0, .int .u8 0, .int .u8 0, .int .u8 0, .int .u8 0, .int .u8 0, .int .u8 0, .int .i64 0, .int .i64 0, .int .i64 0, .int .i64 0] 36)).alloc (.cells #[.int .i64 0, .bool false, .int .u8 0, .int .u8 0, .int .u8 0, .int .u8 0, .int .u8 0, .int .u8 0, .int .u8 0, .int .u8 0, .int .u8 0, .int .u8 0, .int .u8 0, .int .u8 0, .int .u8 0, .int .u8 0, .int .u8 0, .int .u8 0, .int .i64 0, .bool false, .int .u8 0, .int .u8 0, .int .u8 0, .int .u8 0, .int .u8 0, .int .u8 0, .int .u8 0, .int .u8 0, .int .u8 0, .int .u8 0, .int .u8 0, .int .u8 0, .int .u8 0, .int .u8 0, .int .u8 0, .int .u8 0, .int .i64 0, .int .i64 0, .int .i64 0, .int .i64 0] 36)) := Blk.new _ _ _ _ _ rfl (by simp)
  have zb : Below w.heap.size w ((w.alloc (.cells #[.int .i64 0, .bool false, .int .u8 0, .int .u8 0, .int .u8 0, .int .u8 0, .int .u8 0, .int .u8 0, .int .u8 0, .int .u8 0, .int .u8 0, .int .u8 0, .int .u8 0, .int .u8 0, .int .u8 0, .int .u8 0, .int .u8 0, .int .u8 0, .int .i64 0, .bool false, .int .u8 0, .int .u8 0, .int .u8 0, .int .u8 0, .int .u8 0, .int .u8 0, .int .u8 0, .int .u8 0, .int .u8 0, .int .u8 0, .int .u8 0, .int .u8 0, .int .u8 0, .int .u8 0, .int .u8 0, .int .u8 0, .int .i64 0, .int .i64 0, .int .i64 0, .int .i64 0] 36)).alloc (.cells #[.int .i64 0, .bool false, .int .u8 0, .int .u8 0, .int .u8 0, .int .u8 0, .int .u8 0, .int .u8 0, .int .u8 0, .int .u8 0, .int .u8 0, .int .u8 0, .int .u8 0, .int .u8 0, .int .u8 0, .int .u8 0, .int .u8 0, .int .u8 0, .int .i64 0, .bool false, .int .u8 0, .int .u8 0, .int .u8 0, .int .u8 0, .int .u8 0, .int .u8 0, .int .u8 0, .int .u8 0, .int .u8 0, .int .u8 0, .int .u8 0, .int .u8 0, .int .u8 0, .int .u8 0, .int .u8 0, .int .u8 0, .int .i64 0, .int .i64 0, .int .i64 0, .int .i64 0] 36)) := ((Below.refl _ _).alloc (Nat.le_refl _) _).alloc (by simp) _
  have zs : ((w.alloc (.cells #[.int .i64 0, .bool false, .int .u8 0, .int .u8 0, .int .u8 0, .int .u8 0, .int .u8 0, .int .u8 0, .int .u8 0, .int .u8 0, .int .u8 0, .int .u8 0, .int .u8 0, .int .u8 0, .int .u8 0, .int .u8 0, .int .u8 0, .int .u8 0, .int .i64 0, .bool false, .int .u8 0, .int .u8 0, .int .u8 0, .int .u8 0, .int .u8 0, .int .u8 0, .int .u8 0, .int .u8 0, .int .u8 0, .int .u8 0, .int .u8 0, .int .u8 0, .int .u8 0, .int .u8 0, .int .u8 0, .int .u8 0, .int .i64 0, .int .i64 0, .int .i64 0, .int .i64 0] 36)).alloc (.cells #[.int .i64 0, .bool false, .int .u8 0, .int .u8 0, .int .u8 0, .int .u8 0, .int .u8 0, .int .u8 0, .int .u8 0, .int .u8 0, .int .u8 0, .int .u8 0, .int .u8 0, .int .u8 0, .int .u8 0, .int .u8 0, .int .u8 0, .int .u8 0, .int .i64 0, .bool false, .int .u8 0, .int .u8 0, .int .u8 0, .int .u8 0, .int .u8 0, .int .u8 0, .int .u8 0, .int .u8 0, .int .u8 0, .int .u8 0, .int .u8 0, .int .u8 0, .int .u8 0, .int .u8 0, .int .u8 0, .int .u8 0, .int .i64 0, .int .i64 0, .int .i64 0, .int .i64 0] 36)).heap.size = w.heap.size + 2 := by simp
  have st1 : (storeCells ⟨w.heap.size + 1, 0, none⟩ [.int .i64 0, .bool false, .int .u8 0, .int .u8 0, .int .u8 0, .int .u8 0, .int .u8 0, .int .u8 0, .int .u8 0, .int .u8 0, .int .u8 0, .int .u8 0, .int .u8 0, .int .u8 0, .int .u8 0, .int .u8 0, .int .u8 0, .int .u8 0, .int .i64 0, .bool false, .int .u8 0, .int .u8 0, .int .u8 0, .int .u8 0, .int .u8 0, .int .u8 0, .int .u8 0, .int .u8 0, .int .u8 0, .int .u8 0, .int .u8 0, .int .u8 0, .int .u8 0, .int .u8 0, .int .u8 0, .int .u8 0, .int .i64 0, .int .i64 0, .int .i64 0, .int .i64 0]).run Tryd.prog ((w.alloc (.cells #[.int .i64 0, .bool false, .int .u8 0, .int .u8 0, .int .u8 0, .int .u8 0, .int .u8 0, .int .u8 0, .int .u8 0, .int .u8 0, .int .u8 0, .int .u8 0, .int .u8 0, .int .u8 0, .int .u8 0, .int .u8 0, .int .u8 0, .int .u8 0, .int .i64 0, .bool false, .int .u8 0, .int .u8 0, .int .u8 0, .int .u8 0, .int .u8 0, .int .u8 0, .int .u8 0, .int .u8 0, .int .u8 0, .int .u8 0, .int .u8 0, .int .u8 0, .int .u8 0, .int .u8 0, .int .u8 0, .int .u8 0, .int .i64 0, .int .i64 0, .int .i64 0, .int .i64 0] 36)).alloc (.cells #[.int .i64 0, .bool false, .int .u8 0, .int .u8 0, .int .u8 0, .int .u8 0, .int .u8 0, .int .u8 0, .int .u8 0, .int .u8 0, .int .u8 0, .int .u8 0, .int .u8 0, .int .u8 0, .int .u8 0, .int .u8 0, .int .u8 0, .int .u8 0, .int .i64 0, .bool false, .int .u8 0, .int .u8 0, .int .u8 0, .int .u8 0, .int .u8 0, .int .u8 0, .int .u8 0, .int .u8 0, .int .u8 0, .int .u8 0, .int .u8 0, .int .u8 0, .int .u8 0, .int .u8 0, .int .u8 0, .int .u8 0, .int .i64 0, .int .i64 0, .int .i64 0, .int .i64 0] 36)) = .ok () ((w.alloc (.cells #[.int .i64 0, .bool false, .int .u8 0, .int .u8 0, .int .u8 0, .int .u8 0, .int .u8 0, .int .u8 0, .int .u8 0, .int .u8 0, .int .u8 0, .int .u8 0, .int .u8 0, .int .u8 0, .int .u8 0, .int .u8 0, .int .u8 0, .int .u8 0, .int .i64 0, .bool false, .int .u8 0, .int .u8 0, .int .u8 0, .int .u8 0, .int .u8 0, .int .u8 0, .int .u8 0, .int .u8 0, .int .u8 0, .int .u8 0, .int .u8 0, .int .u8 0, .int .u8 0, .int .u8 0, .int .u8 0, .int .u8 0, .int .i64 0, .int .i64 0, .int .i64 0, .int .i64 0] 36)).alloc (.cells #[.int .i64 0, .bool false, .int .u8 0, .int .u8 0, .int .u8 0, .int .u8 0, .int .u8 0, .int .u8 0, .int .u8 0, .int .u8 0, .int .u8 0, .int .u8 0, .int .u8 0, .int .u8 0, .int .u8 0, .int .u8 0, .int .u8 0, .int .u8 0, .int .i64 0, .bool false, .int .u8 0, .int .u8 0, .int .u8 0, .int .u8 0, .int .u8 0, .int .u8 0, .int .u8 0, .int .u8 0, .int .u8 0, .int .u8 0, .int .u8 0, .int .u8 0, .int .u8 0, .int .u8 0, .int .u8 0, .int .u8 0, .int .i64 0, .int .i64 0, .int .i64 0, .int .i64 0] 36)) := store_same z1 hd0.one
  have HSST : Hid (∀ b W, Blk b hd0.cells 36 W → (storeCells ⟨b, 0, none⟩ [.int .i64 0, .bool false, .int .u8 0, .int .u8 0, .int .u8 0, .int .u8 0, .int .u8 0, .int .u8 0, .int .u8 0, .int .u8 0, .int .u8 0, .int .u8 0, .int .u8 0, .int .u8 0, .int .u8 0, .int .u8 0, .int .u8 0, .int .u8 0, .int .i64 0, .bool false, .int .u8 0, .int .u8 0, .int .u8 0, .int .u8 0, .int .u8 0, .int .u8 0, .int .u8 0, .int .u8 0, .int .u8 0, .int .u8 0, .int .u8 0, .int .u8 0, .int .u8 0, .int .u8 0, .int .u8 0, .int .u8 0, .int .i64 0, .int .i64 0, .int .i64 0, .int .i64 0]).run Tryd.prog W = .ok () W) := Lib.hid (fun b W hW => store_same hW hd0.one)
  have HLLD : Hid (∀ b W, Blk b hd0.cells 36 W → (loadCells ⟨b, 0, none⟩ 40).run Tryd.prog W = .ok ([.int .i64 0, .bool false, .int .u8 0, .int .u8 0, .int .u8 0, .int .u8 0, .int .u8 0, .int .u8 0, .int .u8 0, .int .u8 0, .int .u8 0, .int .u8 0, .int .u8 0, .int .u8 0, .int .u8 0, .int .u8 0, .int .u8 0, .int .u8 0, .int .i64 0, .bool false, .int .u8 0, .int .u8 0, .int .u8 0, .int .u8 0, .int .u8 0, .int .u8 0, .int .u8 0, .int .u8 0, .int .u8 0, .int .u8 0, .int .u8 0, .int .u8 0, .int .u8 0, .int .u8 0, .int .u8 0, .int .u8 0, .int .i64 0, .int .i64 0, .int .i64 0, .int .i64 0] : List Value).toArray W) := Lib.hid (fun b W hW => hW.load 0 40 [.int .i64 0, .bool false, .int .u8 0, .int .u8 0, .int .u8 0, .int .u8 0, .int .u8 0, .int .u8 0, .int .u8 0, .int .u8 0, .int .u8 0, .int .u8 0, .int .u8 0, .int .u8 0, .int .u8 0, .int .u8 0, .int .u8 0, .int .u8 0, .int .i64 0, .bool false, .int .u8 0, .int .u8 0, .int .u8 0, .int .u8 0, .int .u8 0, .int .u8 0, .int .u8 0, .int .u8 0, .int .u8 0, .int .u8 0, .int .u8 0, .int .u8 0, .int .u8 0, .int .u8 0, .int .u8 0, .int .u8 0, .int .i64 0, .int .i64 0, .int .i64 0, .int .i64 0] rfl rfl)
  have HNEW : Hid (∀ W : World, W.heap.size = w.heap.size + 2 → Blk (w.heap.size + 2) hd0.cells 36 (W.alloc (.cells #[.int .i64 0, .bool false, .int .u8 0, .int .u8 0, .int .u8 0, .int .u8 0, .int .u8 0, .int .u8 0, .int .u8 0, .int .u8 0, .int .u8 0, .int .u8 0, .int .u8 0, .int .u8 0, .int .u8 0, .int .u8 0, .int .u8 0, .int .u8 0, .int .i64 0, .bool false, .int .u8 0, .int .u8 0, .int .u8 0, .int .u8 0, .int .u8 0, .int .u8 0, .int .u8 0, .int .u8 0, .int .u8 0, .int .u8 0, .int .u8 0, .int .u8 0, .int .u8 0, .int .u8 0, .int .u8 0, .int .u8 0, .int .i64 0, .int .i64 0, .int .i64 0, .int .i64 0] 36))) := by
    refine Lib.hid ?_
    intro W hW
    exact Blk.new W hd0.cells _ 36 (w.heap.size + 2) rfl hW
  have HZ0 := Lib.hid z0
  have HZ1 := Lib.hid z1
  have HZB := Lib.hid zb
  clear z0 z1 zb
  have h0' : ((l.length : Int) == 0) = false := beq_eq_false_iff_ne.mpr (by omega)
  have h0p : (0 : Int) < (l.length : Int) := by omega
  obtain ⟨ad, rfl, hzz⟩ := (HRS.out w (Below.refl _ _)).atU8 (k := 0) (by omega)
  clear hzz
  have HBY := Lib.hid (fun k hk => byteS _ HRS.out k hk)
  have hxb : ((l.getD 0 0).toNat : Int) < 256 := by have := (l.getD 0 0).toNat_lt; omega
  have hvr : verN l = (l.getD 0 0).toNat / 16 := rfl
  have hxw : IntKind.i64.wrap ((l.getD 0 0).toNat : Int) = ((l.getD 0 0).toNat : Int) := by rw [IntKind.wrap_i64]; omega
  have HX : Hid (∀ W, Below w.heap.size w W → W.cell? ad = some (.int .u8 ((l.getD 0 0).toNat : Int))) := Lib.hid (HBY.out 0 (by omega))
  have h46 : ((l.getD 0 0).toNat : Int) / 16 = 4 ∧ verN l = 4 ∨ ((l.getD 0 0).toNat : Int) / 16 = 6 ∧ ¬ verN l = 4 := by
    by_cases e : verN l = 4
    · exact .inl ⟨by omega, e⟩
    · exact .inr ⟨by omega, e⟩
  have h2' : (l.length : Int) ≤ 300 := by omega
  have hp := parseR_mid l h0 h1 h2
  replace hR := hR.trans hp
  have hPH := parseH_eq l
  replace hH : H = (if R = 0 then ownH (ptsH (midH l) (l.drop (midH l).pt.toNat)) (l.drop (midH l).pt.toNat) else hd0) := by rw [hH, hPH]
  clear hp hPH
  have H46 := Lib.hid h46
  have HPT : Hid (((l.getD 0 0).toNat : Int) % 16 * 4 = (ptN l : Int)) := Lib.hid (by unfold ptN; omega)
  have hmid : Hid (∀ K : Nat, midR l = K → K ≠ 0 → R = K) := Lib.hid (fun K e1 e2 => by rw [hR, e1, if_pos e2])
  have hmidH : Hid (R ≠ 0 → H = hd0) := Lib.hid (fun e => by rw [hH, if_neg e])
  have HRe := Lib.hid hR
  have HHe := Lib.hid hH
  clear h46 h1 hvr h0 hR hH
  generalize (l.getD 0 0) = x at HX H46 HPT hxb hxw
  go_enter Tryd.func12, Tryd.ntmps12
  go_upto_region 2 with (fail)
  clear st1
  generalize (w.alloc (.cells #[.int .i64 0, .bool false, .int .u8 0, .int .u8 0, .int .u8 0, .int .u8 0, .int .u8 0, .int .u8 0, .int .u8 0, .int .u8 0, .int .u8 0, .int .u8 0, .int .u8 0, .int .u8 0, .int .u8 0, .int .u8 0, .int .u8 0, .int .u8 0, .int .i64 0, .bool false, .int .u8 0, .int .u8 0, .int .u8 0, .int .u8 0, .int .u8 0, .int .u8 0, .int .u8 0, .int .u8 0, .int .u8 0, .int .u8 0, .int .u8 0, .int .u8 0, .int .u8 0, .int .u8 0, .int .u8 0, .int .u8 0, .int .i64 0, .int .i64 0, .int .i64 0, .int .i64 0] 36)).alloc (.cells #[.int .i64 0, .bool false, .int .u8 0, .int .u8 0, .int .u8 0, .int .u8 0, .int .u8 0, .int .u8 0, .int .u8 0, .int .u8 0, .int .u8 0, .int .u8 0, .int .u8 0, .int .u8 0, .int .u8 0, .int .u8 0, .int .u8 0, .int .u8 0, .int .i64 0, .bool false, .int .u8 0, .int .u8 0, .int .u8 0, .int .u8 0, .int .u8 0, .int .u8 0, .int .u8 0, .int .u8 0, .int .u8 0, .int .u8 0, .int .u8 0, .int .u8 0, .int .u8 0, .int .u8 0, .int .u8 0, .int .u8 0, .int .i64 0, .int .i64 0, .int .i64 0, .int .i64 0] 36) = w2 at HZ0 HZ1 HZB zs ⊢
  have hx := HX.out _ HZB.out
  have hn2 := HNEW.out _ zs
  have st2 := HSST.out _ _ hn2
  have HN2 := Lib.hid hn2
  clear hn2
  go_upto_region 5 with (fail)
  go_cut [5, 25] (fun s5 s25 wx => s5 = .int .i64 ((x.toNat : Int) / 16) ∧ s25 = .bool false ∧ wx = w2)
  case first =>
    rcases H46.out with ⟨e4, _⟩ | ⟨e6, _⟩
    · have h4' : ((x.toNat : Int) / 16 != 4) = false := by rw [e4]; rfl
      have E4 := Lib.hid e4
      clear e4
      go_wp2_with fail
      go_meet
      exact ⟨by rw [E4.out], rfl, rfl⟩
    · have h4' : ((x.toNat : Int) / 16 != 4) = true := by rw [e6]; rfl
      have h6' : ((x.toNat : Int) / 16 != 6) = false := by rw [e6]; rfl
      have E6 := Lib.hid e6
      clear e6
      go_wp2_with fail
      go_meet
      exact ⟨by rw [E6.out], rfl, rfl⟩
  case rest =>
    obtain ⟨rfl, rfl, rfl⟩ := hcut
    go_upto_if 33 with (fail)
    rename_i K0 hK0
    have HB3 := Lib.hid (HZB.out.alloc HZB.out.size (.cells #[.int .i64 0, .bool false, .int .u8 0, .int .u8 0, .int .u8 0, .int .u8 0, .int .u8 0, .int .u8 0, .int .u8 0, .int .u8 0, .int .u8 0, .int .u8 0, .int .u8 0, .int .u8 0, .int .u8 0, .int .u8 0, .int .u8 0, .int .u8 0, .int .i64 0, .bool false, .int .u8 0, .int .u8 0, .int .u8 0, .int .u8 0, .int .u8 0, .int .u8 0, .int .u8 0, .int .u8 0, .int .u8 0, .int .u8 0, .int .u8 0, .int .u8 0, .int .u8 0, .int .u8 0, .int .u8 0, .int .u8 0, .int .i64 0, .int .i64 0, .int .i64 0, .int .i64 0] 36))
    have HE0 := Lib.hid (HZ0.out.alloc (.cells #[.int .i64 0, .bool false, .int .u8 0, .int .u8 0, .int .u8 0, .int .u8 0, .int .u8 0, .int .u8 0, .int .u8 0, .int .u8 0, .int .u8 0, .int .u8 0, .int .u8 0, .int .u8 0, .int .u8 0, .int .u8 0, .int .u8 0, .int .u8 0, .int .i64 0, .bool false, .int .u8 0, .int .u8 0, .int .u8 0, .int .u8 0, .int .u8 0, .int .u8 0, .int .u8 0, .int .u8 0, .int .u8 0, .int .u8 0, .int .u8 0, .int .u8 0, .int .u8 0, .int .u8 0, .int .u8 0, .int .u8 0, .int .i64 0, .int .i64 0, .int .i64 0, .int .i64 0] 36))
    have HE1 := Lib.hid (HZ1.out.alloc (.cells #[.int .i64 0, .bool false, .int .u8 0, .int .u8 0, .int .u8 0, .int .u8 0, .int .u8 0, .int .u8 0, .int .u8 0, .int .u8 0, .int .u8 0, .int .u8 0, .int .u8 0, .int .u8 0, .int .u8 0, .int .u8 0, .int .u8 0, .int .u8 0, .int .i64 0, .bool false, .int .u8 0, .int .u8 0, .int .u8 0, .int .u8 0, .int .u8 0, .int .u8 0, .int .u8 0, .int .u8 0, .int .u8 0, .int .u8 0, .int .u8 0, .int .u8 0, .int .u8 0, .int .u8 0, .int .u8 0, .int .u8 0, .int .i64 0, .int .i64 0, .int .i64 0, .int .i64 0] 36))
    change Code.wp _ _ _ _ (wc.alloc (.cells #[.int .i64 0, .bool false, .int .u8 0, .int .u8 0, .int .u8 0, .int .u8 0, .int .u8 0, .int .u8 0, .int .u8 0, .int .u8 0, .int .u8 0, .int .u8 0, .int .u8 0, .int .u8 0, .int .u8 0, .int .u8 0, .int .u8 0, .int .u8 0, .int .i64 0, .bool false, .int .u8 0, .int .u8 0, .int .u8 0, .int .u8 0, .int .u8 0, .int .u8 0, .int .u8 0, .int .u8 0, .int .u8 0, .int .u8 0, .int .u8 0, .int .u8 0, .int .u8 0, .int .u8 0, .int .u8 0, .int .u8 0, .int .i64 0, .int .i64 0, .int .i64 0, .int .i64 0] 36))
    clear st2 hx
    generalize wc.alloc (.cells #[.int .i64 0, .bool false, .int .u8 0, .int .u8 0, .int .u8 0, .int .u8 0, .int .u8 0, .int .u8 0, .int .u8 0, .int .u8 0, .int .u8 0, .int .u8 0, .int .u8 0, .int .u8 0, .int .u8 0, .int .u8 0, .int .u8 0, .int .u8 0, .int .i64 0, .bool false, .int .u8 0, .int .u8 0, .int .u8 0, .int .u8 0, .int .u8 0, .int .u8 0, .int .u8 0, .int .u8 0, .int .u8 0, .int .u8 0, .int .u8 0, .int .u8 0, .int .u8 0, .int .u8 0, .int .u8 0, .int .u8 0, .int .i64 0, .int .i64 0, .int .i64 0, .int .i64 0] 36) = w3 at HB3 HE0 HE1 HN2 ⊢
    have hx := HX.out _ HB3.out
    go_cut [] (fun wy => RCut w l wy)
    case first =>
      rename_i J1 K1 hJ1 hK1
      rcases H46.out with ⟨e4, v4⟩ | ⟨e6, v6⟩
      · have e4' : ((x.toNat : Int) / 16 == 4) = true := by rw [e4]; rfl
        have hmR : midR l = fourR l := by unfold midR; rw [if_pos v4]
        have hmH : midH l = fourH hd0 l := by unfold midH; rw [if_pos v4]
        clear e4 v4
        by_cases h20 : l.length < 20
        · have h20' : (l.length : Int) < 20 := by omega
          have HRR := Lib.hid (hmid.out 2 (hmR.trans (fourR0 l h20)) (by decide))
          clear hmR hmH h20 hJ1 hK1
          have ld1 := HLLD.out _ _ HE1.out
          have st0 := HSST.out _ _ HE0.out
          have ld0 := HLLD.out _ _ HE0.out
          go_upto_region 12 with (fail)
          iterate 14 (first | go_values | go_skip | go_guarded | go_step | go_upon | go_back)
          go_step
          exact bodyPost_ret (v := .tuple #[.agg ([.int .i64 0, .bool false, .int .u8 0, .int .u8 0, .int .u8 0, .int .u8 0, .int .u8 0, .int .u8 0, .int .u8 0, .int .u8 0, .int .u8 0, .int .u8 0, .int .u8 0, .int .u8 0, .int .u8 0, .int .u8 0, .int .u8 0, .int .u8 0, .int .i64 0, .bool false, .int .u8 0, .int .u8 0, .int .u8 0, .int .u8 0, .int .u8 0, .int .u8 0, .int .u8 0, .int .u8 0, .int .u8 0, .int .u8 0, .int .u8 0, .int .u8 0, .int .u8 0, .int .u8 0, .int .u8 0, .int .u8 0, .int .i64 0, .int .i64 0, .int .i64 0, .int .i64 0] : List Value).toArray, .int .i64 2]) (by simp [results, Tryd.results12, go_sem, ld0]) rfl ⟨out_bad H R 2 (hmidH.out (by rw [HRR.out]; decide)) HRR.out, HB3.out⟩
        have h20' : ¬ (l.length : Int) < 20 := by omega
        have h9 : (9 : Int) < (l.length : Int) := by omega
        obtain ⟨w4, s4, k4, a4⟩ := pt_store (w.heap.size + 2) 36 l _ HPT.out w3 HN2.out
        have HB4 := Lib.hid (below_alt HB3.out a4 HB3.out.size (fun k hk => by omega))
        have HF0 := Lib.hid (HE0.out.alt a4 (by omega))
        have HF1 := Lib.hid (HE1.out.alt a4 (by omega))
        have HK4 := Lib.hid k4
        have hc38 : w4.cell? ⟨w.heap.size + 2, 38, none⟩ = some (.int .i64 (ptN l : Int)) := k4.vals.2.2.2.2.2.1
        have KP2 := Lib.hid (fun W hv => pair2_calls (.slice (some ad) l.length c) l 2 2 W hv rfl (by omega) (by omega))
        have KP6 := Lib.hid (fun W hv => pair2_calls (.slice (some ad) l.length c) l 6 6 W hv rfl (by omega) (by omega))
        have hpn : ptN l ≤ 60 := by unfold ptN; omega
        have hn1 := twoN_lt l 6
        have hn2 := twoN_lt l 2
        clear a4 k4
        by_cases h2 : ptN l < 20 ∨ l.length < ptN l ∨ twoN l 2 ≠ l.length ∨ fragB (twoN l 6) = true
        · have HRR := Lib.hid (hmid.out 4 (hmR.trans (fourR1 l h20 h2)) (by decide))
          have hb := four_bad l h2
          clear hmR hmH h20 h2 hJ1 hK1
          have ld1 : ∀ n, (loadCells ⟨w.heap.size + 1, 0, none⟩ 40).run Tryd.prog (w4.drewN n) = .ok ([.int .i64 0, .bool false, .int .u8 0, .int .u8 0, .int .u8 0, .int .u8 0, .int .u8 0, .int .u8 0, .int .u8 0, .int .u8 0, .int .u8 0, .int .u8 0, .int .u8 0, .int .u8 0, .int .u8 0, .int .u8 0, .int .u8 0, .int .u8 0, .int .i64 0, .bool false, .int .u8 0, .int .u8 0, .int .u8 0, .int .u8 0, .int .u8 0, .int .u8 0, .int .u8 0, .int .u8 0, .int .u8 0, .int .u8 0, .int .u8 0, .int .u8 0, .int .u8 0, .int .u8 0, .int .u8 0, .int .u8 0, .int .i64 0, .int .i64 0, .int .i64 0, .int .i64 0] : List Value).toArray (w4.drewN n) := fun n => HLLD.out _ _ (HF1.out.drewN n)
          have st0 : ∀ n, (storeCells ⟨w.heap.size, 0, none⟩ [.int .i64 0, .bool false, .int .u8 0, .int .u8 0, .int .u8 0, .int .u8 0, .int .u8 0, .int .u8 0, .int .u8 0, .int .u8 0, .int .u8 0, .int .u8 0, .int .u8 0, .int .u8 0, .int .u8 0, .int .u8 0, .int .u8 0, .int .u8 0, .int .i64 0, .bool false, .int .u8 0, .int .u8 0, .int .u8 0, .int .u8 0, .int .u8 0, .int .u8 0, .int .u8 0, .int .u8 0, .int .u8 0, .int .u8 0, .int .u8 0, .int .u8 0, .int .u8 0, .int .u8 0, .int .u8 0, .int .u8 0, .int .i64 0, .int .i64 0, .int .i64 0, .int .i64 0]).run Tryd.prog (w4.drewN n) = .ok () (w4.drewN n) := fun n => HSST.out _ _ (HF0.out.drewN n)
          have ld0 : ∀ n, (loadCells ⟨w.heap.size, 0, none⟩ 40).run Tryd.prog (w4.drewN n) = .ok ([.int .i64 0, .bool false, .int .u8 0, .int .u8 0, .int .u8 0, .int .u8 0, .int .u8 0, .int .u8 0, .int .u8 0, .int .u8 0, .int .u8 0, .int .u8 0, .int .u8 0, .int .u8 0, .int .u8 0, .int .u8 0, .int .u8 0, .int .u8 0, .int .i64 0, .bool false, .int .u8 0, .int .u8 0, .int .u8 0, .int .u8 0, .int .u8 0, .int .u8 0, .int .u8 0, .int .u8 0, .int .u8 0, .int .u8 0, .int .u8 0, .int .u8 0, .int .u8 0, .int .u8 0, .int .u8 0, .int .u8 0, .int .i64 0, .int .i64 0, .int .i64 0, .int .i64 0] : List Value).toArray (w4.drewN n) := fun n => HLLD.out _ _ (HF0.out.drewN n)
          generalize twoN l 2 = m at KP2 hb hn2
          generalize twoN l 6 = f at KP6 hb hn1
          generalize ptN l = p at hc38 hb s4 hpn HPT HK4
          rcases hb with q1 | ⟨q1, q2⟩ | ⟨q1, q2, q3⟩ | ⟨q1, q2, q3, q4, q5⟩
          · go_upto_region 16 with (go_at_call 33; ((with_reducible refine (KP6.out _ (HRS.out _ HB4.out)).mono ?_); rintro e w5 ⟨rfl, n5, rfl⟩))
            iterate 14 (first | go_values | go_skip | go_guarded | go_step | go_upon | go_back)
            go_step
            exact bodyPost_ret (v := .tuple #[.agg ([.int .i64 0, .bool false, .int .u8 0, .int .u8 0, .int .u8 0, .int .u8 0, .int .u8 0, .int .u8 0, .int .u8 0, .int .u8 0, .int .u8 0, .int .u8 0, .int .u8 0, .int .u8 0, .int .u8 0, .int .u8 0, .int .u8 0, .int .u8 0, .int .i64 0, .bool false, .int .u8 0, .int .u8 0, .int .u8 0, .int .u8 0, .int .u8 0, .int .u8 0, .int .u8 0, .int .u8 0, .int .u8 0, .int .u8 0, .int .u8 0, .int .u8 0, .int .u8 0, .int .u8 0, .int .u8 0, .int .u8 0, .int .i64 0, .int .i64 0, .int .i64 0, .int .i64 0] : List Value).toArray, .int .i64 4]) (by simp [results, Tryd.results12, go_sem, ld0]) rfl ⟨out_bad H R 4 (hmidH.out (by rw [HRR.out]; decide)) HRR.out, below_drewN HB4.out _⟩
          · go_upto_region 16 with (go_at_call 33; ((with_reducible refine (KP6.out _ (HRS.out _ HB4.out)).mono ?_); rintro e w5 ⟨rfl, n5, rfl⟩))
            iterate 14 (first | go_values | go_skip | go_guarded | go_step | go_upon | go_back)
            go_step
            exact bodyPost_ret (v := .tuple #[.agg ([.int .i64 0, .bool false, .int .u8 0, .int .u8 0, .int .u8 0, .int .u8 0, .int .u8 0, .int .u8 0, .int .u8 0, .int .u8 0, .int .u8 0, .int .u8 0, .int .u8 0, .int .u8 0, .int .u8 0, .int .u8 0, .int .u8 0, .int .u8 0, .int .i64 0, .bool false, .int .u8 0, .int .u8 0, .int .u8 0, .int .u8 0, .int .u8 0, .int .u8 0, .int .u8 0, .int .u8 0, .int .u8 0, .int .u8 0, .int .u8 0, .int .u8 0, .int .u8 0, .int .u8 0, .int .u8 0, .int .u8 0, .int .i64 0, .int .i64 0, .int .i64 0, .int .i64 0] : List Value).toArray, .int .i64 4]) (by simp [results, Tryd.results12, go_sem, ld0]) rfl ⟨out_bad H R 4 (hmidH.out (by rw [HRR.out]; decide)) HRR.out, below_drewN HB4.out _⟩
          · have q3b : ((m : Int) != (l.length : Int)) = true := bne_iff_ne.mpr (by omega)
            clear q3
            go_upto_region 16 with (first | (go_at_call 33; ((with_reducible refine (KP6.out _ (HRS.out _ HB4.out)).mono ?_); rintro e w5 ⟨rfl, n5, rfl⟩)) | (go_at_call 33; ((with_reducible refine (KP2.out _ (HRS.out _ (below_drewN HB4.out n5))).mono ?_); rintro e w6 ⟨rfl, n6, rfl⟩)))
            iterate 14 (first | go_values | go_skip | go_guarded | go_step | go_upon | go_back)
            go_step
            exact bodyPost_ret (v := .tuple #[.agg ([.int .i64 0, .bool false, .int .u8 0, .int .u8 0, .int .u8 0, .int .u8 0, .int .u8 0, .int .u8 0, .int .u8 0, .int .u8 0, .int .u8 0, .int .u8 0, .int .u8 0, .int .u8 0, .int .u8 0, .int .u8 0, .int .u8 0, .int .u8 0, .int .i64 0, .bool false, .int .u8 0, .int .u8 0, .int .u8 0, .int .u8 0, .int .u8 0, .int .u8 0, .int .u8 0, .int .u8 0, .int .u8 0, .int .u8 0, .int .u8 0, .int .u8 0, .int .u8 0, .int .u8 0, .int .u8 0, .int .u8 0, .int .i64 0, .int .i64 0, .int .i64 0, .int .i64 0] : List Value).toArray, .int .i64 4]) (by simp [results, Tryd.results12, go_sem, ld0]) rfl ⟨out_bad H R 4 (hmidH.out (by rw [HRR.out]; decide)) HRR.out, below_drewN HB4.out _⟩
          · have q4b : ((f : Int) != 0) = true := bne_iff_ne.mpr (by omega)
            have q5b : ((f : Int) != 16384) = true := bne_iff_ne.mpr (by omega)
            subst q3
            clear q4 q5
            go_upto_region 16 with (first | (go_at_call 33; ((with_reducible refine (KP6.out _ (HRS.out _ HB4.out)).mono ?_); rintro e w5 ⟨rfl, n5, rfl⟩)) | (go_at_call 33; ((with_reducible refine (KP2.out _ (HRS.out _ (below_drewN HB4.out n5))).mono ?_); rintro e w6 ⟨rfl, n6, rfl⟩)))
            iterate 14 (first | go_values | go_skip | go_guarded | go_step | go_upon | go_back)
            go_step
            exact bodyPost_ret (v := .tuple #[.agg ([.int .i64 0, .bool false, .int .u8 0, .int .u8 0, .int .u8 0, .int .u8 0, .int .u8 0, .int .u8 0, .int .u8 0, .int .u8 0, .int .u8 0, .int .u8 0, .int .u8 0, .int .u8 0, .int .u8 0, .int .u8 0, .int .u8 0, .int .u8 0, .int .i64 0, .bool false, .int .u8 0, .int .u8 0, .int .u8 0, .int .u8 0, .int .u8 0, .int .u8 0, .int .u8 0, .int .u8 0, .int .u8 0, .int .u8 0, .int .u8 0, .int .u8 0, .int .u8 0, .int .u8 0, .int .u8 0, .int .u8 0, .int .i64 0, .int .i64 0, .int .i64 0, .int .i64 0] : List Value).toArray, .int .i64 4]) (by simp [results, Tryd.results12, go_sem, ld0]) rfl ⟨out_bad H R 4 (hmidH.out (by rw [HRR.out]; decide)) HRR.out, below_drewN HB4.out _⟩
        obtain ⟨hq1, hq2, hq3, hq4⟩ := four_good l h2
        obtain ⟨A0, _, z2, _, z4⟩ := Row.cutS (P := Tryd.prog) (fun W => Below w.heap.size w W) 22 5 Tryd.underlying22 infoU8 HRS.out (Below.refl _ _) 0 (ptN l) (by omega) (by omega)
        have zs0 : ∀ W, (Instr.slice 22 (.slice (some ad) l.length c) none (some (.int .i64 (ptN l : Int))) none).run Tryd.prog W = .ok (.slice A0 (ptN l) c) W := fun W => z2 rfl W .i64
        have KG : Hid (∀ W, Below w.heap.size w W → Calls Tryd.prog 34 #[.slice A0 (ptN l) c] W fun e w' => e = .returned (.bool (goodN (total (l.take (ptN l)) : Nat))) ∧ W = w') := Lib.hid (fun W hW => good_calls (.slice A0 (ptN l) c) (l.take (ptN l)) W (by have := z4 W hW; simpa using this) (by rw [List.length_take]; omega))
        have hR2 : midR l = if goodN (total (l.take (ptN l)) : Nat) = false then 5 else 0 := hmR.trans (fourR2 l h20 h2)
        have HQ4 : Hid (((twoN l 6 : Nat) : Int) = 0 ∨ ((twoN l 6 : Nat) : Int) = 16384) := Lib.hid (by omega)
        have HQ3 := Lib.hid hq3
        have KF2 : Hid (∀ W, Below w.heap.size w W → Calls Tryd.prog 33 #[.slice (some ad) l.length c, .int .i64 2] W fun e w' => e = .returned (.int .i64 (l.length : Int)) ∧ ∃ n, w' = W.drewN n) := Lib.hid (fun W hW => by have := KP2.out W (HRS.out _ hW); rw [HQ3.out] at this; exact this)
        have HFS := Lib.hid (four_store (w.heap.size + 2) 36 l)
        obtain ⟨A1, y1, _, _, y4⟩ := Row.cutS (P := Tryd.prog) (fun W => Below w.heap.size w W) 22 5 Tryd.underlying22 infoU8 HRS.out (Below.refl _ _) 12 16 (by omega) (by omega)
        have zs1 : ∀ W, (Instr.slice 22 (.slice (some ad) l.length c) (some (.int .i64 12)) (some (.int .i64 16)) none).run Tryd.prog W = .ok (.slice A1 4 (c - 12)) W := fun W => y1 W .i64 .i64
        obtain ⟨A2, x1, _, _, x4⟩ := Row.cutS (P := Tryd.prog) (fun W => Below w.heap.size w W) 22 5 Tryd.underlying22 infoU8 HRS.out (Below.refl _ _) 16 20 (by omega) (by omega)
        have zs2 : ∀ W, (Instr.slice 22 (.slice (some ad) l.length c) (some (.int .i64 16)) (some (.int .i64 20)) none).run Tryd.prog W = .ok (.slice A2 4 (c - 16)) W := fun W => x1 W .i64 .i64
        have hl1 : ((l.take 16).drop 12).length = 4 := by rw [List.length_drop, List.length_take]; omega
        have hl2 : ((l.take 20).drop 16).length = 4 := by rw [List.length_drop, List.length_take]; omega
        have KD1 : Hid (∀ W, Below w.heap.size w W → Calls Tryd.prog 35 #[.slice A1 4 (c - 12)] W fun e w' => e = .returned (adV false (pad ((l.take 16).drop 12))) ∧ Below W.heap.size W w') := Lib.hid (fun W hW => by
          have := refaddress_calls _ _ W (y4 W hW) (.inl hl1)
          rw [hl1] at this; exact this)
        have KD2 : Hid (∀ W, Below w.heap.size w W → Calls Tryd.prog 35 #[.slice A2 4 (c - 16)] W fun e w' => e = .returned (adV false (pad ((l.take 20).drop 16))) ∧ Below W.heap.size W w') := Lib.hid (fun W hW => by
          have := refaddress_calls _ _ W (x4 W hW) (.inl hl2)
          rw [hl2] at this; exact this)
        have hsl1 : (adA false (pad ((l.take 16).drop 12))).toList = adCells false (pad ((l.take 16).drop 12)) := rfl
        have hsl2 : (adA false (pad ((l.take 20).drop 16))).toList = adCells false (pad ((l.take 20).drop 16)) := rfl
        have hsz1 : (adA false (pad ((l.take 16).drop 12))).size = 17 := adCells_len _ _ (pad_le _ _ _ (by decide))
        have hsz2 : (adA false (pad ((l.take 20).drop 16))).size = 17 := adCells_len _ _ (pad_le _ _ _ (by decide))
        have hyb : ((l.getD 9 0).toNat : Int) < 256 := by have := (l.getD 9 0).toNat_lt; omega
        have hyw : IntKind.i64.wrap ((l.getD 9 0).toNat : Int) = ((l.getD 9 0).toNat : Int) := by rw [IntKind.wrap_i64]; omega
        have HY9 : Hid (∀ W, Below w.heap.size w W → W.cell? (ad.add 9) = some (.int .u8 ((l.getD 9 0).toNat : Int))) := Lib.hid (HBY.out 9 (by omega))
        have HMH := Lib.hid hmH
        have HMR := Lib.hid hR2
        have hml : (l.length : Int) ≤ (l.length : Int) := Int.le_refl _
        clear hmR hmH hR2 h2 hq3 hq4 z2 z4 y1 y4 x1 x4 hl1 hl2 h20
        generalize hq : pad ((l.take 16).drop 12) = q at KD1 HFS hsl1 hsz1
        generalize hq' : pad ((l.take 20).drop 16) = q' at KD2 HFS hsl2 hsz2
        clear hq hq'
        generalize (l.getD 9 0) = y at HY9 hyb hyw HFS
        generalize goodN (total (l.take (ptN l)) : Nat) = G at KG HMR
        generalize fourH hd0 l = h' at HFS HMH
        generalize ({ hd0 with pt := (ptN l : Int) } : Hd) = h1 at HFS HK4
        generalize ptN l = p at hc38 s4 hpn HPT KG zs0 hq1 hq2
        have f6 : ∃ z : Int, z = ((twoN l 6 : Nat) : Int) := ⟨_, rfl⟩
        obtain ⟨f, hf⟩ := f6
        rw [← hf] at KP6 HQ4
        clear hf KP2
        have HP71 : Hid ((decide ((p : Int) < 20) || decide (l.length < p)) = false) := Lib.hid (by rw [decide_eq_false hq1, decide_eq_false (by omega)]; rfl)
        go_upto_region 15 with (go_at_call 33; ((with_reducible refine (KP6.out _ (HRS.out _ HB4.out)).mono ?_); rintro e w5 ⟨rfl, n5, rfl⟩))
        go_cut [71] (fun s71 wz => s71 = .bool false ∧ ∃ n, wz = w4.drewN n)
        case first =>
          have q3b : ((l.length : Int) != (l.length : Int)) = false := by simp
          rcases HQ4.out with q4 | q4
          · subst q4
            go_wp2_with (go_at_call 33; ((with_reducible refine (KF2.out _ (below_drewN HB4.out n5)).mono ?_); rintro e w6 ⟨rfl, n6, rfl⟩))
            go_meet
            exact ⟨congrArg Value.bool HP71.out, n5 + n6, rfl⟩
          · subst q4
            go_wp2_with (go_at_call 33; ((with_reducible refine (KF2.out _ (below_drewN HB4.out n5)).mono ?_); rintro e w6 ⟨rfl, n6, rfl⟩))
            go_meet
            exact ⟨congrArg Value.bool HP71.out, n5 + n6, rfl⟩
        case rest =>
          obtain ⟨rfl, n7, rfl⟩ := hcut
          have m4 : (w4.drewN n7).cell? ⟨ad.block, ad.off + 9, none⟩ = _ := HY9.out _ (below_drewN HB4.out n7)
          have m4a : (w4.drewN (n7 + 1)).cell? ⟨ad.block, ad.off + 9, none⟩ = _ := HY9.out _ (below_drewN HB4.out (n7 + 1))
          cases G
          · have HRR := Lib.hid (hmid.out 5 HMR.out (by decide))
            have ld1 : ∀ n, (loadCells ⟨w.heap.size + 1, 0, none⟩ 40).run Tryd.prog (w4.drewN n) = .ok ([.int .i64 0, .bool false, .int .u8 0, .int .u8 0, .int .u8 0, .int .u8 0, .int .u8 0, .int .u8 0, .int .u8 0, .int .u8 0, .int .u8 0, .int .u8 0, .int .u8 0, .int .u8 0, .int .u8 0, .int .u8 0, .int .u8 0, .int .u8 0, .int .i64 0, .bool false, .int .u8 0, .int .u8 0, .int .u8 0, .int .u8 0, .int .u8 0, .int .u8 0, .int .u8 0, .int .u8 0, .int .u8 0, .int .u8 0, .int .u8 0, .int .u8 0, .int .u8 0, .int .u8 0, .int .u8 0, .int .u8 0, .int .i64 0, .int .i64 0, .int .i64 0, .int .i64 0] : List Value).toArray (w4.drewN n) := fun n => HLLD.out _ _ (HF1.out.drewN n)
            have st0 : ∀ n, (storeCells ⟨w.heap.size, 0, none⟩ [.int .i64 0, .bool false, .int .u8 0, .int .u8 0, .int .u8 0, .int .u8 0, .int .u8 0, .int .u8 0, .int .u8 0, .int .u8 0, .int .u8 0, .int .u8 0, .int .u8 0, .int .u8 0, .int .u8 0, .int .u8 0, .int .u8 0, .int .u8 0, .int .i64 0, .bool false, .int .u8 0, .int .u8 0, .int .u8 0, .int .u8 0, .int .u8 0, .int .u8 0, .int .u8 0, .int .u8 0, .int .u8 0, .int .u8 0, .int .u8 0, .int .u8 0, .int .u8 0, .int .u8 0, .int .u8 0, .int .u8 0, .int .i64 0, .int .i64 0, .int .i64 0, .int .i64 0]).run Tryd.prog (w4.drewN n) = .ok () (w4.drewN n) := fun n => HSST.out _ _ (HF0.out.drewN n)
            have ld0 : ∀ n, (loadCells ⟨w.heap.size, 0, none⟩ 40).run Tryd.prog (w4.drewN n) = .ok ([.int .i64 0, .bool false, .int .u8 0, .int .u8 0, .int .u8 0, .int .u8 0, .int .u8 0, .int .u8 0, .int .u8 0, .int .u8 0, .int .u8 0, .int .u8 0, .int .u8 0, .int .u8 0, .int .u8 0, .int .u8 0, .int .u8 0, .int .u8 0, .int .i64 0, .bool false, .int .u8 0, .int .u8 0, .int .u8 0, .int .u8 0, .int .u8 0, .int .u8 0, .int .u8 0, .int .u8 0, .int .u8 0, .int .u8 0, .int .u8 0, .int .u8 0, .int .u8 0, .int .u8 0, .int .u8 0, .int .u8 0, .int .i64 0, .int .i64 0, .int .i64 0, .int .i64 0] : List Value).toArray (w4.drewN n) := fun n => HLLD.out _ _ (HF0.out.drewN n)
            clear hJ1 hK1
            go_upto_region 18 with (go_at_call 34; ((with_reducible refine (KG.out _ (below_drewN HB4.out n7)).mono ?_); rintro e w7 ⟨rfl, rfl⟩))
            iterate 14 (first | go_values | go_skip | go_guarded | go_step | go_upon | go_back)
            go_step
            exact bodyPost_ret (v := .tuple #[.agg ([.int .i64 0, .bool false, .int .u8 0, .int .u8 0, .int .u8 0, .int .u8 0, .int .u8 0, .int .u8 0, .int .u8 0, .int .u8 0, .int .u8 0, .int .u8 0, .int .u8 0, .int .u8 0, .int .u8 0, .int .u8 0, .int .u8 0, .int .u8 0, .int .i64 0, .bool false, .int .u8 0, .int .u8 0, .int .u8 0, .int .u8 0, .int .u8 0, .int .u8 0, .int .u8 0, .int .u8 0, .int .u8 0, .int .u8 0, .int .u8 0, .int .u8 0, .int .u8 0, .int .u8 0, .int .u8 0, .int .u8 0, .int .i64 0, .int .i64 0, .int .i64 0, .int .i64 0] : List Value).toArray, .int .i64 5]) (by simp [results, Tryd.results12, go_sem, ld0]) rfl ⟨out_bad H R 5 (hmidH.out (by rw [HRR.out]; decide)) HRR.out, below_drewN HB4.out _⟩
          · exact absurd HMR.out hmr
      · exact absurd hver v6
    case rest =>
      exact absurd hcut.1 hmr
end Go.Proofs.YtfoehgcamkmooaaDoor.Head
