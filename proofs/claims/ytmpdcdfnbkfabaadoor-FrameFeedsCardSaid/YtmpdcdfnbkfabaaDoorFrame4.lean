/- Frames: the document's of the program's; two rows of them. -/
import Derived.Test.YtmpdcdfnbkfabaaDoorFrame3
namespace Go.Proofs.YtmpdcdfnbkfabaaDoor.Frame
open Go.RowKit Go.Proofs.YtmpdcdfnbkfabaaDoor.Mem Go.Proofs.YtmpdcdfnbkfabaaDoor.Num Go.Proofs.YtmpdcdfnbkfabaaDoor.Err
set_option linter.unusedVariables false
set_option linter.unusedSimpArgs false
set_option maxRecDepth 100000
attribute [-go_sem] Builtin.append_
/-- v reads as frames. -/
def RdFrs (w : World) (v : Value) (fs : List (UInt8 × List UInt8)) : Prop :=
  ∃ xs : List Fe, Row eFr w v xs ∧ xs.length = fs.length ∧ ∀ (k : Nat) (h : k < xs.length) (h' : k < fs.length), xs[k].1 = fs[k].1 ∧ Row eU8 w xs[k].body fs[k].2
theorem Frs.rd {t : TypeId} {base : Nat} {w : World} {v : Value} {fs : List (UInt8 × List UInt8)} (h : Frs t base w v fs) : RdFrs w v fs := by
  obtain ⟨xs, ho, hl, hall⟩ := h
  exact ⟨xs, ho.row, hl, fun k h h' => ⟨(hall k h h').1, (hall k h h').2.1.row⟩⟩
theorem RdFrs.below {w w1 : World} {v : Value} {fs : List (UInt8 × List UInt8)} (h : RdFrs w v fs) (hb : Below w.heap.size w w1) : RdFrs w1 v fs := by
  obtain ⟨xs, ho, hl, hall⟩ := h
  exact ⟨xs, ho.below hb, hl, fun k h h' => ⟨(hall k h h').1, (hall k h h').2.below hb⟩⟩
set_option maxHeartbeats 4000000 in
theorem same_calls (v u : Value) (fs : List (UInt8 × List UInt8)) (w : World) (hv : RdFrs w v fs) (hu : RdFrs w u fs) :
    Calls Tryd.prog 20 #[v, u] w fun e w' => e = .returned (.bool true) ∧ ∃ n, w' = w.drewN n := by
  obtain ⟨xs, hrx, hlx, hallx⟩ := hv
  obtain ⟨ys, hry, hly, hally⟩ := hu
  obtain ⟨A, ca, rfl, hca, hma, hra⟩ := hrx.parts
  obtain ⟨B, cb, rfl, hcb, hmb, hrb⟩ := hry.parts
  have HA := Lib.hid hra
  have HB := Lib.hid hrb
  have HX := Lib.hid hallx
  have HY := Lib.hid hally
  have hxy : xs.length = ys.length := by omega
  have HLX := Lib.hid hlx
  have HLY := Lib.hid hly
  clear hrx hry hra hrb hallx hally hlx hly
  go_enter Tryd.func20, Tryd.ntmps20
  go_wp2
  go_loopw [13] (fun iv W => ∃ k : Nat, k ≤ xs.length ∧ iv = .int .i64 (k : Int) ∧ ∃ n, W = w.drewN n) (fun iv _ => xs.length - (intOf iv).toNat)
  case atStart => exact ⟨0, Nat.zero_le _, rfl, 0, rfl⟩
  case round =>
    obtain ⟨k, hk, rfl, m, rfl⟩ := hrel
    by_cases hlt : k < xs.length
    · have hlt2 : k < ys.length := by omega
      have hk1 : (k : Int) < (xs.length : Int) := by omega
      have hk2 : (k : Int) < (ys.length : Int) := by omega
      have hltf : k < fs.length := by rw [← HLX.out]; exact hlt
      obtain ⟨ad, rfl, hca2⟩ := HA.out.at hlt
      obtain ⟨bd, rfl, hcb2⟩ := HB.out.at hlt2
      obtain ⟨hx1, hx2⟩ := HX.out k hlt hltf
      obtain ⟨hy1, hy2⟩ := HY.out k hlt2 hltf
      have ha0 := hca2 0 (by decide)
      have ha1 := hca2 1 (by decide)
      have hb0 := hcb2 0 (by decide)
      have hb1 := hcb2 1 (by decide)
      clear hca2 hcb2
      generalize fs[k] = f at hx1 hx2 hy1 hy2
      generalize xs[k] = x at ha0 ha1 hx1 hx2
      generalize ys[k] = y at hb0 hb1 hy1 hy2
      obtain ⟨fk, fl⟩ := f
      obtain ⟨xk, xa, xn, xc⟩ := x
      obtain ⟨yk, ya, yn, yc⟩ := y
      cases hx1
      cases hy1
      have ca0 : w.cell? (ad.add (k * 2)) = some (.int .i64 (fk.toNat : Int)) := ha0
      have ca1 : w.cell? (ad.add (k * 2 + 1)) = some (.slice xa xn xc) := ha1
      have cb0 : w.cell? (bd.add (k * 2)) = some (.int .i64 (fk.toNat : Int)) := hb0
      have cb1 : w.cell? (bd.add (k * 2 + 1)) = some (.slice ya yn yc) := hb1
      have ca1' : w.cell? ⟨(ad.add (k * 2)).block, (ad.add (k * 2)).off + 1, none⟩ = some (.slice xa xn xc) := by rw [← add_add] at ca1; exact ca1
      have cb1' : w.cell? ⟨(bd.add (k * 2)).block, (bd.add (k * 2)).off + 1, none⟩ = some (.slice ya yn yc) := by rw [← add_add] at cb1; exact cb1
      have cva := fun m => (Row.drewN hx2 m).conv' Tryd.underlying27 Tryd.underlying5 Tryd.underlying9
      have cvb := fun m => (Row.drewN hy2 m).conv' Tryd.underlying27 Tryd.underlying5 Tryd.underlying9
      simp only [Fe.body] at cva cvb
      clear ha0 ha1 hb0 hb1 hx2 hy2
      go_wp2
      go_quiet (fail)
      go_wp2
      go_roundw
      case rel => exact ⟨k + 1, by omega, rfl, _, rfl⟩
      case measure => simp [intOf]; omega
    · go_wp2
      go_ret
      exact ⟨rfl, _, rfl⟩
set_option maxHeartbeats 4000000 in
theorem of_calls (v : Value) (fs : List (UInt8 × List UInt8)) (w : World) (hv : RdFrs w v fs) (hl : fs.length ≤ 1000000) :
    Calls Tryd.prog 21 #[v] w fun e w' => (∃ v', e = .returned v' ∧ RdFrs w' v' fs) ∧ Below w.heap.size w w' := by
  obtain ⟨xs, hrx, hlx, hallx⟩ := hv
  obtain ⟨A, ca, rfl, hca, hma, hra⟩ := hrx.parts
  have HA := Lib.hid hra
  have HX := Lib.hid hallx
  have HLX := Lib.hid hlx
  have hxl : xs.length ≤ 1000000 := by omega
  clear hrx hra hallx hlx
  go_enter Tryd.func21, Tryd.ntmps21
  go_wp2
  go_loopw [3, 9] (fun ov iv W => ∃ k : Nat, k ≤ xs.length ∧ iv = .int .i64 (k : Int) ∧ Hid (Own eFr 86 w.heap.size W ov (xs.take k)) ∧ Hid (Below w.heap.size w W)) (fun _ iv _ => xs.length - (intOf iv).toNat)
  case atStart => exact ⟨0, Nat.zero_le _, rfl, Lib.hid (Own.lit w w.heap.size eFr 86 [] 0 rfl _ rfl (Nat.le_refl _) (by simp)), Lib.hid ((Below.refl _ w).alloc (Nat.le_refl _) _)⟩
  case round =>
    obtain ⟨k, hk, rfl, HO, HB⟩ := hrel
    by_cases hlt : k < xs.length
    · obtain ⟨ad, rfl, hca2⟩ := (HA.out.below HB.out).at hlt
      have ha0 := hca2 0 (by decide)
      have ha1 := hca2 1 (by decide)
      clear hca2
      have htk := List.take_succ_eq_append_getElem hlt
      generalize xs[k] = x at ha0 ha1 htk
      obtain ⟨xk, xa, xn, xc⟩ := x
      have HT := Lib.hid htk
      have ca0 : wr.cell? (ad.add (k * 2)) = some (.int .i64 (xk.toNat : Int)) := ha0
      have ca1 : wr.cell? (ad.add (k * 2 + 1)) = some (.slice xa xn xc) := ha1
      have ca1' : wr.cell? ⟨(ad.add (k * 2)).block, (ad.add (k * 2)).off + 1, none⟩ = some (.slice xa xn xc) := by rw [← add_add] at ca1; exact ca1
      have hsz := HB.out.size
      have hlk : (xs.take k).length = k := by rw [List.length_take]; omega
      have HLK := Lib.hid hlk
      clear ha0 ha1 htk hlk
      generalize xs.take k = L at HO HT HLK
      go_wp2_with (at_builtin; (refine wp_append (E := eFr) w.heap.size rfl (.tmp 13) (.tmp 19) 34 86 _ 32 rfl Tryd.underlying34 infoRFr rfl (by decide) _ _ L [(xk, xa, xn, xc)] rfl rfl ((HO.out.alloc _).alloc _) (Own.lit' (wr.alloc (.cells #[.int .i64 (xk.toNat : Int), .slice xa xn xc] 50)) (wr.heap.size + 1) (by simp) 0 eFr 86 [(xk, xa, xn, xc)] 1 rfl #[.int .i64 (xk.toNat : Int), .slice xa xn xc] rfl (Nat.zero_le _) (by simp)).row (by simp; omega) (by have := HLK.out; simp; omega) ?_; intro v4 w4 ho4 hg4 hat4))
      go_roundw
      case rel => exact ⟨k + 1, by omega, rfl, Lib.hid (by rw [HT.out]; exact ho4), Lib.hid (below_app ((HB.out.alloc hsz _).alloc (by simp; omega) _) (by simp; omega) ((HO.out.alloc _).alloc _) hg4)⟩
      case measure => simp [intOf]; omega
    · have hkx : k = xs.length := by omega
      subst hkx
      rw [List.take_length] at HO
      go_wp2
      go_ret
      exact ⟨⟨_, rfl, xs, HO.out.row, HLX.out, fun k h h' => ⟨(HX.out k h h').1, (HX.out k h h').2.below HB.out⟩⟩, HB.out⟩
end Go.Proofs.YtmpdcdfnbkfabaaDoor.Frame
