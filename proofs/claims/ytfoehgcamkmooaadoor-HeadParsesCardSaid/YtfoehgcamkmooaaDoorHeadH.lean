/- The head ahead of a part, of sixteen bytes' addresses: sixth. -/
import Derived.Test.YtfoehgcamkmooaaDoorHeadG
namespace Go.Proofs.YtfoehgcamkmooaaDoor.Head
open Go.RowKit Go.Proofs.YtfoehgcamkmooaaDoor.Mem Go.Proofs.YtfoehgcamkmooaaDoor.Num Go.Proofs.YtfoehgcamkmooaaDoor.Err
open Go.Proofs.YtfoehgcamkmooaaDoor.Addr hiding below_allocd
open Go.Proofs.YtfoehgcamkmooaaDoor.Sums Go.Proofs.YtfoehgcamkmooaaDoor.SumsP Go.Proofs.YtfoehgcamkmooaaDoor.Pseudo
set_option linter.unusedVariables false
set_option linter.unusedSimpArgs false
set_option maxRecDepth 100000
attribute [-go_sem] Builtin.append_ loadCells loadCellsFrom storeCells
def sixR (l : List UInt8) : Nat := if l.length < 40 then 2 else if twoN l 4 + 40 ≠ l.length then 4 else 0
def sixH (h : Hd) (l : List UInt8) : Hd := { h with pt := 40, pr := ((l.getD 6 0).toNat : Int), s6 := true, sb := pad ((l.take 24).drop 8), hs := pad_le _ _ _ (by decide), d6 := true, db := pad ((l.take 40).drop 24), hd := pad_le _ _ _ (by decide) }
set_option maxHeartbeats 4000000 in
theorem sixth_calls (b : Nat) (h : Hd) (t : TypeId) (v : Value) (l : List UInt8) (w : World) (es : List Addr) (hS : ∀ W, Alt (fun k => k = b) w W → Row eU8 W v l ∧ Errs W es) (hb : HBlk b h t w) (hl : l.length ≤ 600) :
    Calls Tryd.prog 27 #[.pointer (some ⟨b, 0, none⟩), v] w fun e w' => Met es b t (sixR l) (sixH h l) w w' e := by
  have h0 := hS w (Alt.refl _ _)
  obtain ⟨A, c, rfl, hc, hm, hr⟩ := h0.1.parts
  have he := h0.2
  obtain ⟨a1, hc1, hi1⟩ := err_at he 1 (by decide)
  have hc1' : w.cell? ⟨0, 0, none⟩ = some (.iface 133 (.pointer (some a1))) := hc1
  have HI1 := Lib.hid hi1
  unfold sixR
  by_cases h40 : l.length < 40
  · rw [if_pos h40]
    have h40' : (l.length : Int) < 40 := by omega
    generalize sixH h l = h'
    clear hS h0 hr he hi1 hc1 hb h40
    go_enter Tryd.func27, Tryd.ntmps27
    go_wp2
    go_ret
    exact ⟨_, rfl, HI1.out, fun h => by omega, Alt.refl _ _⟩
  rw [if_neg h40]
  have h40' : ¬ (l.length : Int) < 40 := by omega
  have hRS : ∀ W, Alt (fun k => k = b) w W → Row eU8 W (.slice A l.length c) l := fun W hW => (hS W hW).1
  obtain ⟨ad, rfl, hzz⟩ := hr.atU8 (k := 0) (by omega)
  clear hzz
  have HBY := Lib.hid (byteS _ hRS 6 (by omega))
  have hyb : ((l.getD 6 0).toNat : Int) < 256 := by have := (l.getD 6 0).toNat_lt; omega
  have KT := Lib.hid (fun W hv => two_calls (.slice (some ad) l.length c) l 4 4 W hv rfl (by omega) (by omega))
  have HRS := Lib.hid hRS
  obtain ⟨a4, hc4, hi4⟩ := err_at he 3 (by decide)
  have hc4' : w.cell? ⟨1, 0, none⟩ = some (.iface 133 (.pointer (some a4))) := hc4
  have HI4 := Lib.hid hi4
  have hws : IntKind.i64.wrap ((l.length : Int) - 40) = (l.length : Int) - 40 := by rw [IntKind.wrap_i64]; omega
  by_cases h2 : twoN l 4 + 40 ≠ l.length
  · rw [if_pos h2]
    have q3a : ((twoN l 4 : Nat) == ((l.length : Int) - 40) : Bool) = false := beq_eq_false_iff_ne.mpr (by omega)
    have q3b : (((twoN l 4 : Nat) : Int) != (l.length : Int) - 40) = true := by simpa using (by omega : ¬ ((twoN l 4 : Nat) : Int) = (l.length : Int) - 40)
    generalize sixH h l = h'
    generalize twoN l 4 = m at KT q3a q3b
    clear hS h0 hr hRS HBY hyb he hi1 hc1 hc1' hi4 hc4 hb h40 h2
    go_enter Tryd.func27, Tryd.ntmps27
    go_wp2_with (go_at_call 29; ((with_reducible refine (KT.out _ (HRS.out _ (Alt.refl _ _))).mono ?_); rintro e w2 ⟨rfl, n2, rfl⟩))
    go_ret
    exact ⟨_, rfl, HI4.out, fun h => by omega, (Alt.refl _ _).drewN _⟩
  · rw [if_neg h2]
    have hq3 : ((twoN l 4 : Nat) : Int) = (l.length : Int) - 40 := by omega
    have h6 : (6 : Int) < (l.length : Int) := by omega
    obtain ⟨A1, y1, _, _, y4⟩ := Row.cutS (P := Tryd.prog) (fun W => Alt (fun k => k = b) w W) 22 5 Tryd.underlying22 infoU8 hRS (Alt.refl _ _) 8 24 (by omega) (by omega)
    have zs1 : ∀ W, (Instr.slice 22 (.slice (some ad) l.length c) (some (.int .i64 8)) (some (.int .i64 24)) none).run Tryd.prog W = .ok (.slice A1 16 (c - 8)) W := fun W => y1 W .i64 .i64
    obtain ⟨A2, x1, _, _, x4⟩ := Row.cutS (P := Tryd.prog) (fun W => Alt (fun k => k = b) w W) 22 5 Tryd.underlying22 infoU8 hRS (Alt.refl _ _) 24 40 (by omega) (by omega)
    have zs2 : ∀ W, (Instr.slice 22 (.slice (some ad) l.length c) (some (.int .i64 24)) (some (.int .i64 40)) none).run Tryd.prog W = .ok (.slice A2 16 (c - 24)) W := fun W => x1 W .i64 .i64
    have hl1 : ((l.take 24).drop 8).length = 16 := by rw [List.length_drop, List.length_take]; omega
    have hl2 : ((l.take 40).drop 24).length = 16 := by rw [List.length_drop, List.length_take]; omega
    have KD1 : Hid (∀ W, Alt (fun k => k = b) w W → Calls Tryd.prog 54 #[.slice A1 16 (c - 8)] W fun e w' => e = .returned (adV true (pad ((l.take 24).drop 8))) ∧ Below W.heap.size W w') := Lib.hid (fun W hW => by
      have := address_calls _ _ W (y4 W hW) (.inr hl1)
      rw [hl1] at this; exact this)
    have KD2 : Hid (∀ W, Alt (fun k => k = b) w W → Calls Tryd.prog 54 #[.slice A2 16 (c - 24)] W fun e w' => e = .returned (adV true (pad ((l.take 40).drop 24))) ∧ Below W.heap.size W w') := Lib.hid (fun W hW => by
      have := address_calls _ _ W (x4 W hW) (.inr hl2)
      rw [hl2] at this; exact this)
    have hst3 : ∀ W, HBlk b h t W → ∃ w1 w2 w3 w4, (storeCells ⟨b, 38, none⟩ [.int .i64 40]).run Tryd.prog W = .ok () w1 ∧ (storeCells ⟨b, 0, none⟩ [.int .i64 ((l.getD 6 0).toNat : Int)]).run Tryd.prog w1 = .ok () w2 ∧ (storeCells ⟨b, 1, none⟩ (adCells true (pad ((l.take 24).drop 8)))).run Tryd.prog w2 = .ok () w3 ∧ (storeCells ⟨b, 19, none⟩ (adCells true (pad ((l.take 40).drop 24)))).run Tryd.prog w3 = .ok () w4 ∧ HBlk b (sixH h l) t w4 ∧ Alt (fun k => k = b) W w4 := fun W hW => by
      obtain ⟨w1, s1, k1, a1⟩ := store_at (P := Tryd.prog) (off := 38) (vs := [.int .i64 40]) hW (by rw [Hd.len]; simp) (by intro u hu; rw [List.mem_singleton.1 hu]; rfl)
      rw [splice_one _ _ _ (by rw [Hd.len]; decide), (Hd.sets _ _).2.2.2.2.1] at k1
      obtain ⟨w2, s2, k2, a2⟩ := store_at (P := Tryd.prog) (off := 0) (vs := [.int .i64 ((l.getD 6 0).toNat : Int)]) k1 (by rw [Hd.len]; simp) (by intro u hu; rw [List.mem_singleton.1 hu]; rfl)
      rw [splice_one _ _ _ (by rw [Hd.len]; decide), (Hd.sets _ _).1] at k2
      obtain ⟨w3, s3, k3, a3⟩ := store_at (P := Tryd.prog) (off := 1) (vs := adCells true (pad ((l.take 24).drop 8))) k2 (by rw [Hd.len, adCells_len _ _ (pad_le _ _ _ (by decide))]; decide) (adCells_one _ _)
      rw [Hd.src _ true _ (pad_le _ _ _ (by decide))] at k3
      obtain ⟨w4, s4, k4, a4⟩ := store_at (P := Tryd.prog) (off := 19) (vs := adCells true (pad ((l.take 40).drop 24))) k3 (by rw [Hd.len, adCells_len _ _ (pad_le _ _ _ (by decide))]; decide) (adCells_one _ _)
      rw [Hd.dst _ true _ (pad_le _ _ _ (by decide))] at k4
      exact ⟨w1, w2, w3, w4, s1, s2, s3, s4, k4, ((a1.trans a2).trans a3).trans a4⟩
    have HST := Lib.hid hst3
    have HB := Lib.hid hb
    have hsl1 : (adA true (pad ((l.take 24).drop 8))).toList = adCells true (pad ((l.take 24).drop 8)) := rfl
    have hsl2 : (adA true (pad ((l.take 40).drop 24))).toList = adCells true (pad ((l.take 40).drop 24)) := rfl
    have hsz1 : (adA true (pad ((l.take 24).drop 8))).size = 17 := adCells_len _ _ (pad_le _ _ _ (by decide))
    have hsz2 : (adA true (pad ((l.take 40).drop 24))).size = 17 := adCells_len _ _ (pad_le _ _ _ (by decide))
    have hyw : IntKind.i64.wrap ((l.getD 6 0).toNat : Int) = ((l.getD 6 0).toNat : Int) := by rw [IntKind.wrap_i64]; omega
    clear h0 hS hRS hr he hi1 hc1 hc1' hi4 hc4 hc4' hb h40 h2 y1 y4 x1 x4 hl1 hl2 hst3
    generalize sixH h l = h' at HST ⊢
    generalize hq : pad ((l.take 24).drop 8) = q at KD1 HST hsl1 hsz1
    generalize hq' : pad ((l.take 40).drop 24) = q' at KD2 HST hsl2 hsz2
    clear hq hq'
    generalize (l.getD 6 0) = y at HBY hyb hyw HST
    generalize twoN l 4 = m at KT hq3
    go_enter Tryd.func27, Tryd.ntmps27
    go_wp2_with (go_at_call 29; ((with_reducible refine (KT.out _ (HRS.out _ (Alt.refl _ _))).mono ?_); rintro e w2 ⟨rfl, n2, rfl⟩; have HA2 := Lib.hid (alt_of_drew (fun k => k = b) w n2); have m4 : (w.drewN n2).cell? ⟨ad.block, ad.off + 6, none⟩ = _ := HBY.out _ HA2.out; have m4a : (w.drewN (n2 + 1)).cell? ⟨ad.block, ad.off + 6, none⟩ = _ := HBY.out _ (alt_of_drew (fun k => k = b) w (n2 + 1)); have m4b : w.cell? ⟨ad.block, ad.off + 6, none⟩ = _ := HBY.out _ (Alt.refl _ _)))
    go_region_law (first
      | (go_simp; go_at_call 54; ((with_reducible refine (KD1.out _ (alt_of_drew (fun k => k = b) w (n2 + 1))).mono ?_); rintro e w6 ⟨rfl, hb6⟩; have HB6 : Hid (Below w.heap.size w w6) := Lib.hid (below_next (below_drewN (Below.refl _ w) (n2 + 1)) hb6); have HA6 : Hid (Alt (fun k => k = b) w w6) := Lib.hid (Alt.of_below HB6.out); have m6 : w6.cell? ⟨ad.block, ad.off + 6, none⟩ = _ := HBY.out _ HA6.out; clear hb6))
      | (go_simp; go_at_call 54; ((with_reducible refine (KD2.out _ HA6.out).mono ?_); rintro e w7 ⟨rfl, hb7⟩; have HB7 : Hid (Below w.heap.size w w7) := Lib.hid (below_next HB6.out hb7); have HA7 : Hid (Alt (fun k => k = b) w w7) := Lib.hid (Alt.of_below HB7.out); have m7 : w7.cell? ⟨ad.block, ad.off + 6, none⟩ = _ := HBY.out _ HA7.out; obtain ⟨w11, w8, w9, w10, s11, s8, s9, s10, k10, a10⟩ := HST.out w7 (Blk.below HB.out HB7.out); have HK10 := Lib.hid k10; have HA10 := Lib.hid (HA7.out.trans a10); clear hb7 k10 a10)))
    all_goals go_wp2
    all_goals go_ret
    all_goals exact ⟨_, rfl, .inl ⟨rfl, rfl⟩, fun _ => HK10.out, HA10.out⟩
end Go.Proofs.YtfoehgcamkmooaaDoor.Head
