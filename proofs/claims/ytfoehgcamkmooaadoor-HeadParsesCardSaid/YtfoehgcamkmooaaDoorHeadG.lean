/- The head ahead of a part, of four bytes' addresses: fourth. -/
import Derived.Test.YtfoehgcamkmooaaDoorHeadF
namespace Go.Proofs.YtfoehgcamkmooaaDoor.Head
open Go.RowKit Go.Proofs.YtfoehgcamkmooaaDoor.Mem Go.Proofs.YtfoehgcamkmooaaDoor.Num Go.Proofs.YtfoehgcamkmooaaDoor.Err
open Go.Proofs.YtfoehgcamkmooaaDoor.Addr hiding below_allocd
open Go.Proofs.YtfoehgcamkmooaaDoor.Sums Go.Proofs.YtfoehgcamkmooaaDoor.SumsP Go.Proofs.YtfoehgcamkmooaaDoor.Pseudo
set_option linter.unusedVariables false
set_option linter.unusedSimpArgs false
set_option maxRecDepth 100000
attribute [-go_sem] Builtin.append_ loadCells loadCellsFrom storeCells
theorem infoInt1 : (Tryd.prog.info? 3).map (·.size) = some 1 := by kernel_rfl
theorem splice_one {α : Type} (cs : List α) (i : Nat) (v : α) (h : i < cs.length) : splice cs i [v] = cs.set i v := by
  unfold splice
  rw [List.set_eq_take_append_cons_drop, if_pos h]
  simp
theorem altDrew {R : Nat → Prop} {w w1 : World} (h : Alt R w w1) : Alt R w w1.drew := h.drewN 1
theorem belowDrew {B : Nat} {w w1 : World} (h : Below B w w1) : Below B w w1.drew := below_drewN h 1
theorem pad_le (l : List UInt8) (i j : Nat) (h : j ≤ i + 16) : (pad ((l.take j).drop i)).length = 16 := pad_len _ (by rw [List.length_drop, List.length_take]; omega)
/-- A byte of a row that stands in many worlds. -/
theorem byteS (S : World → Prop) {l : List UInt8} {ad : Addr} {n c : Nat} (hS : ∀ W, S W → Row eU8 W (.slice (some ad) n c) l) (k : Nat) (hk : k < l.length) : ∀ W, S W → W.cell? (ad.add k) = some (.int .u8 ((l.getD k 0).toNat : Int)) := fun W hW => by
  obtain ⟨ad', h1, h2⟩ := (hS W hW).atU8 hk
  cases h1
  rw [getD_at l k hk]
  exact h2
/-- How long a head of four bytes' addresses is. -/
def ptN (l : List UInt8) : Nat := 4 * ((l.getD 0 0).toNat % 16)
def fourR (l : List UInt8) : Nat := if l.length < 20 then 2 else if ptN l < 20 ∨ l.length < ptN l ∨ twoN l 2 ≠ l.length ∨ fragB (twoN l 6) = true then 4 else if goodN (total (l.take (ptN l)) : Nat) = false then 5 else 0
def fourH (h : Hd) (l : List UInt8) : Hd := { h with pt := (ptN l : Int), pr := ((l.getD 9 0).toNat : Int), s6 := false, sb := pad ((l.take 16).drop 12), hs := pad_le _ _ _ (by decide), d6 := false, db := pad ((l.take 20).drop 16), hd := pad_le _ _ _ (by decide) }
theorem fourR0 (l : List UInt8) (h : l.length < 20) : fourR l = 2 := by unfold fourR; rw [if_pos h]
theorem fourR1 (l : List UInt8) (h : ¬ l.length < 20) (h2 : ptN l < 20 ∨ l.length < ptN l ∨ twoN l 2 ≠ l.length ∨ fragB (twoN l 6) = true) : fourR l = 4 := by unfold fourR; rw [if_neg h, if_pos h2]
theorem fourR2 (l : List UInt8) (h : ¬ l.length < 20) (h2 : ¬ (ptN l < 20 ∨ l.length < ptN l ∨ twoN l 2 ≠ l.length ∨ fragB (twoN l 6) = true)) : fourR l = if goodN (total (l.take (ptN l)) : Nat) = false then 5 else 0 := by unfold fourR; rw [if_neg h, if_neg h2]
set_option maxHeartbeats 4000000 in
theorem fourth_calls (b : Nat) (h : Hd) (t : TypeId) (v : Value) (l : List UInt8) (w : World) (es : List Addr) (hS : ∀ W, Alt (fun k => k = b) w W → Row eU8 W v l ∧ Errs W es) (hb : HBlk b h t w) (hl : l.length ≤ 600) :
    Calls Tryd.prog 26 #[.pointer (some ⟨b, 0, none⟩), v] w fun e w' => Met es b t (fourR l) (fourH h l) w w' e := by
  have h0 := hS w (Alt.refl _ _)
  obtain ⟨A, c, rfl, hc, hm, hr⟩ := h0.1.parts
  have he := h0.2
  obtain ⟨a1, hc1, hi1⟩ := err_at he 1 (by decide)
  have hc1' : w.cell? ⟨0, 0, none⟩ = some (.iface 133 (.pointer (some a1))) := hc1
  have HI1 := Lib.hid hi1
  by_cases h20 : l.length < 20
  · rw [fourR0 l h20]
    have h20' : (l.length : Int) < 20 := by omega
    generalize fourH h l = h'
    clear hS h0 hr he hi1 hc1 hb h20
    go_enter Tryd.func26, Tryd.ntmps26
    go_wp2
    go_ret
    exact ⟨_, rfl, HI1.out, fun h => by omega, Alt.refl _ _⟩
  have h20' : ¬ (l.length : Int) < 20 := by omega
  have hRS : ∀ W, Alt (fun k => k = b) w W → Row eU8 W (.slice A l.length c) l := fun W hW => (hS W hW).1
  obtain ⟨ad, rfl, hzz⟩ := hr.atU8 (k := 0) (by omega)
  clear hzz
  have hx : w.cell? (ad.add 0) = some (.int .u8 ((l.getD 0 0).toNat : Int)) := byteS _ hRS 0 (by omega) w (Alt.refl _ _)
  have hx' : w.cell? ad = some (.int .u8 ((l.getD 0 0).toNat : Int)) := hx
  have HBY := Lib.hid (byteS _ hRS 9 (by omega))
  have hand := and15 (l.getD 0 0)
  have hp : 4 * (((l.getD 0 0).toNat : Int) % 16) = (ptN l : Int) := by unfold ptN; omega
  have hpn : ptN l ≤ 60 := by unfold ptN; omega
  have hxb : ((l.getD 0 0).toNat : Int) < 256 := by have := (l.getD 0 0).toNat_lt; omega
  have hyb : ((l.getD 9 0).toNat : Int) < 256 := by have := (l.getD 9 0).toNat_lt; omega
  have KT2 := Lib.hid (fun W hv => two_calls (.slice (some ad) l.length c) l 2 2 W hv rfl (by omega) (by omega))
  have KT6 := Lib.hid (fun W hv => two_calls (.slice (some ad) l.length c) l 6 6 W hv rfl (by omega) (by omega))
  have HRS := Lib.hid hRS
  have hES : ∀ W, Alt (fun k => k = b) w W → W.cell? ⟨1, 0, none⟩ = some (.iface 133 (.pointer (some (es.getD 3 ⟨0, 0, none⟩)))) ∧ W.cell? ⟨4, 0, none⟩ = some (.iface 133 (.pointer (some (es.getD 4 ⟨0, 0, none⟩)))) := fun W hW => by
    have he' := (hS W hW).2
    have hel := he'.1
    have q3 := (he'.2.2 3 (by omega)).1
    have q4 := (he'.2.2 4 (by omega)).1
    rw [List.getD_eq_getElem?_getD, List.getD_eq_getElem?_getD, List.getElem?_eq_getElem (by omega), List.getElem?_eq_getElem (by omega)]
    exact ⟨q3, q4⟩
  have HES := Lib.hid hES
  have hel := he.1
  have HI4 : Hid (ErrIs es 4 (.iface 133 (.pointer (some (es.getD 3 ⟨0, 0, none⟩))))) := Lib.hid (.inr ⟨3, by omega, rfl, by rw [List.getD_eq_getElem?_getD, List.getElem?_eq_getElem (by omega)]; rfl⟩)
  have HI5 : Hid (ErrIs es 5 (.iface 133 (.pointer (some (es.getD 4 ⟨0, 0, none⟩))))) := Lib.hid (.inr ⟨4, by omega, rfl, by rw [List.getD_eq_getElem?_getD, List.getElem?_eq_getElem (by omega)]; rfl⟩)
  have HB := Lib.hid hb
  have hfl := twoN_lt l 6
  obtain ⟨h1s, h2s, h3s, h4s, h5s, h6s⟩ := h.sets (ptN l : Int)
  have HK0 : ∀ W1, Blk b (splice h.cells 38 [.int .i64 (ptN l : Int)]) t W1 → HBlk b { h with pt := (ptN l : Int) } t W1 := fun W1 hk => by
    unfold HBlk; rw [← h5s, ← splice_one _ _ _ (by rw [Hd.len]; decide)]; exact hk
  have HKK := Lib.hid HK0
  have HLL : Hid (38 + 1 ≤ h.cells.length) := Lib.hid (by rw [Hd.len]; decide)
  clear h1s h2s h3s h4s h5s h6s HK0
  obtain ⟨w1, hst, hk1, ha1⟩ := store_at (P := Tryd.prog) (off := 38) (vs := [.int .i64 (ptN l : Int)]) hb HLL.out (by intro u hu; rw [List.mem_singleton.1 hu]; rfl)
  have HA1 := Lib.hid ha1
  have HK1 := Lib.hid (HKK.out _ hk1)
  have hc38 : w1.cell? ⟨b, 38, none⟩ = some (.int .i64 (ptN l : Int)) := HK1.out.vals.2.2.2.2.2.1
  obtain ⟨e4, e5⟩ := HES.out _ ha1
  clear hk1 ha1
  by_cases h2 : ptN l < 20 ∨ l.length < ptN l ∨ twoN l 2 ≠ l.length ∨ fragB (twoN l 6) = true
  · rw [fourR1 l h20 h2]
    generalize fourH h l = h'
    clear h0 hS hRS hES hr he hi1 hc1 hc1' hb h20 hel HBY hyb
    have hp1 : (ptN l : Int) < 20 ∨ (¬ (ptN l : Int) < 20 ∧ (l.length : Int) < (ptN l : Int)) ∨ (¬ (ptN l : Int) < 20 ∧ (ptN l : Int) ≤ (l.length : Int) ∧ twoN l 2 ≠ l.length) ∨ (¬ (ptN l : Int) < 20 ∧ (ptN l : Int) ≤ (l.length : Int) ∧ twoN l 2 = l.length ∧ fragB (twoN l 6) = true) := by
      by_cases q1 : ptN l < 20
      · exact .inl (by omega)
      · by_cases q2 : l.length < ptN l
        · exact .inr (.inl ⟨by omega, by omega⟩)
        · by_cases q3 : twoN l 2 = l.length
          · rcases h2 with h2 | h2 | h2 | h2
            · exact absurd h2 q1
            · exact absurd h2 q2
            · exact absurd q3 h2
            · exact .inr (.inr (.inr ⟨by omega, by omega, q3, h2⟩))
          · exact .inr (.inr (.inl ⟨by omega, by omega, q3⟩))
    clear h2
    unfold fragB at hp1
    generalize hz : bits .andNot .i64 ((twoN l 6 : Nat) : Int) 16384 = z at hp1
    generalize twoN l 2 = m at KT2 hp1
    generalize twoN l 6 = f at KT6 hfl hz
    generalize (l.getD 0 0) = x at hx hx' hand hp hxb
    generalize ptN l = p at hp hpn hp1 HKK hst HK1 hc38
    rcases hp1 with q1 | ⟨q1, q2⟩ | ⟨q1, q2, q3⟩ | ⟨q1, q2, q3, q4⟩
    · skip
      go_enter Tryd.func26, Tryd.ntmps26
      go_wp2
      go_ret
      exact ⟨_, rfl, HI4.out, fun h => by omega, HA1.out⟩
    · skip
      go_enter Tryd.func26, Tryd.ntmps26
      go_wp2
      go_ret
      exact ⟨_, rfl, HI4.out, fun h => by omega, HA1.out⟩
    · have q3a : ((m : Int) == (l.length : Int)) = false := beq_eq_false_iff_ne.mpr (by omega)
      have q3b : ((m : Int) != (l.length : Int)) = true := by simpa using (by omega : ¬ (m : Int) = (l.length : Int))
      clear q3
      go_enter Tryd.func26, Tryd.ntmps26
      go_wp2_with (first
        | (go_at_call 29; ((with_reducible refine (KT2.out _ (HRS.out _ HA1.out)).mono ?_); rintro e w2 ⟨rfl, n2, rfl⟩)))
      go_ret
      exact ⟨_, rfl, HI4.out, fun h => by omega, HA1.out.drewN _⟩
    · have q4b : (z == 0) = false := by simpa using q4
      subst q3
      go_enter Tryd.func26, Tryd.ntmps26
      go_wp2_with (first
        | (go_at_call 29; ((with_reducible refine (KT2.out _ (HRS.out _ HA1.out)).mono ?_); rintro e w2 ⟨rfl, n2, rfl⟩))
        | (go_at_call 29; ((with_reducible refine (KT6.out _ (HRS.out _ (HA1.out.drewN n2))).mono ?_); rintro e w3 ⟨rfl, n3, rfl⟩)))
      go_ret
      exact ⟨_, rfl, HI4.out, fun h => by omega, HA1.out.drewN _⟩
  · rw [fourR2 l h20 h2]
    have hq1 : ¬ (ptN l : Int) < 20 := fun e => h2 (.inl (by omega))
    have hq2 : (ptN l : Int) ≤ (l.length : Int) := by by_cases e : l.length < ptN l
                                                      · exact absurd (.inr (.inl e)) h2
                                                      · omega
    have h9 : (9 : Int) < (l.length : Int) := by omega
    have hq3 : twoN l 2 = l.length := by by_cases e : twoN l 2 = l.length
                                         · exact e
                                         · exact absurd (.inr (.inr (.inl e))) h2
    have hq4 : fragB (twoN l 6) = false := by cases e : fragB (twoN l 6)
                                              · rfl
                                              · exact absurd (.inr (.inr (.inr e))) h2
    have hz : bits .andNot .i64 ((twoN l 6 : Nat) : Int) 16384 = 0 := by unfold fragB at hq4; simpa using hq4
    obtain ⟨A0, _, z2, _, z4⟩ := Row.cutS (P := Tryd.prog) (fun W => Alt (fun k => k = b) w W) 22 5 Tryd.underlying22 infoU8 hRS (Alt.refl _ _) 0 (ptN l) (by omega) (by omega)
    have zs0 : ∀ W, (Instr.slice 22 (.slice (some ad) l.length c) none (some (.int .i64 (ptN l : Int))) none).run Tryd.prog W = .ok (.slice A0 (ptN l) c) W := fun W => z2 rfl W .i64
    have KA := Lib.hid (fun W (hW : Alt (fun k => k = b) w W) => (show clampN 0 = 0 from rfl) ▸ add_calls 0 (.slice A0 (ptN l) c) (l.take (ptN l)) W (by have := z4 W hW; simpa using this) (by rw [List.length_take]; omega))
    have htl := total_le (l.take (ptN l))
    have htn : (l.take (ptN l)).length ≤ 60 := by rw [List.length_take]; omega
    have KG := Lib.hid (fun W => right_calls (0 + ((total (l.take (ptN l)) : Nat) : Int)) W (by omega))
    have hgz : (0 + ((total (l.take (ptN l)) : Nat) : Int)) = ((total (l.take (ptN l)) : Nat) : Int) := by omega
    rw [hgz] at KG
    have KA2 : Hid (∀ W, Alt (fun k => k = b) w W → Calls Tryd.prog 53 #[.int .i64 0, .slice A0 (ptN l) c] W fun e w' => e = .returned (.int .i64 ((total (l.take (ptN l)) : Nat) : Int)) ∧ Below W.heap.size W w') := Lib.hid (fun W hW => by rw [← hgz]; exact KA.out W hW)
    obtain ⟨A1, y1, _, _, y4⟩ := Row.cutS (P := Tryd.prog) (fun W => Alt (fun k => k = b) w W) 22 5 Tryd.underlying22 infoU8 hRS (Alt.refl _ _) 12 16 (by omega) (by omega)
    have zs1 : ∀ W, (Instr.slice 22 (.slice (some ad) l.length c) (some (.int .i64 12)) (some (.int .i64 16)) none).run Tryd.prog W = .ok (.slice A1 4 (c - 12)) W := fun W => y1 W .i64 .i64
    obtain ⟨A2, x1, _, _, x4⟩ := Row.cutS (P := Tryd.prog) (fun W => Alt (fun k => k = b) w W) 22 5 Tryd.underlying22 infoU8 hRS (Alt.refl _ _) 16 20 (by omega) (by omega)
    have zs2 : ∀ W, (Instr.slice 22 (.slice (some ad) l.length c) (some (.int .i64 16)) (some (.int .i64 20)) none).run Tryd.prog W = .ok (.slice A2 4 (c - 16)) W := fun W => x1 W .i64 .i64
    have hl1 : ((l.take 16).drop 12).length = 4 := by rw [List.length_drop, List.length_take]; omega
    have hl2 : ((l.take 20).drop 16).length = 4 := by rw [List.length_drop, List.length_take]; omega
    have KD1 : Hid (∀ W, Alt (fun k => k = b) w W → Calls Tryd.prog 54 #[.slice A1 4 (c - 12)] W fun e w' => e = .returned (adV false (pad ((l.take 16).drop 12))) ∧ Below W.heap.size W w') := Lib.hid (fun W hW => by
      have := address_calls _ _ W (y4 W hW) (.inl hl1)
      rw [hl1] at this; exact this)
    have KD2 : Hid (∀ W, Alt (fun k => k = b) w W → Calls Tryd.prog 54 #[.slice A2 4 (c - 16)] W fun e w' => e = .returned (adV false (pad ((l.take 20).drop 16))) ∧ Below W.heap.size W w') := Lib.hid (fun W hW => by
      have := address_calls _ _ W (x4 W hW) (.inl hl2)
      rw [hl2] at this; exact this)
    have HF : Hid (∀ W, HBlk b { (fourH h l) with pt := (ptN l : Int) } t W → HBlk b (fourH h l) t W) := Lib.hid (fun W hW => hW)
    have hbt : HBlk b { h with pt := (ptN l : Int) } t w1 := HK1.out
    have hst3 : ∀ W, HBlk b { h with pt := (ptN l : Int) } t W → ∃ w2 w3 w4, (storeCells ⟨b, 0, none⟩ [.int .i64 ((l.getD 9 0).toNat : Int)]).run Tryd.prog W = .ok () w2 ∧ (storeCells ⟨b, 1, none⟩ (adCells false (pad ((l.take 16).drop 12)))).run Tryd.prog w2 = .ok () w3 ∧ (storeCells ⟨b, 19, none⟩ (adCells false (pad ((l.take 20).drop 16)))).run Tryd.prog w3 = .ok () w4 ∧ HBlk b (fourH h l) t w4 ∧ Alt (fun k => k = b) W w4 := fun W hW => by
      obtain ⟨w2, s2, k2, a2⟩ := store_at (P := Tryd.prog) (off := 0) (vs := [.int .i64 ((l.getD 9 0).toNat : Int)]) hW (by rw [Hd.len]; simp) (by intro u hu; rw [List.mem_singleton.1 hu]; rfl)
      rw [splice_one _ _ _ (by rw [Hd.len]; decide), (Hd.sets _ _).1] at k2
      obtain ⟨w3, s3, k3, a3⟩ := store_at (P := Tryd.prog) (off := 1) (vs := adCells false (pad ((l.take 16).drop 12))) k2 (by rw [Hd.len, adCells_len _ _ (pad_le _ _ _ (by decide))]; decide) (adCells_one _ _)
      rw [Hd.src _ false _ (pad_le _ _ _ (by decide))] at k3
      obtain ⟨w4, s4, k4, a4⟩ := store_at (P := Tryd.prog) (off := 19) (vs := adCells false (pad ((l.take 20).drop 16))) k3 (by rw [Hd.len, adCells_len _ _ (pad_le _ _ _ (by decide))]; decide) (adCells_one _ _)
      rw [Hd.dst _ false _ (pad_le _ _ _ (by decide))] at k4
      exact ⟨w2, w3, w4, s2, s3, s4, k4, (a2.trans a3).trans a4⟩
    have HST := Lib.hid hst3
    have hsl1 : (adA false (pad ((l.take 16).drop 12))).toList = adCells false (pad ((l.take 16).drop 12)) := rfl
    have hsl2 : (adA false (pad ((l.take 20).drop 16))).toList = adCells false (pad ((l.take 20).drop 16)) := rfl
    have hsz1 : (adA false (pad ((l.take 16).drop 12))).size = 17 := adCells_len _ _ (pad_le _ _ _ (by decide))
    have hsz2 : (adA false (pad ((l.take 20).drop 16))).size = 17 := adCells_len _ _ (pad_le _ _ _ (by decide))
    clear h0 hS hRS hES hr he hi1 hc1 hc1' hb h20 hel h2 hq4 z2 z4 htl htn KA hgz y1 y4 x1 x4 hl1 hl2 HF hst3 hbt
    generalize fourH h l = h' at HST ⊢
    generalize hq : pad ((l.take 16).drop 12) = q at KD1 HST hsl1 hsz1
    generalize hq' : pad ((l.take 20).drop 16) = q' at KD2 HST hsl2 hsz2
    clear hq hq'
    generalize (l.getD 0 0) = x at hx hx' hand hp hxb
    have hyw : IntKind.i64.wrap ((l.getD 9 0).toNat : Int) = ((l.getD 9 0).toNat : Int) := by rw [IntKind.wrap_i64]; omega
    generalize (l.getD 9 0) = y at HBY hyb hyw HST
    generalize total (l.take (ptN l)) = T at KA2 KG ⊢
    generalize ptN l = p at *
    generalize twoN l 2 = m at KT2 hq3
    subst hq3
    generalize twoN l 6 = f at KT6 hfl hz
    generalize goodN (T : Int) = G at KG ⊢
    cases G
    · rw [if_pos rfl]
      skip
      go_enter Tryd.func26, Tryd.ntmps26
      go_wp2_with (first
        | (go_at_call 29; ((with_reducible refine (KT2.out _ (HRS.out _ HA1.out)).mono ?_); rintro e w2 ⟨rfl, n2, rfl⟩))
        | (go_at_call 29; ((with_reducible refine (KT6.out _ (HRS.out _ (HA1.out.drewN n2))).mono ?_); rintro e w3 ⟨rfl, n3, rfl⟩))
        | (go_at_call 53; ((with_reducible refine (KA2.out _ (HA1.out.drewN (n2 + n3))).mono ?_); rintro e w4 ⟨rfl, hb4⟩; have HB4 : Hid (Below w1.heap.size w1 w4) := Lib.hid ((below_drewN (Below.refl _ w1) (n2 + n3)).trans hb4); have HA4 := Lib.hid (HA1.out.trans (Alt.of_below HB4.out)); obtain ⟨_, g5⟩ := HES.out _ HA4.out; clear hb4))
        | (go_at_call 52; ((with_reducible refine (KG.out _).mono ?_); rintro e w5 ⟨rfl, rfl⟩)))
      go_ret
      exact ⟨_, rfl, HI5.out, fun h => by omega, HA4.out⟩
    · rw [if_neg (by simp)]
      skip
      go_enter Tryd.func26, Tryd.ntmps26
      go_wp2_with (first
        | (go_at_call 29; ((with_reducible refine (KT2.out _ (HRS.out _ HA1.out)).mono ?_); rintro e w2 ⟨rfl, n2, rfl⟩))
        | (go_at_call 29; ((with_reducible refine (KT6.out _ (HRS.out _ (HA1.out.drewN n2))).mono ?_); rintro e w3 ⟨rfl, n3, rfl⟩))
        | (go_at_call 53; ((with_reducible refine (KA2.out _ (HA1.out.drewN (n2 + n3))).mono ?_); rintro e w4 ⟨rfl, hb4⟩; have HB4 : Hid (Below w1.heap.size w1 w4) := Lib.hid ((below_drewN (Below.refl _ w1) (n2 + n3)).trans hb4); have HA4 := Lib.hid (HA1.out.trans (Alt.of_below HB4.out)); obtain ⟨_, g5⟩ := HES.out _ HA4.out; clear hb4))
        | (go_at_call 52; ((with_reducible refine (KG.out _).mono ?_); rintro e w5 ⟨rfl, rfl⟩)))
      have m4 : w4.cell? ⟨ad.block, ad.off + 9, none⟩ = _ := HBY.out _ HA4.out
      go_region_law (first
        | (go_simp; go_at_call 54; ((with_reducible refine (KD1.out _ (altDrew HA4.out)).mono ?_); rintro e w6 ⟨rfl, hb6⟩; have HB6 : Hid (Below w1.heap.size w1 w6) := Lib.hid (below_next (belowDrew HB4.out) hb6); have HA6 := Lib.hid (HA1.out.trans (Alt.of_below HB6.out)); have m6 : w6.cell? ⟨ad.block, ad.off + 9, none⟩ = _ := HBY.out _ HA6.out; clear hb6))
        | (go_simp; go_at_call 54; ((with_reducible refine (KD2.out _ HA6.out).mono ?_); rintro e w7 ⟨rfl, hb7⟩; have HB7 : Hid (Below w1.heap.size w1 w7) := Lib.hid (below_next HB6.out hb7); have HA7 := Lib.hid (HA1.out.trans (Alt.of_below HB7.out)); have m7 : w7.cell? ⟨ad.block, ad.off + 9, none⟩ = _ := HBY.out _ HA7.out; obtain ⟨w8, w9, w10, s8, s9, s10, k10, a10⟩ := HST.out w7 (Blk.below HK1.out HB7.out); have HK10 := Lib.hid k10; have HA10 := Lib.hid (HA7.out.trans a10); clear hb7 k10 a10)))
      all_goals go_wp2
      all_goals go_ret
      all_goals exact ⟨_, rfl, .inl ⟨rfl, rfl⟩, fun _ => HK10.out, HA10.out⟩
end Go.Proofs.YtfoehgcamkmooaaDoor.Head
