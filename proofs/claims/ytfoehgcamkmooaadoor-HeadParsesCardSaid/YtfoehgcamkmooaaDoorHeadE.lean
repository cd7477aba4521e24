/- Whether a part's sum is right. -/
import Derived.Test.YtfoehgcamkmooaaDoorHeadD
import Derived.StillTailTactics
namespace Go.Proofs.YtfoehgcamkmooaaDoor.Head
open Go.RowKit Go.Proofs.YtfoehgcamkmooaaDoor.Mem Go.Proofs.YtfoehgcamkmooaaDoor.Num Go.Proofs.YtfoehgcamkmooaaDoor.Err
open Go.Proofs.YtfoehgcamkmooaaDoor.Addr hiding below_allocd
open Go.Proofs.YtfoehgcamkmooaaDoor.Sums Go.Proofs.YtfoehgcamkmooaaDoor.SumsP Go.Proofs.YtfoehgcamkmooaaDoor.Pseudo
set_option linter.unusedVariables false
set_option linter.unusedSimpArgs false
set_option maxRecDepth 100000
attribute [-go_sem] Builtin.append_ loadCells loadCellsFrom
theorem total_app (a b : List UInt8) (h : a.length % 2 = 0) : total (a ++ b) = total a + total b := by
  match a with
  | [] => simp [total]
  | [x] => simp at h
  | x :: y :: a =>
    have ih := total_app a b (by simp at h; omega)
    simp only [List.cons_append, total, ih]
    omega
/-- The bytes ahead of a part. -/
def psL (h : Hd) (n : Nat) : List UInt8 := h.sb.take (adLen h.s6) ++ h.db.take (adLen h.d6) ++ tailL h.s6 h.pr (n : Int)
theorem psL_len (h : Hd) (n : Nat) : (psL h n).length % 2 = 0 ∧ (psL h n).length ≤ 40 := by
  unfold psL tailL adLen
  simp only [List.length_append, List.length_take, h.hs, h.hd]
  cases h.s6 <;> cases h.d6 <;> simp
/-- Is a part's sum right? -/
def sumB (h : Hd) (l : List UInt8) : Bool := if h.pr = 17 ∧ twoN l 6 = 0 then !h.s6 else goodN (total (psL h l.length ++ l) : Nat)
set_option maxHeartbeats 1000000 in
theorem summed_calls (b : Nat) (h : Hd) (t : TypeId) (v : Value) (l : List UInt8) (w : World) (hb : HBlk b h t w) (hv : Row eU8 w v l) (h8 : 8 ≤ l.length) (hl : l.length ≤ 600) :
    Calls Tryd.prog 32 #[.pointer (some ⟨b, 0, none⟩), v] w fun e w' => e = .returned (.bool (sumB h l)) ∧ Below w.heap.size w w' := by
  obtain ⟨A, c, rfl, hc, hm, hr⟩ := hv.parts
  have KT := Lib.hid (fun W hv => two_calls (.slice A l.length c) l 6 6 W hv rfl (by omega) (by omega))
  have HR := Lib.hid hr
  obtain ⟨g0, g1, g2, g3, g4, g5, g6⟩ := hb.vals
  have hps := psL_len h l.length
  have hls : (loadCells ⟨b, 1, none⟩ 17).run Tryd.prog w = .ok (adA h.s6 h.sb) w := Blk.load hb 1 17 _ h.srcPart (adCells_len _ _ h.hs)
  have hld : (loadCells ⟨b, 19, none⟩ 17).run Tryd.prog w = .ok (adA h.d6 h.db) w := Blk.load hb 19 17 _ h.dstPart (adCells_len _ _ h.hd)
  have hls' : ∀ W : World, W.heap = w.heap → (loadCells ⟨b, 1, none⟩ 17).run Tryd.prog W = .ok (adA h.s6 h.sb) W := fun W hW => Blk.load (by unfold HBlk Blk at hb; unfold Blk; rw [hW]; exact hb) 1 17 _ h.srcPart (adCells_len _ _ h.hs)
  have hld' : ∀ W : World, W.heap = w.heap → (loadCells ⟨b, 19, none⟩ 17).run Tryd.prog W = .ok (adA h.d6 h.db) W := fun W hW => Blk.load (by unfold HBlk Blk at hb; unfold Blk; rw [hW]; exact hb) 19 17 _ h.dstPart (adCells_len _ _ h.hd)
  have hdh : ∀ k, (w.drewN k).heap = w.heap := fun k => rfl
  have hpr : ∀ W : World, W.heap = w.heap → W.cell? ⟨b, 0, none⟩ = some (.int .i64 h.pr) := fun W hW => by unfold World.cell? at g0 ⊢; rw [hW]; exact g0
  have KP := Lib.hid (fun W => pseudo_calls h.s6 h.sb h.hs h.d6 h.db h.hd h.pr (l.length : Int) W)
  have hta := total_app (psL h l.length) l hps.1
  have htp := total_le (psL h l.length)
  have htl := total_le l
  have hclamp : clampN ((total (psL h l.length) : Nat) : Int) = ((total (psL h l.length) : Nat) : Int) := by unfold clampN; split <;> (try split) <;> omega
  have hg : goodN (total (psL h l.length ++ l) : Nat) = goodN (((total (psL h l.length) : Nat) : Int) + ((total l : Nat) : Int)) := by rw [hta]; simp
  rw [show h.sb.take (adLen h.s6) ++ h.db.take (adLen h.d6) ++ tailL h.s6 h.pr (l.length : Int) = psL h l.length from rfl] at KP
  have hq40 := hps.2
  have KA := Lib.hid (fun W v hv => (show clampN 0 = 0 from rfl) ▸ add_calls 0 v (psL h l.length) W hv (by omega))
  have KB := Lib.hid (fun W hv => hclamp ▸ add_calls ((total (psL h l.length) : Nat) : Int) (.slice A l.length c) l W hv (by omega))
  have KG := Lib.hid (fun W => right_calls (((total (psL h l.length) : Nat) : Int) + ((total l : Nat) : Int)) W (by omega))
  rw [← hg] at KG
  have hm1 : (0 : Int) ≤ ((total (psL h l.length) : Nat) : Int) := by omega
  have hm2 : ((total (psL h l.length) : Nat) : Int) ≤ 65535 * 40 := by omega
  clear hv hr hb hps hta htp htl hclamp hg
  unfold sumB
  generalize psL h l.length = q at KP KA KB KG hq40 hm1 hm2 ⊢
  generalize goodN (total (q ++ l) : Nat) = G at KG ⊢
  generalize total q = m at KA KB KG hm1 hm2
  generalize total l = n at KB KG
  by_cases h1 : h.pr = 17 ∧ twoN l 6 = 0
  · rw [if_pos h1]
    obtain ⟨ha, hb2⟩ := h1
    rw [hb2] at KT
    rw [ha] at g0
    clear ha hb2
    go_enter Tryd.func32, Tryd.ntmps32
    go_wp2_with (go_at_call 29; ((with_reducible refine (KT.out _ HR.out).mono ?_); rintro e w1 ⟨rfl, n1, rfl⟩))
    go_ret
    exact ⟨rfl, below_drewN (Below.refl _ _) _⟩
  · rw [if_neg h1]
    by_cases h17 : h.pr = 17
    · have h2 : ¬ twoN l 6 = 0 := fun e => h1 ⟨h17, e⟩
      rw [h17] at g0
      simp only [h17] at hpr
      generalize twoN l 6 = k at KT h2
      have hk : ((k : Int) == 0) = false := beq_eq_false_iff_ne.mpr (by omega)
      rw [h17] at KP
      clear h17 h1
      go_enter Tryd.func32, Tryd.ntmps32
      go_wp2_with (go_at_call 29; ((with_reducible refine (KT.out _ HR.out).mono ?_); rintro e w1 ⟨rfl, n1, rfl⟩))
      go_still_tail 16, (by kernel_rfl)
      change wpList _ _ _ _ _ (w.drewN (n1 + 1))
      clear hls' hld' hdh hpr hls hld
      go_wp2_with (first
        | (go_at_call 57; ((with_reducible refine (KP.out _).mono ?_); rintro e w2 ⟨⟨v2, rfl, ho2⟩, hb2⟩; have HB2 := Lib.hid (below_next (below_drewN (Below.refl _ w) (n1 + 1)) hb2); have HR2 := Lib.hid ho2.row; clear ho2 hb2))
        | (go_at_call 53; ((with_reducible refine (KA.out _ _ HR2.out).mono ?_); rintro e w3 ⟨rfl, hb3⟩; have HB3 := Lib.hid (below_next HB2.out hb3); clear hb3))
        | (go_at_call 53; ((with_reducible refine (KB.out _ (HR.out.below HB3.out)).mono ?_); rintro e w4 ⟨rfl, hb4⟩; have HB4 := Lib.hid (below_next HB3.out hb4); clear hb4))
        | (go_at_call 52; ((with_reducible refine (KG.out _).mono ?_); rintro e w5 ⟨rfl, rfl⟩)))
      go_ret
      exact ⟨rfl, HB4.out⟩
    · have h17' : (h.pr == 17) = false := beq_eq_false_iff_ne.mpr h17
      clear h1
      have hdr : w.drew.heap = w.heap := rfl
      go_enter Tryd.func32, Tryd.ntmps32
      go_wp2
      go_still_tail 16, (by kernel_rfl)
      change wpList _ _ _ _ _ (w.drewN 1)
      clear hls' hld' hdh hdr hpr hls hld
      go_wp2_with (first
        | (go_at_call 57; ((with_reducible refine (KP.out _).mono ?_); rintro e w2 ⟨⟨v2, rfl, ho2⟩, hb2⟩; have HB2 := Lib.hid (below_next (below_drewN (Below.refl _ w) 1) hb2); have HR2 := Lib.hid ho2.row; clear ho2 hb2))
        | (go_at_call 53; ((with_reducible refine (KA.out _ _ HR2.out).mono ?_); rintro e w3 ⟨rfl, hb3⟩; have HB3 := Lib.hid (below_next HB2.out hb3); clear hb3))
        | (go_at_call 53; ((with_reducible refine (KB.out _ (HR.out.below HB3.out)).mono ?_); rintro e w4 ⟨rfl, hb4⟩; have HB4 := Lib.hid (below_next HB3.out hb4); clear hb4))
        | (go_at_call 52; ((with_reducible refine (KG.out _).mono ?_); rintro e w5 ⟨rfl, rfl⟩)))
      go_ret
      exact ⟨rfl, HB4.out⟩
end Go.Proofs.YtfoehgcamkmooaaDoor.Head
