/- hints.Zones. -/
import Derived.Test.YtcfgffkjbkpfhaaCand11
import Derived.Test.YtcfgffkjbkpfhaaSortS
import Derived.Test.YtcfgffkjbkpfhaaShelf
namespace Go.Proofs.Ytcfgffkjbkpfhaa.Cand
open Go.RowKit Go.Sort Go.Proofs.Ytcfgffkjbkpfhaa.Mem Go.Proofs.Ytcfgffkjbkpfhaa.Num Go.Proofs.Ytcfgffkjbkpfhaa.Key Go.Proofs.Ytcfgffkjbkpfhaa.SortS
open Go.Proofs.Ytcfgffkjbkpfhaa.Addr hiding below_allocd
set_option linter.unusedVariables false
set_option linter.unusedSimpArgs false
set_option maxRecDepth 100000
attribute [-go_sem] Builtin.append_ loadCells loadCellsFrom storeCells run_eql_struct
theorem infoStr : (Try.prog.info? 9).map (fun i => (i.zero, i.size, i.bytes)) = some (some (.string ByteArray.empty), eStr.sz, 16) := by kernel_rfl
theorem sort_calls (base : Nat) (v : Value) (zs : List ByteArray) (w : World) (h : Own eStr 9 base w v zs) (hl : zs.length ≤ 100000) :
    Calls Try.prog 57 #[v] w fun e w' => e = .returned (.tuple #[]) ∧ Own eStr 9 base w' v (sortL zs) ∧ w.grownBy w' v.ownBlock := by
  have h0 := own_iff.1 h
  rcases h0.2 with ⟨rfl, hz⟩ | ⟨g, cap, cur, rfl, hbase, hb, h1, h2, h3, h4⟩
  · have hz2 : zs = [] := List.eq_nil_of_length_eq_zero hz
    subst hz2
    refine (Any.slices_Sort_string_none Try.lays190 none 0 w).mono ?_
    rintro e w' ⟨rfl, rfl⟩
    exact ⟨rfl, by rw [show sortL [] = [] from List.eq_nil_of_length_eq_zero (by rw [sortL_len]; rfl)]; exact Own.nil _ _ _ _, World.grownBy.refl _ _⟩
  · have hH : Holds encStr w g 0 (bts zs).toArray := holds_of_block hb (by rw [bts_len]; simpa using h4)
    have hc := Any.slices_Sort_string Try.lays190 g 0 cap (bts zs) w hH (Array.getElem?_eq_some_iff.1 hb).1 (by rw [bts_len]; omega)
    rw [bts_len] at hc
    refine hc.mono ?_
    rintro e w' ⟨rfl, n, os, rfl⟩
    refine ⟨rfl, own_iff.2 ?_, grownBy_sorted _⟩
    have := ownsRow_sorted (n := n) (os := os) (ss := bts zs) (ts := (bts zs).mergeSort leB) (List.length_mergeSort _) hbase hb (by rw [bts_len]; exact h1) h2 h3
    rw [bts_len] at this
    rw [sortL_len]
    unfold sortL
    rw [bts_txt]
    exact this
theorem comp_calls (base : Nat) (v : Value) (zs : List ByteArray) (w : World) (h : Own eStr 9 base w v zs) (hl : zs.length ≤ 100000) :
    Calls Try.prog 58 #[v] w fun e w' => ∃ v', e = .returned v' ∧ Own eStr 9 base w' v' (compL zs) ∧ w.grownBy w' v.ownBlock := by
  have h0 := own_iff.1 h
  rcases h0.2 with ⟨rfl, hz⟩ | ⟨g, cap, cur, rfl, hbase, hb, h1, h2, h3, h4⟩
  · have hz2 : zs = [] := List.eq_nil_of_length_eq_zero hz
    subst hz2
    refine (Any.slices_Compact_string_empty Try.lays194 none 0 w).mono ?_
    rintro e w' ⟨rfl, rfl⟩
    exact ⟨_, rfl, by rw [show compL [] = [] from List.eq_nil_of_length_eq_zero (by have := compL_len []; simpa using this)]; exact Own.nil _ _ _ _, World.grownBy.refl _ _⟩
  · have hH : Holds encStr w g 0 (bts zs).toArray := holds_of_block hb (by rw [bts_len]; simpa using h4)
    have hc := Any.slices_Compact_string Try.lays194 g 0 cap (bts zs) w hH (by rw [bts_len]; omega) (by rw [bts_len]; exact h1)
    rw [bts_len] at hc
    have hle : (Lib.compact (bts zs)).length ≤ zs.length := by rw [← bts_len zs]; exact compact_le _
    refine hc.mono ?_
    rintro e w' ⟨rfl, q, rfl⟩
    refine ⟨_, rfl, own_iff.2 ?_, grown_put _⟩
    have := Lib.ownsRow_putRow (q := q) (k := (Lib.compact (bts zs)).length) (ys := Lib.compact (bts zs) ++ List.replicate (zs.length - (Lib.compact (bts zs)).length) []) h0 (by simp; omega) hle
    rw [List.take_left] at this
    unfold compL
    rw [txt_len, bts_txt]
    exact this
/-- The zones of the ready ones, sorted, each once. -/
def zonesL (z : Cd → List ByteArray) (xs : List Cd) : List ByteArray := compL (sortL ((rdyL xs).flatMap z))
theorem flat_len (z : Cd → List ByteArray) (xs : List Cd) (h : ∀ x ∈ xs, (z x).length ≤ 400) : (xs.flatMap z).length ≤ xs.length * 400 := by
  induction xs with
  | nil => simp
  | cons x r ih =>
    rw [List.flatMap_cons, List.length_append, List.length_cons, Nat.succ_mul]
    have := h x (by simp)
    have := ih (fun y hy => h y (by simp [hy]))
    omega
theorem flat_step (z : Cd → List ByteArray) (xs : List Cd) (k : Nat) (hk : k < xs.length) : (xs.take (k + 1)).flatMap z = (xs.take k).flatMap z ++ z xs[k] := by
  rw [List.take_succ_eq_append_getElem hk, List.flatMap_append]
  simp
set_option maxHeartbeats 2000000 in
theorem zones_calls (v : Value) (xs : List Cd) (z : Cd → List ByteArray) (w : World) (hv : Cands w v xs z) (hl : xs.length ≤ 60) (hz : ∀ x ∈ xs, (z x).length ≤ 400) :
    Calls Try.prog 26 #[v] w fun e w' => (∃ v', e = .returned v' ∧ Row eStr w' v' (zonesL z xs)) ∧ Below w.heap.size w w' := by
  have KR : Hid (Calls Try.prog 54 #[v] w fun e w' => (∃ v', e = .returned v' ∧ Row eCd w' v' (rdyL xs)) ∧ Below w.heap.size w w') := Lib.hid (ready_calls v xs w hv.1 (by omega))
  have hrl : (rdyL xs).length ≤ 60 := Nat.le_trans (List.length_filter_le _ _) hl
  have HZR : Hid (∀ x ∈ rdyL xs, ∀ W, Below w.heap.size w W → Row eStr W (.slice x.A x.n x.c) (z x)) := Lib.hid (fun x hx W hW => (hv.2 x (List.mem_filter.1 hx).1).below hW)
  have HLN : Hid (∀ k, ((((rdyL xs).take k).flatMap z).length ≤ 24000)) := Lib.hid (fun k => by
    have h1 := flat_len z ((rdyL xs).take k) (fun x hx => hz x (List.mem_filter.1 (List.mem_of_mem_take hx)).1)
    have h2 := List.length_take_le' k (rdyL xs)
    omega)
  have HZL : Hid (∀ x ∈ rdyL xs, (z x).length ≤ 400) := Lib.hid (fun x hx => hz x (List.mem_filter.1 hx).1)
  have HBX := Lib.hid (fun (W : World) (x : Cd) => box_cd (P := Try.prog) W x 44 #[.bool false, .int .u8 0, .int .u8 0, .int .u8 0, .int .u8 0, .int .u8 0, .int .u8 0, .int .u8 0, .int .u8 0, .int .u8 0, .int .u8 0, .int .u8 0, .int .u8 0, .int .u8 0, .int .u8 0, .int .u8 0, .int .u8 0, .int .i64 0, .bool false, .bool false, .bool false, .bool false, .slice none 0 0] rfl)
  have KS : Hid (∀ base W v' zs, Own eStr 9 base W v' zs → zs.length ≤ 100000 → Calls Try.prog 57 #[v'] W fun e w' => e = .returned (.tuple #[]) ∧ Own eStr 9 base w' v' (sortL zs) ∧ W.grownBy w' v'.ownBlock) := Lib.hid (fun base W v' zs h hl => sort_calls _ v' zs W h hl)
  have KP : Hid (∀ base W v' zs, Own eStr 9 base W v' zs → zs.length ≤ 100000 → Calls Try.prog 58 #[v'] W fun e w' => ∃ v2, e = .returned v2 ∧ Own eStr 9 base w' v2 (compL zs) ∧ W.grownBy w' v'.ownBlock) := Lib.hid (fun base W v' zs h hl => comp_calls _ v' zs W h hl)
  unfold zonesL
  clear hv hl hz
  generalize rdyL xs = ys at KR hrl HZR HLN HZL ⊢
  go_enter Try.func26, Try.ntmps26
  go_wp2_with (go_at_call 54; ((with_reducible refine KR.out.mono ?_); rintro e w1 ⟨⟨v1, rfl, hr1⟩, hb1⟩; obtain ⟨A1, c1, rfl, _, _, hr1⟩ := hr1.parts; have HR1 : Hid (∀ W, Below w1.heap.size w1 W → Row eCd W (.slice A1 ys.length c1) ys) := Lib.hid (fun W hW => hr1.below hW); have HB1 := Lib.hid hb1; clear hr1 hb1))
  have hl2 : ys.length ≤ 9223372036854775807 := by omega
  go_loopw [3, 9] (fun ov iv wr => ∃ k : Nat, k ≤ ys.length ∧ iv = .int .i64 (k : Int) ∧ Hid (Own eStr 9 w1.heap.size wr ov ((ys.take k).flatMap z)) ∧ Hid (Below w1.heap.size w1 wr)) (fun _ iv _ => ys.length - (intOf iv).toNat)
  case atStart => exact ⟨0, Nat.zero_le _, rfl, Lib.hid (Own.nil _ _ _ _), Lib.hid (Below.refl _ _)⟩
  case round =>
    obtain ⟨k, hk, rfl, HO, HW⟩ := hrel
    by_cases hlt : k < ys.length
    · obtain ⟨ad, rfl, _⟩ := (HR1.out _ HW.out).at hlt
      have hld : (loadCells (ad.add (k * 23)) 23).run Try.prog wr = .ok (ys[k].cells).toArray wr := row_load (HR1.out _ HW.out) k hlt
      have HT := Lib.hid (flat_step z ys k hlt)
      have HZK := Lib.hid (HZR.out ys[k] (List.getElem_mem hlt))
      have HLK := Lib.hid (HZL.out ys[k] (List.getElem_mem hlt))
      generalize ys[k] = x at hld HT HZK HLK
      obtain ⟨w2, s2, k2, b2⟩ := HBX.out wr x
      have c22 : w2.cell? ⟨wr.heap.size, 22, none⟩ = some (.slice x.A x.n x.c) := k2.cell 22 _ x.at.2.2.2.2
      have HB2 := Lib.hid (HW.out.trans (b2.mono HW.out.size))
      have HO2 := Lib.hid (HO.out.below b2)
      have hsl : (x.cells.toArray).toList = x.cells := rfl
      have hsz : (x.cells.toArray).size = 23 := Cd.len x
      clear k2 b2
      go_wp2_with (at_builtin; refine wp_append (E := eStr) w1.heap.size rfl (.tmp 13) (.tmp 15) 42 9 _ 16 rfl Try.underlying42 infoStr rfl (by decide) _ _ ((ys.take k).flatMap z) (z x) rfl rfl HO2.out (HZK.out _ (HB1.out.trans (HB2.out.mono HB1.out.size))) HB2.out.size (by have := HLN.out k; have := HLK.out; omega) ?_; intro v4 w4 ho4 hg4 hat4; have HO4 : Hid (Own eStr 9 w1.heap.size w4 v4 ((ys.take (k + 1)).flatMap z)) := Lib.hid (by rw [HT.out]; exact ho4); have HB4 := Lib.hid (below_app HB2.out HB2.out.size HO2.out hg4); clear ho4 hg4 hat4)
      go_roundw
      case rel => exact ⟨k + 1, by omega, by go_num, HO4, HB4⟩
      case measure => simp [intOf]; omega
    · obtain ⟨fs, hfs⟩ : ∃ fs, fs = ys.flatMap z := ⟨_, rfl⟩
      have HFS := Lib.hid hfs
      have HE : Hid (Own eStr 9 w1.heap.size wr u3 fs) := Lib.hid (by rw [hfs]; have := HO.out; rw [List.take_of_length_le (by omega)] at this; exact this)
      have HLE : Hid (fs.length ≤ 24000) := Lib.hid (by rw [hfs]; have := HLN.out k; rw [List.take_of_length_le (by omega)] at this; exact this)
      clear hfs
      go_wp2_with (first
        | (go_at_call 57; ((with_reducible refine (KS.out _ _ _ _ HE.out (by have := HLE.out; omega)).mono ?_); rintro e w5 ⟨rfl, ho5, hg5⟩; have HO5 := Lib.hid ho5; have HB5 := Lib.hid (below_app HW.out HW.out.size HE.out hg5); clear ho5 hg5))
        | (go_at_call 58; ((with_reducible refine (KP.out _ _ _ _ HO5.out (by have := HLE.out; rw [sortL_len]; omega)).mono ?_); rintro e w6 ⟨v6, rfl, ho6, hg6⟩; have HO6 := Lib.hid ho6; have HB6 := Lib.hid (below_app HB5.out HB5.out.size HO5.out hg6); clear ho6 hg6)))
      go_ret
      exact ⟨⟨v6, rfl, by rw [← HFS.out]; exact HO6.out.row⟩, HB1.out.trans (HB6.out.mono HB1.out.size)⟩
end Go.Proofs.Ytcfgffkjbkpfhaa.Cand
