/- Candidates as of the document: linkboylaw18.Of, linkboyref18.Meant, Same, All. -/
import Derived.Test.YtcfgffkjbkpfhaaCand11
namespace Go.Proofs.Ytcfgffkjbkpfhaa.Cand
open Go.RowKit Go.Proofs.Ytcfgffkjbkpfhaa.Mem Go.Proofs.Ytcfgffkjbkpfhaa.Num Go.Proofs.Ytcfgffkjbkpfhaa.Key
open Go.Proofs.Ytcfgffkjbkpfhaa.Addr hiding below_allocd
set_option linter.unusedVariables false
set_option linter.unusedSimpArgs false
set_option maxRecDepth 100000
attribute [-go_sem] Builtin.append_ loadCells loadCellsFrom storeCells run_eql_struct
theorem infoRc : (Try.prog.info? 66).map (fun i => (i.zero, i.size, i.bytes)) = some (some (.agg cd0.cells.toArray), eCd.sz, 64) := by kernel_rfl
theorem fold_set (l : List Value) : ∀ (a : Array Value) (o : Nat), o + l.length = a.size → (l.zipIdx o).foldl (fun cs x => cs.setIfInBounds x.2 x.1) a = (a.toList.take o ++ l).toArray := by
  induction l with
  | nil =>
    intro a o h
    simp at h
    rw [List.append_nil, List.take_of_length_le (by simp; omega)]
    simp
  | cons v l ih =>
    intro a o h
    rw [List.zipIdx_cons, List.foldl_cons, ih _ (o + 1) (by simp at h ⊢; omega)]
    have ho : o < a.toList.length := by simp at h ⊢; omega
    congr 1
    rw [Array.toList_setIfInBounds, List.take_succ_eq_append_getElem (by simpa using ho), List.take_set, List.set_eq_of_length_le (by rw [List.length_take]; omega)]
    simp
theorem fold_cd (x : Cd) : x.cells.zipIdx.foldl (fun cs x => cs.setIfInBounds x.2 x.1) #[.bool false, .int .u8 0, .int .u8 0, .int .u8 0, .int .u8 0, .int .u8 0, .int .u8 0, .int .u8 0, .int .u8 0, .int .u8 0, .int .u8 0, .int .u8 0, .int .u8 0, .int .u8 0, .int .u8 0, .int .u8 0, .int .u8 0, .int .i64 0, .bool false, .bool false, .bool false, .bool false, .slice none 0 0] = (eCd.all [x]).toArray := by
  have := fold_set x.cells #[.bool false, .int .u8 0, .int .u8 0, .int .u8 0, .int .u8 0, .int .u8 0, .int .u8 0, .int .u8 0, .int .u8 0, .int .u8 0, .int .u8 0, .int .u8 0, .int .u8 0, .int .u8 0, .int .u8 0, .int .u8 0, .int .u8 0, .int .i64 0, .bool false, .bool false, .bool false, .bool false, .slice none 0 0] 0 (by rw [Cd.len]; rfl)
  rw [this]
  simp [Enc.all, eCd]
set_option maxHeartbeats 2000000 in
theorem of_calls (v : Value) (xs : List Cd) (w : World) (hv : Row eCd w v xs) (hl : xs.length ≤ 100000) :
    Calls Try.prog 11 #[v] w fun e w' => (∃ v', e = .returned v' ∧ Row eCd w' v' xs) ∧ Below w.heap.size w w' := by
  obtain ⟨A, c, rfl, hc, hm, hr⟩ := hv.parts
  have HV : Hid (∀ W, Below w.heap.size w W → Row eCd W (.slice A xs.length c) xs) := Lib.hid (fun W hW => hr.below hW)
  have HBX := Lib.hid (fun (W : World) (x : Cd) => box_cd (P := Try.prog) W x 44 #[.bool false, .int .u8 0, .int .u8 0, .int .u8 0, .int .u8 0, .int .u8 0, .int .u8 0, .int .u8 0, .int .u8 0, .int .u8 0, .int .u8 0, .int .u8 0, .int .u8 0, .int .u8 0, .int .u8 0, .int .u8 0, .int .u8 0, .int .i64 0, .bool false, .bool false, .bool false, .bool false, .slice none 0 0] rfl)
  have hl2 : xs.length ≤ 9223372036854775807 := by omega
  have HL := Lib.hid hl
  clear hv hr hl
  go_enter Try.func11, Try.ntmps11
  go_wp2
  go_loopw [3, 9] (fun ov iv wr => ∃ k : Nat, k ≤ xs.length ∧ iv = .int .i64 (k : Int) ∧ Hid (Own eCd 66 w.heap.size wr ov (xs.take k)) ∧ Hid (Below w.heap.size w wr)) (fun _ iv _ => xs.length - (intOf iv).toNat)
  case atStart => exact ⟨0, Nat.zero_le _, rfl, Lib.hid (Own.lit w w.heap.size eCd 66 [] 0 rfl _ rfl (Nat.le_refl _) (by simp)), Lib.hid ((Below.refl _ _).alloc (Nat.le_refl _) _)⟩
  case round =>
    obtain ⟨k, hk, rfl, HO, HW⟩ := hrel
    by_cases hlt : k < xs.length
    · obtain ⟨ad, rfl, _⟩ := (HV.out _ HW.out).at hlt
      have hld : (loadCells (ad.add (k * 23)) 23).run Try.prog wr = .ok (xs[k].cells).toArray wr := row_load (HV.out _ HW.out) k hlt
      have HT : Hid (xs.take (k + 1) = xs.take k ++ [xs[k]]) := Lib.hid (by rw [List.take_succ_eq_append_getElem hlt])
      generalize xs[k] = x at hld HT
      obtain ⟨w2, s2, k2, b2⟩ := HBX.out wr x
      have l2 : (loadCells ⟨wr.heap.size, 0, none⟩ 23).run Try.prog w2 = .ok x.cells.toArray w2 := k2.load 0 23 x.cells (by rw [List.drop_zero, List.take_of_length_le (by rw [Cd.len]; decide)]) (Cd.len x)
      have HB2 := Lib.hid (HW.out.trans (b2.mono HW.out.size))
      have HO2 := Lib.hid (HO.out.below b2)
      have hsl : (x.cells.toArray).toList = x.cells := rfl
      have hsz : (x.cells.toArray).size = 23 := Cd.len x
      clear b2
      have HAL := Lib.hid (Own.lit w2 0 eCd 66 [x] 1 rfl _ (fold_cd x) (Nat.zero_le _) (by simp)).row
      go_wp2_with (at_builtin; refine wp_append (E := eCd) w.heap.size rfl (.tmp 13) (.tmp 15) 28 66 _ 64 rfl Try.underlying28 infoRc rfl (by decide) _ _ (xs.take k) [x] rfl rfl (HO2.out.alloc _) HAL.out (by have := HB2.out.size; simp; omega) (by have := HL.out; rw [List.length_take]; simp; omega) ?_; intro v4 w4 ho4 hg4 hat4; have HO4 : Hid (Own eCd 66 w.heap.size w4 v4 (xs.take (k + 1))) := Lib.hid (by rw [HT.out]; exact ho4); have HB4 := Lib.hid (below_app (HB2.out.alloc HB2.out.size _) (size_alloc_le HB2.out _) (HO2.out.alloc _) hg4); clear ho4 hg4 hat4)
      go_roundw
      case rel => exact ⟨k + 1, by omega, by go_num, HO4, HB4⟩
      case measure => simp [intOf]; omega
    · have HE : Hid (Own eCd 66 w.heap.size wr u3 xs) := Lib.hid (by have := HO.out; rw [List.take_of_length_le (by omega)] at this; exact this)
      go_wp2
      go_ret
      exact ⟨⟨_, rfl, HE.out.row⟩, HW.out⟩
theorem boxOf (W W' : World) (x : Cd) (t : TypeId) (h : Below (W.alloc (.cells x.cells.toArray t)).heap.size (W.alloc (.cells x.cells.toArray t)) W') : (loadCells ⟨W.heap.size, 0, none⟩ 23).run Try.prog W' = .ok x.cells.toArray W' := ((Blk.new W x.cells _ t _ rfl rfl).below h).load 0 23 x.cells (by rw [List.drop_zero, List.take_of_length_le (by rw [Cd.len]; decide)]) (Cd.len x)
set_option maxHeartbeats 1000000 in
theorem rmeant_calls (x : Cd) (s : ByteArray) (zs : List ByteArray) (w : World) (hr : Row eStr w (.slice x.A x.n x.c) zs) :
    Calls Try.prog 28 #[.agg x.cells.toArray, .string s] w fun e w' => e = .returned (.bool (memS s zs)) ∧ Below w.heap.size w w' := by
  have hn := hr.len
  have hl : zs.length ≤ 9223372036854775807 := by have := hr.cap; unfold maxLen at this; omega
  obtain ⟨_, _, _, _, _, c5⟩ := boxed w _ x 66 (Below.refl _ _)
  rw [hn] at c5
  obtain ⟨W0, hW0⟩ : ∃ W0, W0 = w.alloc (.cells x.cells.toArray 66) := ⟨_, rfl⟩
  have HR : Hid (Row eStr W0 (.slice x.A zs.length x.c) zs) := Lib.hid (by rw [hW0, ← hn]; exact hr.alloc _)
  have HB0 : Hid (Below w.heap.size w W0) := Lib.hid (by rw [hW0]; exact (Below.refl _ _).alloc (Nat.le_refl _) _)
  obtain ⟨b, hb⟩ : ∃ b, b = memS s zs := ⟨_, rfl⟩
  rw [← hb]
  have HB := Lib.hid hb
  have HW0 := Lib.hid hW0
  generalize x.cells.toArray = xa at c5 HW0 ⊢
  generalize x.A = A at c5 HR
  generalize x.c = c at c5 HR
  clear hr hn hb hW0
  go_enter Try.func28, Try.ntmps28
  go_wp2
  rw [← HW0.out]
  clear c5
  go_loop [10] (fun iv => ∃ k : Nat, k ≤ zs.length ∧ iv = .int .i64 (k : Int) ∧ Hid (b = memS s (zs.drop k))) (fun iv => zs.length - (intOf iv).toNat)
  case atStart => exact ⟨0, Nat.zero_le _, rfl, HB⟩
  case round =>
    obtain ⟨k, hk, rfl, HL⟩ := hrel
    by_cases hlt : k < zs.length
    · obtain ⟨ad, rfl, hcell⟩ := HR.out.at1 hlt
      have HS := Lib.hid (HL.out.trans (memS_step s zs k hlt))
      generalize zs[k] = y at hcell HS
      have he3 : (y.toList == s.toList) = (s.toList == y.toList) := Bool.beq_comm
      have he : (y == s) = (s.toList == y.toList) := by rw [beq_toListBytes y s, he3]
      generalize hq : (s.toList == y.toList) = q at HS he he3
      cases q
      · have HT : Hid (b = memS s (zs.drop (k + 1))) := Lib.hid (by rw [HS.out]; rfl)
        go_wp2
        go_round
        case rel => exact ⟨k + 1, by omega, by go_num, HT⟩
        case measure => simp [intOf]; omega
      · have HT : Hid (b = true) := Lib.hid (by rw [HS.out]; rfl)
        go_wp2
        go_ret
        exact ⟨by rw [HT.out]; rfl, HB0.out⟩
    · have HT : Hid (b = false) := Lib.hid (by rw [HL.out, List.drop_of_length_le (by omega)]; rfl)
      go_wp2
      go_ret
      exact ⟨by rw [HT.out]; rfl, HB0.out⟩
end Go.Proofs.Ytcfgffkjbkpfhaa.Cand
