/- linkboyref18.Count and Filter, linkboyref19.Usable and Choose. -/
import Derived.Test.YtcfgffkjbkpfhaaCand14
namespace Go.Proofs.Ytcfgffkjbkpfhaa.Cand
open Go.RowKit Go.Proofs.Ytcfgffkjbkpfhaa.Mem Go.Proofs.Ytcfgffkjbkpfhaa.Num Go.Proofs.Ytcfgffkjbkpfhaa.Key
open Go.Proofs.Ytcfgffkjbkpfhaa.Addr hiding below_allocd
set_option linter.unusedVariables false
set_option linter.unusedSimpArgs false
set_option maxRecDepth 100000
attribute [-go_sem] Builtin.append_ loadCells loadCellsFrom storeCells run_eql_struct
theorem count_any (s : ByteArray) (z : Cd → List ByteArray) (xs : List Cd) : countB s z xs = (!s.toList.isEmpty && (!xs.any (fun x => x.rdy && bareB x) && xs.any (fun x => x.rdy && memS s (z x)))) := by
  unfold countB rdyL
  rw [List.any_filter, List.any_filter]
theorem HBXr {P : Program} (W : World) (x : Cd) : ∃ w2, (storeCells ⟨W.heap.size, 0, none⟩ x.cells).run P (W.alloc (.cells #[.bool false, .int .u8 0, .int .u8 0, .int .u8 0, .int .u8 0, .int .u8 0, .int .u8 0, .int .u8 0, .int .u8 0, .int .u8 0, .int .u8 0, .int .u8 0, .int .u8 0, .int .u8 0, .int .u8 0, .int .u8 0, .int .u8 0, .int .i64 0, .bool false, .bool false, .bool false, .bool false, .slice none 0 0] 66)) = .ok () w2 ∧ Blk W.heap.size x.cells 66 w2 ∧ Below W.heap.size W w2 := box_cd W x 66 _ rfl
set_option maxHeartbeats 4000000 in
theorem rcount_calls (v : Value) (s : ByteArray) (xs : List Cd) (z : Cd → List ByteArray) (w : World) (hv : Cands w v xs z) (hl : xs.length ≤ 100000) :
    Calls Try.prog 31 #[v, .string s] w fun e w' => e = .returned (.bool (countB s z xs)) ∧ Below w.heap.size w w' := by
  obtain ⟨A, c, rfl, _, _, _⟩ := hv.1.parts
  have HV : Hid (∀ W, Below w.heap.size w W → Cands W (.slice A xs.length c) xs z) := Lib.hid (fun W hW => hv.below hW)
  have HBX := Lib.hid (fun (W : World) (x : Cd) => HBXr (P := Try.prog) W x)
  have hl2 : xs.length ≤ 9223372036854775807 := by omega
  rw [count_any]
  obtain ⟨M, hM⟩ : ∃ M, M = xs.any (fun x => x.rdy && memS s (z x)) := ⟨_, rfl⟩
  obtain ⟨B, hB⟩ : ∃ B, B = xs.any (fun x => x.rdy && bareB x) := ⟨_, rfl⟩
  rw [← hM, ← hB]
  have HM := Lib.hid hM
  have HBR := Lib.hid hB
  clear hv hl hM hB
  go_enter Try.func31, Try.ntmps31
  go_wp2
  go_loopw [5, 6, 11] (fun mv bv iv wr => ∃ (k : Nat) (m b : Bool), k ≤ xs.length ∧ iv = .int .i64 (k : Int) ∧ mv = .bool m ∧ bv = .bool b ∧ Hid (M = (m || (xs.drop k).any (fun x => x.rdy && memS s (z x)))) ∧ Hid (B = (b || (xs.drop k).any (fun x => x.rdy && bareB x))) ∧ Hid (Below w.heap.size w wr)) (fun _ _ iv _ => xs.length - (intOf iv).toNat)
  case atStart => exact ⟨0, false, false, Nat.zero_le _, rfl, rfl, rfl, Lib.hid (by rw [HM.out]; rfl), Lib.hid (by rw [HBR.out]; rfl), Lib.hid (Below.refl _ _)⟩
  case round =>
    obtain ⟨k, m, b, hk, rfl, rfl, rfl, HM1, HB1, HW⟩ := hrel
    by_cases hlt : k < xs.length
    · obtain ⟨ad, rfl, _⟩ := (HV.out _ HW.out).1.at hlt
      have hld : (loadCells (ad.add (k * 23)) 23).run Try.prog wr = .ok (xs[k].cells).toArray wr := row_load (HV.out _ HW.out).1 k hlt
      have hzr := (HV.out _ HW.out).2 xs[k] (List.getElem_mem hlt)
      have HS := Lib.hid (HM1.out.trans (congrArg (fun q => m || q) (any_step xs _ k hlt)))
      have HT := Lib.hid (HB1.out.trans (congrArg (fun q => b || q) (any_step xs _ k hlt)))
      generalize xs[k] = x at hld hzr HS HT
      obtain ⟨w2, s2, k2, b2⟩ := HBX.out wr x
      have c19 : w2.cell? ⟨wr.heap.size, 19, none⟩ = some (.bool x.rdy) := k2.cell 19 _ x.at.2.1
      have l2 : (loadCells ⟨wr.heap.size, 0, none⟩ 23).run Try.prog w2 = .ok x.cells.toArray w2 := k2.load 0 23 x.cells (by rw [List.drop_zero, List.take_of_length_le (by rw [Cd.len]; decide)]) (Cd.len x)
      have HZ : Hid (∀ W, Below w2.heap.size w2 W → W.cell? ⟨wr.heap.size, 22, none⟩ = some (.slice x.A x.n x.c)) := Lib.hid (fun W hW => (k2.below hW).cell 22 _ x.at.2.2.2.2)
      have c22 := HZ.out _ (Below.refl _ _)
      have HB2 := Lib.hid (HW.out.trans (b2.mono HW.out.size))
      have KM := Lib.hid (rmeant_calls x s (z x) w2 (hzr.below b2))
      have hsl : (x.cells.toArray).toList = x.cells := rfl
      have hsz : (x.cells.toArray).size = 23 := Cd.len x
      have hnb : ((x.n : Int) == 0) = bareB x := rfl
      clear hzr k2 b2
      generalize x.cells.toArray = xa at hld hsl hsz l2 KM
      generalize memS s (z x) = q1 at KM HS
      generalize bareB x = q2 at HT hnb
      generalize x.rdy = q0 at c19 HS HT
      have HR1 : Hid (M = ((m || (q0 && q1)) || (xs.drop (k + 1)).any (fun x => x.rdy && memS s (z x)))) := Lib.hid (by rw [HS.out, Bool.or_assoc])
      have HR2 : Hid (B = ((b || (q0 && q2)) || (xs.drop (k + 1)).any (fun x => x.rdy && bareB x))) := Lib.hid (by rw [HT.out, Bool.or_assoc])
      clear HS HT
      cases q0
      · simp only [Bool.false_and, Bool.or_false] at HR1 HR2
        go_wp2
        go_roundw
        case rel => exact ⟨k + 1, _, _, by omega, by go_num, rfl, rfl, HR1, HR2, HB2⟩
        case measure => simp [intOf]; omega
      · simp only [Bool.true_and] at HR1 HR2
        cases m
        · simp only [Bool.false_or] at HR1
          cases b
          all_goals
            go_wp2_with (go_at_call 28; ((with_reducible refine KM.out.mono ?_); rintro e w3 ⟨rfl, hb3⟩; have HB3 := Lib.hid (HB2.out.trans (hb3.mono HB2.out.size)); have c23 := HZ.out _ hb3; clear hb3))
            go_roundw
            case rel => exact ⟨k + 1, _, _, by omega, by go_num, rfl, rfl, HR1, HR2, HB3⟩
            case measure => simp [intOf]; omega
        · simp only [Bool.true_or] at HR1
          cases b
          all_goals
            go_wp2
            go_roundw
            case rel => exact ⟨k + 1, true, _, by omega, by go_num, rfl, rfl, HR1, HR2, HB2⟩
            case measure => simp [intOf]; omega
    · have HR1 : Hid (M = m) := Lib.hid (by rw [HM1.out, List.drop_of_length_le (by omega)]; simp)
      have HR2 : Hid (B = b) := Lib.hid (by rw [HB1.out, List.drop_of_length_le (by omega)]; simp)
      have hs : s.toList.isEmpty = true ∨ s.toList.isEmpty = false := by cases s.toList.isEmpty <;> simp
      clear HM1 HB1 HM HBR
      rcases hs with hs1 | hs1 <;> cases m <;> cases b
      all_goals
        go_wp2
        go_ret
        exact ⟨by rw [HR1.out, HR2.out]; simp [hs1], HW.out⟩
theorem filter_step (xs : List Cd) (p : Cd → Bool) (k : Nat) (hk : k < xs.length) : (xs.take (k + 1)).filter p = (xs.take k).filter p ++ if p xs[k] then [xs[k]] else [] := by
  rw [List.take_succ_eq_append_getElem hk, List.filter_append, List.filter_cons, List.filter_nil]

theorem filterL_eq (s : ByteArray) (z : Cd → List ByteArray) (xs : List Cd) : filterL s z xs = xs.filter (fun x => x.rdy && (!countB s z xs || memS s (z x))) := by
  unfold filterL rdyL
  cases countB s z xs
  · simp
  · rw [if_pos rfl, List.filter_filter]
    congr 1
    funext x
    simp [Bool.and_comm]
theorem take_filter_len (xs : List Cd) (p : Cd → Bool) (k : Nat) (hl : xs.length ≤ 100000) : ((xs.take k).filter p).length ≤ 100000 := Nat.le_trans (List.length_filter_le _ _) (Nat.le_trans (List.length_take_le' _ _) hl)
set_option maxHeartbeats 4000000 in
theorem rfilter_calls (v : Value) (s : ByteArray) (xs : List Cd) (z : Cd → List ByteArray) (w : World) (hv : Cands w v xs z) (hl : xs.length ≤ 100000) :
    Calls Try.prog 32 #[v, .string s] w fun e w' => (∃ v', e = .returned v' ∧ Row eCd w' v' (filterL s z xs)) ∧ Below w.heap.size w w' := by
  obtain ⟨A, c, rfl, _, _, _⟩ := hv.1.parts
  have HV : Hid (∀ W, Below w.heap.size w W → Cands W (.slice A xs.length c) xs z) := Lib.hid (fun W hW => hv.below hW)
  have HBX := Lib.hid (fun (W : World) (x : Cd) => HBXr (P := Try.prog) W x)
  have hl2 : xs.length ≤ 9223372036854775807 := by omega
  have KC : Hid (∀ W, Below w.heap.size w W → Calls Try.prog 31 #[.slice A xs.length c, .string s] W fun e w' => e = .returned (.bool (countB s z xs)) ∧ Below W.heap.size W w') := Lib.hid (fun W hW => rcount_calls _ s xs z W (hv.below hW) hl)
  rw [filterL_eq]
  generalize countB s z xs = ct at KC ⊢
  obtain ⟨p, hp⟩ : ∃ p : Cd → Bool, p = fun x => x.rdy && (!ct || memS s (z x)) := ⟨_, rfl⟩
  rw [← hp]
  have HP : Hid (∀ x : Cd, p x = (x.rdy && (!ct || memS s (z x)))) := Lib.hid (fun x => by rw [hp])
  have HLN := Lib.hid (fun k => take_filter_len xs p k hl)
  clear hv hl hp
  go_enter Try.func32, Try.ntmps32
  go_wp2_with (go_at_call 31; ((with_reducible refine (KC.out _ ((Below.refl _ _).alloc (Nat.le_refl _) _)).mono ?_); rintro e w1 ⟨rfl, hb1⟩; have HO1 : Hid (Own eCd 66 w.heap.size w1 (.slice (some ⟨w.heap.size, 0, none⟩) 0 0) []) := Lib.hid ((Own.lit w w.heap.size eCd 66 [] 0 rfl _ rfl (Nat.le_refl _) (by simp)).below hb1); have HB1 := Lib.hid (below_allocd hb1); clear hb1))
  go_loopw [5, 15] (fun ov iv wr => ∃ k : Nat, k ≤ xs.length ∧ iv = .int .i64 (k : Int) ∧ Hid (Own eCd 66 w.heap.size wr ov ((xs.take k).filter p)) ∧ Hid (Below w.heap.size w wr)) (fun _ iv _ => xs.length - (intOf iv).toNat)
  case atStart => exact ⟨0, Nat.zero_le _, rfl, HO1, HB1⟩
  case round =>
    obtain ⟨k, hk, rfl, HO, HW⟩ := hrel
    by_cases hlt : k < xs.length
    · obtain ⟨ad, rfl, _⟩ := (HV.out _ HW.out).1.at hlt
      have hld : (loadCells (ad.add (k * 23)) 23).run Try.prog wr = .ok (xs[k].cells).toArray wr := row_load (HV.out _ HW.out).1 k hlt
      have hzr := (HV.out _ HW.out).2 xs[k] (List.getElem_mem hlt)
      have HF := Lib.hid (filter_step xs p k hlt)
      generalize xs[k] = x at hld hzr HF
      have HPX := Lib.hid (HP.out x)
      obtain ⟨w2, s2, k2, b2⟩ := HBX.out wr x
      have c19 : w2.cell? ⟨wr.heap.size, 19, none⟩ = some (.bool x.rdy) := k2.cell 19 _ x.at.2.1
      have HLD : Hid (∀ W, Below w2.heap.size w2 W → (loadCells ⟨wr.heap.size, 0, none⟩ 23).run Try.prog W = .ok x.cells.toArray W) := Lib.hid (fun W hW => (k2.below hW).load 0 23 x.cells (by rw [List.drop_zero, List.take_of_length_le (by rw [Cd.len]; decide)]) (Cd.len x))
      have l2 := HLD.out _ (Below.refl _ _)
      have HB2 := Lib.hid (HW.out.trans (b2.mono HW.out.size))
      have HO2 := Lib.hid (HO.out.below b2)
      have KM := Lib.hid (rmeant_calls x s (z x) w2 (hzr.below b2))
      have hsl : (x.cells.toArray).toList = x.cells := rfl
      have hsz : (x.cells.toArray).size = 23 := Cd.len x
      clear hzr k2 b2
      generalize memS s (z x) = q1 at KM HPX
      generalize x.rdy = q0 at c19 HPX
      cases q0
      · have HE : Hid ((xs.take (k + 1)).filter p = (xs.take k).filter p) := Lib.hid (by rw [HF.out, HPX.out]; simp)
        have HO4 : Hid (Own eCd 66 w.heap.size w2 u5 ((xs.take (k + 1)).filter p)) := Lib.hid (by rw [HE.out]; exact HO2.out)
        go_wp2
        go_roundw
        case rel => exact ⟨k + 1, by omega, by go_num, HO4, HB2⟩
        case measure => simp [intOf]; omega
      · cases ct
        · have HE : Hid ((xs.take (k + 1)).filter p = (xs.take k).filter p ++ [x]) := Lib.hid (by rw [HF.out, HPX.out]; simp)
          go_wp2_with (at_builtin; refine wp_append (E := eCd) w.heap.size rfl (.tmp 30) (.tmp 32) 28 66 _ 64 rfl Try.underlying28 infoRc rfl (by decide) _ _ ((xs.take k).filter p) [x] rfl rfl (HO2.out.alloc _) (Own.lit w2 0 eCd 66 [x] 1 rfl _ (fold_cd x) (Nat.zero_le _) (by simp)).row (by have := HB2.out.size; simp; omega) (by have := HLN.out k; simp; omega) ?_; intro v4 w4 ho4 hg4 hat4; have HO4 : Hid (Own eCd 66 w.heap.size w4 v4 ((xs.take (k + 1)).filter p)) := Lib.hid (by rw [HE.out]; exact ho4); have HB4 := Lib.hid (below_app (HB2.out.alloc HB2.out.size _) (size_alloc_le HB2.out _) (HO2.out.alloc _) hg4); clear ho4 hg4 hat4)
          go_roundw
          case rel => exact ⟨k + 1, by omega, by go_num, HO4, HB4⟩
          case measure => simp [intOf]; omega
        · cases q1
          · have HE : Hid ((xs.take (k + 1)).filter p = (xs.take k).filter p) := Lib.hid (by rw [HF.out, HPX.out]; simp)
            go_wp2_with (go_at_call 28; ((with_reducible refine KM.out.mono ?_); rintro e w3 ⟨rfl, hb3⟩; have HB3 := Lib.hid (HB2.out.trans (hb3.mono HB2.out.size)); have HO3 : Hid (Own eCd 66 w.heap.size w3 u5 ((xs.take (k + 1)).filter p)) := Lib.hid (by rw [HE.out]; exact HO2.out.below hb3); clear hb3))
            go_roundw
            case rel => exact ⟨k + 1, by omega, by go_num, HO3, HB3⟩
            case measure => simp [intOf]; omega
          · have HE : Hid ((xs.take (k + 1)).filter p = (xs.take k).filter p ++ [x]) := Lib.hid (by rw [HF.out, HPX.out]; simp)
            go_wp2_with (first
              | (go_at_call 28; ((with_reducible refine KM.out.mono ?_); rintro e w3 ⟨rfl, hb3⟩; have HB3 := Lib.hid (HB2.out.trans (hb3.mono HB2.out.size)); have HO3 := Lib.hid (HO2.out.below hb3); have l3 := HLD.out _ hb3; clear hb3))
              | (at_builtin; refine wp_append (E := eCd) w.heap.size rfl (.tmp 30) (.tmp 32) 28 66 _ 64 rfl Try.underlying28 infoRc rfl (by decide) _ _ ((xs.take k).filter p) [x] rfl rfl (HO3.out.alloc _) (Own.lit w3 0 eCd 66 [x] 1 rfl _ (fold_cd x) (Nat.zero_le _) (by simp)).row (by have := HB3.out.size; simp; omega) (by have := HLN.out k; simp; omega) ?_; intro v4 w4 ho4 hg4 hat4; have HO4 : Hid (Own eCd 66 w.heap.size w4 v4 ((xs.take (k + 1)).filter p)) := Lib.hid (by rw [HE.out]; exact ho4); have HB4 := Lib.hid (below_app (HB3.out.alloc HB3.out.size _) (size_alloc_le HB3.out _) (HO3.out.alloc _) hg4); clear ho4 hg4 hat4))
            go_roundw
            case rel => exact ⟨k + 1, by omega, by go_num, HO4, HB4⟩
            case measure => simp [intOf]; omega
    · have HE : Hid (Own eCd 66 w.heap.size wr u5 (xs.filter p)) := Lib.hid (by have := HO.out; rw [List.take_of_length_le (by omega)] at this; exact this)
      go_wp2
      go_ret
      exact ⟨⟨_, rfl, HE.out.row⟩, HW.out⟩
end Go.Proofs.Ytcfgffkjbkpfhaa.Cand
