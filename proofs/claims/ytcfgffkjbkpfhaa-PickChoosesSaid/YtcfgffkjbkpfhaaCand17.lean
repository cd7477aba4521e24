/- linkboyref19.Choose; the law PickChooses. -/
import Derived.Test.YtcfgffkjbkpfhaaCand16
namespace Go.Proofs.Ytcfgffkjbkpfhaa.Cand
open Go.RowKit Go.Proofs.Ytcfgffkjbkpfhaa.Mem Go.Proofs.Ytcfgffkjbkpfhaa.Num Go.Proofs.Ytcfgffkjbkpfhaa.Key
open Go.Proofs.Ytcfgffkjbkpfhaa.Addr hiding below_allocd
set_option linter.unusedVariables false
set_option linter.unusedSimpArgs false
set_option maxRecDepth 100000
attribute [-go_sem] Builtin.append_ loadCells loadCellsFrom storeCells run_eql_struct
theorem filter_any (s : ByteArray) (z : Cd → List ByteArray) (xs : List Cd) : xs.any (fun x => x.rdy) = decide ((0 : Int) < ((filterL s z xs).length : Int)) := by
  rw [Bool.eq_iff_iff, decide_eq_true_iff]
  constructor
  · intro h
    rw [List.any_eq_true] at h
    obtain ⟨x, hx, hr⟩ := h
    have h1 : rdyL xs ≠ [] := fun e => by
      have : x ∈ rdyL xs := List.mem_filter.2 ⟨hx, hr⟩
      rw [e] at this; cases this
    have := List.length_pos_iff.2 (filterL_some (s := s) (z := z) h1)
    omega
  · intro h
    obtain ⟨x, hx⟩ := List.exists_mem_of_length_pos (l := filterL s z xs) (by omega)
    have := filterL_mem hx
    exact List.any_eq_true.2 ⟨x, this.1, this.2⟩
set_option maxHeartbeats 4000000 in
theorem rchoose_calls (v : Value) (name : ByteArray) (proto : Int) (six loc hint : Bool) (node zone : ByteArray) (xs : List Cd) (z : Cd → List ByteArray) (w : World) (hv : Cands w v xs z) (hl : xs.length ≤ 100000) :
    Calls Try.prog 16 #[v, wtV name proto six loc hint node zone] w fun e w' => (∃ v', e = .returned v' ∧ Row eCd w' v' (chooseL loc hint zone z xs)) ∧ Below w.heap.size w w' := by
  obtain ⟨A, c, rfl, _, _, hr⟩ := hv.1.parts
  obtain ⟨W0, hW0⟩ : ∃ W0, W0 = w.alloc (.cells #[.string name, .int .i64 proto, .bool six, .bool loc, .bool hint, .string node, .string zone] 35) := ⟨_, rfl⟩
  have HW0 := Lib.hid hW0
  have hB0 : Below w.heap.size w W0 := by rw [hW0]; exact (Below.refl _ _).alloc (Nat.le_refl _) _
  have hWB : Blk w.heap.size [.string name, .int .i64 proto, .bool six, .bool loc, .bool hint, .string node, .string zone] 35 W0 := by rw [hW0]; exact Blk.new w _ _ _ _ rfl rfl
  have HLD : Hid (∀ W, Below W0.heap.size W0 W → W.cell? ⟨w.heap.size, 3, none⟩ = some (.bool loc) ∧ W.cell? ⟨w.heap.size, 4, none⟩ = some (.bool hint) ∧ W.cell? ⟨w.heap.size, 6, none⟩ = some (.string zone)) := Lib.hid (fun W hW => ⟨(hWB.below hW).cell 3 _ rfl, (hWB.below hW).cell 4 _ rfl, (hWB.below hW).cell 6 _ rfl⟩)
  have HVC : Hid (∀ W, Below W0.heap.size W0 W → Cands W (.slice A xs.length c) xs z) := Lib.hid (fun W hW => (hv.below hB0).below hW)
  have HBB : Hid (∀ W, Below W0.heap.size W0 W → Below w.heap.size w W) := Lib.hid (fun W hW => hB0.trans (hW.mono hB0.size))
  obtain ⟨c3, c4, c6⟩ := HLD.out _ (Below.refl _ _)
  rw [hW0] at c3 c4 c6
  unfold chooseL
  cases loc
  · have KF : Hid (∀ W, Below W0.heap.size W0 W → Calls Try.prog 32 #[.slice A xs.length c, .string zone] W fun e w' => (∃ v', e = .returned v' ∧ Row eCd w' v' (filterL zone z xs)) ∧ Below W.heap.size W w') := Lib.hid (fun W hW => rfilter_calls _ zone xs z W ((hv.below hB0).below hW) hl)
    have KU : Hid (∀ W, Below W0.heap.size W0 W → Calls Try.prog 14 #[.slice A xs.length c] W fun e w' => (∃ v', e = .returned v' ∧ Row eCd w' v' (usableL xs)) ∧ Below W.heap.size W w') := Lib.hid (fun W hW => rusable_calls _ xs W ((hv.below hB0).below hW).1 hl)
    have hfl : (filterL zone z xs).length ≤ 9223372036854775807 := by
      rw [filterL_eq]
      have := List.length_filter_le (fun x => x.rdy && (!countB zone z xs || memS zone (z x))) xs
      omega
    rw [filter_any zone z xs]
    generalize filterL zone z xs = fs at KF hfl ⊢
    generalize usableL xs = us at KU ⊢
    clear hv hr hl hB0 hWB hW0
    by_cases hf : (0 : Int) < (fs.length : Int)
    all_goals
      first | rw [decide_eq_true hf] | rw [decide_eq_false hf]
      cases hint
      all_goals
        go_enter Try.func16, Try.ntmps16
        go_wp2_with (first
          | (go_at_call 32; ((with_reducible refine (KF.out _ (by rw [← HW0.out]; exact Below.refl _ _)).mono ?_); rintro e w1 ⟨⟨v1, rfl, hr1⟩, hb1⟩; obtain ⟨A1, k1, rfl, _, _, hr1⟩ := hr1.parts; have HR1 := Lib.hid hr1; have HB1 : Hid (Below W0.heap.size W0 w1) := Lib.hid (by rw [HW0.out]; exact hb1); obtain ⟨d3, d4, d6⟩ := HLD.out _ HB1.out; clear hr1 hb1))
          | (go_at_call 14; ((with_reducible refine (KU.out _ HB1.out).mono ?_); rintro e w2 ⟨⟨v2, rfl, hr2⟩, hb2⟩; have HR2 := Lib.hid hr2; have HB2 := Lib.hid (HB1.out.trans (hb2.mono HB1.out.size)); clear hr2 hb2)))
        go_ret
        first | exact ⟨⟨_, rfl, HR2.out⟩, HBB.out _ HB2.out⟩ | exact ⟨⟨_, rfl, HR1.out⟩, HBB.out _ HB1.out⟩
  · obtain ⟨p, hp⟩ : ∃ p : Cd → Bool, p = fun x => x.loc := ⟨_, rfl⟩
    have HP : Hid (∀ x : Cd, p x = x.loc) := Lib.hid (fun x => by rw [hp])
    rw [← hp]
    have HLN := Lib.hid (fun k => take_filter_len xs p k hl)
    have HV : Hid (∀ W, Below W0.heap.size W0 W → Row eCd W (.slice A xs.length c) xs) := Lib.hid (fun W hW => (HVC.out W hW).1)
    have HBX := Lib.hid (fun (W : World) (x : Cd) => HBXr (P := Try.prog) W x)
    have hl2 : xs.length ≤ 9223372036854775807 := by omega
    have KU : Hid (∀ v' W, Row eCd W v' (xs.filter p) → Calls Try.prog 14 #[v'] W fun e w' => (∃ v2, e = .returned v2 ∧ Row eCd w' v2 (usableL (xs.filter p))) ∧ Below W.heap.size W w') := Lib.hid (fun v' W h => rusable_calls v' _ W h (Nat.le_trans (List.length_filter_le _ _) hl))
    have HS0 : Hid (Own eCd 66 W0.heap.size (W0.alloc (.cells #[] 66)) (.slice (some ⟨w.heap.size + 1, 0, none⟩) 0 0) []) := Lib.hid (Own.lit' W0 (w.heap.size + 1) (by rw [hW0]; simp) W0.heap.size eCd 66 [] 0 rfl _ rfl (Nat.le_refl _) (by simp))
    clear hv hr hl hB0 hWB hp hW0
    go_enter Try.func16, Try.ntmps16
    go_wp2
    go_loopw [5, 14] (fun ov iv wr => ∃ k : Nat, k ≤ xs.length ∧ iv = .int .i64 (k : Int) ∧ Hid (Own eCd 66 W0.heap.size wr ov ((xs.take k).filter p)) ∧ Hid (Below W0.heap.size W0 wr)) (fun _ iv _ => xs.length - (intOf iv).toNat)
    case atStart => exact ⟨0, Nat.zero_le _, rfl, Lib.hid (by rw [← HW0.out]; exact HS0.out), Lib.hid (by rw [← HW0.out]; exact (Below.refl _ _).alloc (Nat.le_refl _) _)⟩
    case round =>
      obtain ⟨k, hk, rfl, HO, HW⟩ := hrel
      by_cases hlt : k < xs.length
      · have HF0 := trivial
        obtain ⟨ad, rfl, _⟩ := (HV.out _ HW.out).at hlt
        have hld : (loadCells (ad.add (k * 23)) 23).run Try.prog wr = .ok (xs[k].cells).toArray wr := row_load (HV.out _ HW.out) k hlt
        have HF := Lib.hid (filter_step xs p k hlt)
        generalize xs[k] = x at hld HF
        have HPX := Lib.hid (HP.out x)
        obtain ⟨w2, s2, k2, b2⟩ := HBX.out wr x
        obtain ⟨l2, c18, _, _, _⟩ := cd_box k2
        have HB2 := Lib.hid (HW.out.trans (b2.mono HW.out.size))
        have HO2 := Lib.hid (HO.out.below b2)
        have hsl : (x.cells.toArray).toList = x.cells := rfl
        have hsz : (x.cells.toArray).size = 23 := Cd.len x
        clear k2 b2
        generalize x.loc = q0 at c18 HPX
        cases q0
        · have HE : Hid ((xs.take (k + 1)).filter p = (xs.take k).filter p) := Lib.hid (by rw [HF.out, HPX.out]; simp)
          have HO4 : Hid (Own eCd 66 W0.heap.size w2 u5 ((xs.take (k + 1)).filter p)) := Lib.hid (by rw [HE.out]; exact HO2.out)
          go_wp2
          go_roundw
          case rel => exact ⟨k + 1, by omega, by go_num, HO4, HB2⟩
          case measure => simp [intOf]; omega
        · have HE : Hid ((xs.take (k + 1)).filter p = (xs.take k).filter p ++ [x]) := Lib.hid (by rw [HF.out, HPX.out]; simp)
          go_wp2_with (at_builtin; refine wp_append (E := eCd) W0.heap.size rfl (.tmp 20) (.tmp 22) 28 66 _ 64 rfl Try.underlying28 infoRc rfl (by decide) _ _ ((xs.take k).filter p) [x] rfl rfl (HO2.out.alloc _) (Own.lit w2 0 eCd 66 [x] 1 rfl _ (fold_cd x) (Nat.zero_le _) (by simp)).row (by have := HB2.out.size; simp; omega) (by have := HLN.out k; simp; omega) ?_; intro v4 w4 ho4 hg4 hat4; have HO4 : Hid (Own eCd 66 W0.heap.size w4 v4 ((xs.take (k + 1)).filter p)) := Lib.hid (by rw [HE.out]; exact ho4); have HB4 := Lib.hid (below_app (HB2.out.alloc HB2.out.size _) (size_alloc_le HB2.out _) (HO2.out.alloc _) hg4); clear ho4 hg4 hat4)
          go_roundw
          case rel => exact ⟨k + 1, by omega, by go_num, HO4, HB4⟩
          case measure => simp [intOf]; omega
      · have HE : Hid (Own eCd 66 W0.heap.size wr u5 (xs.filter p)) := Lib.hid (by have := HO.out; rw [List.take_of_length_le (by omega)] at this; exact this)
        go_wp2_with (go_at_call 14; ((with_reducible refine (KU.out _ _ HE.out.row).mono ?_); rintro e w5 ⟨⟨v5, rfl, hr5⟩, hb5⟩; have HR5 := Lib.hid hr5; have HB5 := Lib.hid (HW.out.trans (hb5.mono HW.out.size)); clear hr5 hb5))
        go_ret
        exact ⟨⟨_, rfl, HR5.out⟩, HBB.out _ HB5.out⟩
end Go.Proofs.Ytcfgffkjbkpfhaa.Cand
