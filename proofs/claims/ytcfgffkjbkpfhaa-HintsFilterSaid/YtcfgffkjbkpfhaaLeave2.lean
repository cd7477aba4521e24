/- The law HintsLeave. -/
import Derived.Test.YtcfgffkjbkpfhaaLeave
namespace Go.Proofs.Ytcfgffkjbkpfhaa.Cand
open Go.RowKit Go.Proofs.Ytcfgffkjbkpfhaa.SortS Go.Proofs.Ytcfgffkjbkpfhaa.Mem Go.Proofs.Ytcfgffkjbkpfhaa.Num Go.Proofs.Ytcfgffkjbkpfhaa.Key
open Go.Proofs.Ytcfgffkjbkpfhaa.Addr hiding below_allocd
set_option linter.unusedVariables false
set_option linter.unusedSimpArgs false
set_option maxRecDepth 100000
attribute [-go_sem] Builtin.append_ loadCells loadCellsFrom storeCells run_eql_struct
theorem filterL_len (s : ByteArray) (z : Cd → List ByteArray) (xs : List Cd) : (filterL s z xs).length ≤ (rdyL xs).length := by
  unfold filterL
  split
  · exact List.length_filter_le _ _
  · exact Nat.le_refl _
theorem filterL_pos (s : ByteArray) (z : Cd → List ByteArray) (xs : List Cd) (h : 0 < (rdyL xs).length) : 0 < (filterL s z xs).length := List.length_pos_iff.2 (filterL_some (List.length_pos_iff.1 h))
theorem memS_of {s : ByteArray} {l : List ByteArray} (h : memS s l = true) : s ∈ l := by
  unfold memS at h
  rw [List.any_eq_true] at h
  obtain ⟨y, hy, he⟩ := h
  have e := eq_of_beq he
  rw [ByteArray.toList_eq, ByteArray.toList_eq] at e
  have e2 : s = y := by
    obtain ⟨⟨a⟩⟩ := s
    obtain ⟨⟨b⟩⟩ := y
    simp at e
    rw [e]
  rw [e2]
  exact hy
/-- A zone that nobody is meant for filters nobody out. -/
theorem filterL_all {s : ByteArray} {z : Cd → List ByteArray} {xs : List Cd} (h : s ∉ zonesL z xs) : filterL s z xs = rdyL xs := by
  unfold filterL
  rw [if_neg]
  intro hc
  unfold countB at hc
  simp only [Bool.and_eq_true, List.any_eq_true] at hc
  obtain ⟨_, _, x, hx, hm⟩ := hc
  exact h ((mem_zones _ _).2 (List.mem_flatMap.2 ⟨x, hx, memS_of hm⟩))
theorem rdy_take (xs : List Cd) (k : Nat) (hk : k < xs.length) : (rdyL (xs.take (k + 1))).length = (rdyL (xs.take k)).length + if xs[k].rdy then 1 else 0 := by
  unfold rdyL
  rw [List.take_succ_eq_append_getElem hk, List.filter_append, List.length_append, List.filter_cons, List.filter_nil]
  cases xs[k].rdy <;> rfl
theorem long_zones {xs : List Cd} {z : Cd → List ByteArray} (h : candLong xs z = false) : xs.length ≤ 60 ∧ ∀ x ∈ xs, (z x).length ≤ 400 := by
  unfold candLong at h
  rw [Bool.or_eq_false_iff] at h
  refine ⟨by simpa using h.1, fun x hx => ?_⟩
  have h2 := h.2
  rw [List.any_eq_false] at h2
  have h3 := longN_no (z x) 0 (Bool.eq_false_iff.2 (h2 x hx))
  have := h3.2 (by omega)
  omega
set_option maxHeartbeats 4000000 in
theorem leave_calls (v : Value) (zone : ByteArray) (xs : List Cd) (z : Cd → List ByteArray) (w : World) (hv : Cands w v xs z) (hz : ∀ x ∈ xs, ∀ s ∈ z x, s.size ≤ maxLen) (hzn : zone.size ≤ maxLen) :
    Calls Try.prog 6 #[v, .string zone] w fun e w' => e = .returned (.bool true) ∧ Below w.heap.size w w' := by
  obtain ⟨A, c, rfl, hc, hm, hr⟩ := hv.1.parts
  have HV : Hid (∀ W, Below w.heap.size w W → Cands W (.slice A xs.length c) xs z) := Lib.hid (fun W hW => hv.below hW)
  have HBX := Lib.hid (fun (W : World) (x : Cd) => box_cd (P := Try.prog) W x 44 #[.bool false, .int .u8 0, .int .u8 0, .int .u8 0, .int .u8 0, .int .u8 0, .int .u8 0, .int .u8 0, .int .u8 0, .int .u8 0, .int .u8 0, .int .u8 0, .int .u8 0, .int .u8 0, .int .u8 0, .int .u8 0, .int .u8 0, .int .i64 0, .bool false, .bool false, .bool false, .bool false, .slice none 0 0] rfl)
  have KA : Hid (Calls Try.prog 24 #[] w fun e w' => e = .returned (.bool true) ∧ Below w.heap.size w w') := Lib.hid (alive18_calls w)
  have KG : Hid (∀ W, Below w.heap.size w W → Calls Try.prog 9 #[.slice A xs.length c] W fun e w' => e = .returned (.bool (candLong xs z)) ∧ Below W.heap.size W w') := Lib.hid (fun W hW => candlong_calls _ xs z W (hv.below hW) hz)
  have hzs : zone.size ≤ 9223372036854775807 := by unfold maxLen at hzn; omega
  by_cases hL : candLong xs z = true
  · rw [hL] at KG
    clear hv hr hz hL
    go_enter Try.func6, Try.ntmps6
    go_wp2_with (first
      | (go_at_call 24; ((with_reducible refine KA.out.mono ?_); rintro e w1 ⟨rfl, hb1⟩; have HB1 := Lib.hid hb1; clear hb1))
      | (go_at_call 9; ((with_reducible refine (KG.out _ HB1.out).mono ?_); rintro e w2 ⟨rfl, hb2⟩; have HB2 := Lib.hid (HB1.out.trans (hb2.mono HB1.out.size)); clear hb2)))
    go_ret
    exact ⟨rfl, HB2.out⟩
  · have hL2 : candLong xs z = false := Bool.eq_false_iff.2 hL
    rw [hL2] at KG
    by_cases hZ : (100 : Int) < (zone.size : Int)
    · clear hv hr hz hL hL2
      go_enter Try.func6, Try.ntmps6
      go_wp2_with (first
        | (go_at_call 24; ((with_reducible refine KA.out.mono ?_); rintro e w1 ⟨rfl, hb1⟩; have HB1 := Lib.hid hb1; clear hb1))
        | (go_at_call 9; ((with_reducible refine (KG.out _ HB1.out).mono ?_); rintro e w2 ⟨rfl, hb2⟩; have HB2 := Lib.hid (HB1.out.trans (hb2.mono HB1.out.size)); clear hb2)))
      go_ret
      exact ⟨rfl, HB2.out⟩
    · obtain ⟨hx60, hz400⟩ := long_zones hL2
      obtain ⟨fs, hfs⟩ : ∃ fs, fs = filterL zone z xs := ⟨_, rfl⟩
      obtain ⟨zl, hzl⟩ : ∃ zl, zl = zonesL z xs := ⟨_, rfl⟩
      obtain ⟨M, hM⟩ : ∃ M, M = (rdyL xs).length := ⟨_, rfl⟩
      have KF : Hid (∀ W, Below w.heap.size w W → Calls Try.prog 25 #[.slice A xs.length c, .string zone] W fun e w' => (∃ v2, e = .returned v2 ∧ Row eCd w' v2 fs) ∧ Below W.heap.size W w') := Lib.hid (fun W hW => by rw [hfs]; exact filter_calls _ zone xs z W (hv.below hW) (by omega))
      have KZ : Hid (∀ W, Below w.heap.size w W → Calls Try.prog 26 #[.slice A xs.length c] W fun e w' => (∃ v2, e = .returned v2 ∧ Row eStr w' v2 zl) ∧ Below W.heap.size W w') := Lib.hid (fun W hW => by rw [hzl]; exact zones_calls _ xs z W (hv.below hW) hx60 hz400)
      have HFR : Hid (∀ y ∈ fs, y.rdy = true) := Lib.hid (fun y hy => (filterL_mem (hfs ▸ hy)).2)
      have HF1 : Hid (fs.length ≤ M) := Lib.hid (by rw [hfs, hM]; exact filterL_len _ _ _)
      have HF2 : Hid (0 < M → 0 < fs.length) := Lib.hid (by rw [hfs, hM]; exact filterL_pos _ _ _)
      have HF3 : Hid (zone ∉ zl → fs.length = M) := Lib.hid (by rw [hfs, hzl, hM]; intro h; rw [filterL_all h])
      have HM : Hid (M = (rdyL (xs.take xs.length)).length) := Lib.hid (by rw [hM, List.take_length])
      have HMT : Hid (∀ k, (rdyL (xs.take k)).length ≤ 60) := Lib.hid (fun k => Nat.le_trans (List.length_filter_le _ _) (Nat.le_trans (List.length_take_le' _ _) hx60))
      have HM60 : Hid (M ≤ 60) := Lib.hid (by rw [hM]; exact Nat.le_trans (List.length_filter_le _ _) hx60)
      clear hv hr hz hL hL2 hfs hzl hM hz400 KA
      have KA : Hid (Calls Try.prog 24 #[] w fun e w' => e = .returned (.bool true) ∧ Below w.heap.size w w') := Lib.hid (alive18_calls w)
      go_enter Try.func6, Try.ntmps6
      go_wp2_with (first
        | (go_at_call 24; ((with_reducible refine KA.out.mono ?_); rintro e w1 ⟨rfl, hb1⟩; have HB1 := Lib.hid hb1; clear hb1))
        | (go_at_call 9; ((with_reducible refine (KG.out _ HB1.out).mono ?_); rintro e w2 ⟨rfl, hb2⟩; have HB2 := Lib.hid (HB1.out.trans (hb2.mono HB1.out.size)); clear hb2)))
      go_loopw [5, 25] (fun nv iv wr => ∃ k m : Nat, k ≤ xs.length ∧ iv = .int .i64 (k : Int) ∧ nv = .int .i64 (m : Int) ∧ m ≤ 60 ∧ Hid (m = (rdyL (xs.take k)).length) ∧ Hid (Below w.heap.size w wr)) (fun _ iv _ => xs.length - (intOf iv).toNat)
      case atStart => exact ⟨0, 0, Nat.zero_le _, rfl, rfl, by omega, Lib.hid rfl, HB2⟩
      case round =>
        obtain ⟨k, m, hk, rfl, rfl, hm60, HK, HW⟩ := hrel
        by_cases hlt : k < xs.length
        · obtain ⟨ad, rfl, _⟩ := (HV.out _ HW.out).1.at hlt
          have hld : (loadCells (ad.add (k * 23)) 23).run Try.prog wr = .ok (xs[k].cells).toArray wr := row_load (HV.out _ HW.out).1 k hlt
          have HT := Lib.hid (rdy_take xs k hlt)
          have HMK := Lib.hid (HMT.out (k + 1))
          generalize xs[k] = x at hld HT
          obtain ⟨w3, s3, k3, b3⟩ := HBX.out wr x
          have c19 : w3.cell? ⟨wr.heap.size, 19, none⟩ = some (.bool x.rdy) := k3.cell 19 _ x.at.2.1
          have HB3 := Lib.hid (HW.out.trans (b3.mono HW.out.size))
          have hsl : (x.cells.toArray).toList = x.cells := rfl
          have hsz : (x.cells.toArray).size = 23 := Cd.len x
          clear k3 b3
          generalize x.rdy = q0 at c19 HT
          cases q0
          · have HN : Hid (m = (rdyL (xs.take (k + 1))).length) := Lib.hid (by rw [HT.out, ← HK.out]; rfl)
            go_wp2
            go_roundw
            case rel => exact ⟨k + 1, m, by omega, by go_num, rfl, hm60, HN, HB3⟩
            case measure => simp [intOf]; omega
          · have HN : Hid (m + 1 = (rdyL (xs.take (k + 1))).length) := Lib.hid (by rw [HT.out, ← HK.out]; rfl)
            have hm61 : m + 1 ≤ 60 := by have := HN.out; have := HMK.out; omega
            go_wp2
            go_roundw
            case rel => exact ⟨k + 1, m + 1, by omega, by go_num, by go_num, hm61, HN, HB3⟩
            case measure => simp [intOf]; omega
        · obtain rfl : m = M := by have h1 := HK.out; have h2 := HM.out; rw [show k = xs.length by omega] at h1; omega
          go_wp2_with (go_at_call 25; ((with_reducible refine (KF.out _ HW.out).mono ?_); rintro e w5 ⟨⟨v5, rfl, hr5⟩, hb5⟩; obtain ⟨A5, c5, rfl, _, _, hr5⟩ := hr5.parts; have HR5 : Hid (∀ W, Below w5.heap.size w5 W → Row eCd W (.slice A5 fs.length c5) fs) := Lib.hid (fun W hW => hr5.below hW); have HB5 := Lib.hid (HW.out.trans (hb5.mono HW.out.size)); clear hr5 hb5))
          have hfl : fs.length ≤ 9223372036854775807 := by have := HF1.out; omega
          go_loopw [39] (fun iv wr => ∃ k : Nat, k ≤ fs.length ∧ iv = .int .i64 (k : Int) ∧ Hid (Below w5.heap.size w5 wr)) (fun iv _ => fs.length - (intOf iv).toNat)
          case atStart => exact ⟨0, Nat.zero_le _, rfl, Lib.hid (Below.refl _ _)⟩
          case round =>
            obtain ⟨j, hj, rfl, HW6⟩ := hrel
            by_cases hlj : j < fs.length
            · obtain ⟨ad5, rfl, _⟩ := (HR5.out _ HW6.out).at hlj
              have hld : (loadCells (ad5.add (j * 23)) 23).run Try.prog wr = .ok (fs[j].cells).toArray wr := row_load (HR5.out _ HW6.out) j hlj
              have HY := Lib.hid (HFR.out fs[j] (List.getElem_mem hlj))
              generalize fs[j] = y at hld HY
              obtain ⟨w6, s6, k6, b6⟩ := HBX.out wr y
              have c19 : w6.cell? ⟨wr.heap.size, 19, none⟩ = some (.bool true) := by rw [k6.cell 19 _ y.at.2.1, HY.out]
              have HB6 := Lib.hid (HW6.out.trans (b6.mono HW6.out.size))
              have hsl : (y.cells.toArray).toList = y.cells := rfl
              have hsz : (y.cells.toArray).size = 23 := Cd.len y
              clear k6 b6
              go_wp2
              go_roundw
              case rel => exact ⟨j + 1, by omega, by go_num, HB6⟩
              case measure => simp [intOf]; omega
            · have HB6 := Lib.hid (HB5.out.trans (HW6.out.mono HB5.out.size))
              go_wp2_with (go_at_call 26; ((with_reducible refine (KZ.out _ HB6.out).mono ?_); rintro e w7 ⟨⟨v7, rfl, hr7⟩, hb7⟩; obtain ⟨A7, c7, rfl, hk7, hm7, hr7⟩ := hr7.parts; have HR7 := Lib.hid hr7; have HB7 := Lib.hid (HB6.out.trans (hb7.mono HB6.out.size)); clear hr7 hb7))
              have hzl : zl.length ≤ 9223372036854775807 := by omega
              go_loopw [11, 50] (fun fv iv wr => ∃ (t : Nat) (f : Bool), t ≤ zl.length ∧ iv = .int .i64 (t : Int) ∧ fv = .bool f ∧ Hid (f = true ∨ zone ∉ zl.take t) ∧ wr = w7) (fun _ iv _ => zl.length - (intOf iv).toNat)
              case atStart => exact ⟨0, false, Nat.zero_le _, rfl, rfl, Lib.hid (.inr (by simp)), rfl⟩
              case round =>
                obtain ⟨t, f, ht, rfl, rfl, HF, rfl⟩ := hrel
                by_cases hlq : t < zl.length
                · obtain ⟨ad7, rfl, hcell⟩ := HR7.out.at1 hlq
                  have HD : Hid (∀ y, zl.take (t + 1) = zl.take t ++ [y] → y ≠ zone → f = true ∨ zone ∉ zl.take (t + 1)) := Lib.hid (fun y hy hne => by
                    rcases HF.out with h | h
                    · exact .inl h
                    · right
                      rw [hy, List.mem_append]
                      rintro (h1 | h1)
                      · exact h h1
                      · exact hne (List.mem_singleton.1 h1).symm)
                  have HTK : Hid (zl.take (t + 1) = zl.take t ++ [zl[t]]) := Lib.hid (List.take_succ_eq_append_getElem hlq)
                  generalize zl[t] = y at hcell HTK
                  have he3 : (y.toList == zone.toList) = (zone.toList == y.toList) := Bool.beq_comm
                  have he : (y == zone) = (zone.toList == y.toList) := by rw [beq_toListBytes y zone, he3]
                  have HNE : Hid ((zone.toList == y.toList) = false → y ≠ zone) := Lib.hid (by rintro h rfl; simp at h)
                  generalize hq : (zone.toList == y.toList) = q at HNE he he3
                  cases q
                  · have HFN := Lib.hid (HD.out y HTK.out (HNE.out rfl))
                    clear hq
                    cases f
                    all_goals
                      go_wp2
                      go_roundw
                      case rel => exact ⟨t + 1, _, by omega, by go_num, rfl, HFN, by trivial⟩
                      case measure => simp [intOf]; omega
                  · have HFN : Hid (true = true ∨ zone ∉ zl.take (t + 1)) := Lib.hid (.inl rfl)
                    clear hq
                    cases f
                    all_goals
                      go_wp2
                      go_roundw
                      case rel => exact ⟨t + 1, _, by omega, by go_num, rfl, HFN, by trivial⟩
                      case measure => simp [intOf]; omega
                · have HE : Hid (f = true ∨ fs.length = m) := Lib.hid (by
                    rcases HF.out with h | h
                    · exact .inl h
                    · rw [List.take_of_length_le (by omega)] at h
                      exact .inr (HF3.out h))
                  have h1 : (fs.length : Int) ≤ (m : Int) := by have := HF1.out; omega
                  by_cases hm0 : (0 : Int) < (m : Int)
                  · have hf0 : (0 : Int) < (fs.length : Int) := by have := HF2.out (by omega); omega
                    cases f
                    · have he : (fs.length : Int) = (m : Int) := by rcases HE.out with h | h; cases h; omega
                      go_wp2
                      go_ret
                      exact ⟨by simp; try omega, HB7.out⟩
                    · go_wp2
                      go_ret
                      exact ⟨by simp; try omega, HB7.out⟩
                  · have hf0 : ¬ (0 : Int) < (fs.length : Int) := by omega
                    have he : (fs.length : Int) = (m : Int) := by omega
                    cases f
                    all_goals
                      go_wp2
                      go_ret
                      exact ⟨by simp; try omega, HB7.out⟩
theorem leave_row (W : World) (v : Value) (hv : IsCands W v) (zone : ByteArray) (hz : zone.size ≤ 140737488351232) :
    Calls Try.prog 6 #[v, .string zone] W fun e W' => e = .returned (.bool true) ∧ Below W.heap.size W W' := by
  obtain ⟨xs, z, hc, hzs⟩ := hv
  exact leave_calls v zone xs z W hc hzs (by unfold maxLen; omega)
end Go.Proofs.Ytcfgffkjbkpfhaa.Cand
