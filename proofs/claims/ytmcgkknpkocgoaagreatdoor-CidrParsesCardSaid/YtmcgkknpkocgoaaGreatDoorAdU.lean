/- The document's split, figure and number. -/
import Derived.Test.YtmcgkknpkocgoaaGreatDoorAdT
namespace Go.Proofs.YtmcgkknpkocgoaaGreatDoor.Ad
open Go.RowKit Go.Proofs.YtmcgkknpkocgoaaGreatDoor.Mem Go.Proofs.YtmcgkknpkocgoaaGreatDoor.Num Go.Proofs.YtmcgkknpkocgoaaGreatDoor.Err Go.Proofs.YtmcgkknpkocgoaaGreatDoor.AdP
open Go.Proofs.YtmcgkknpkocgoaaGreatDoor.Head (pad pad_len adCells_one adCells_len infoAd splice_ad)
open Go.Proofs.YtmcgkknpkocgoaaGreatDoor.Addr (adV adA adCells adA_size cell_box load_box cell_six)
set_option linter.unusedVariables false
set_option linter.unusedSimpArgs false
set_option maxRecDepth 100000
attribute [-go_sem] Builtin.append_
theorem own_set {base g n cap : Nat} {w : World} {xs : List ByteArray} (h : Own eStr 9 base w (.slice (some ⟨g, 0, none⟩) n cap) xs) (m : Nat) (hm : m < xs.length) (y : ByteArray) :
    Own eStr 9 base (w.setCell ⟨g, m, none⟩ (.string y)) (.slice (some ⟨g, 0, none⟩) n cap) (xs.set m y) ∧ w.cell? ⟨g, m, none⟩ = some (.string xs[m]) ∧ w.frozen? ⟨g, m, none⟩ = false := by
  have hlen := h.row.len
  obtain ⟨h1, h2⟩ := h
  rcases h2 with ⟨h2, _⟩ | ⟨g', cap', cur, he, hg, hh, hn, hmx, hs, ht⟩
  · cases h2
  · cases he
    have hb : Blk g cur.toList 9 w := by unfold Blk; rw [hh]
    have hb1 := blk_set1 hb m (.string y)
    have hsz : eStr.sz = 1 := rfl
    have hall : eStr.all xs = xs.map Value.string := allStr xs
    rw [hsz, Nat.mul_one] at hs ht
    rw [hall] at ht
    have hcl : m < cur.toList.length := by rw [Array.length_toList]; omega
    have hget : cur.toList[m]? = some (.string xs[m]) := by
      have : (cur.toList.take xs.length)[m]? = (xs.map Value.string)[m]? := by rw [ht]
      rw [List.getElem?_take, if_pos hm, List.getElem?_map, List.getElem?_eq_getElem hm] at this
      exact this
    refine ⟨⟨by simp [Enc.all_len], .inr ⟨g, cap, (cur.toList.set m (.string y)).toArray, by rw [List.length_set, hlen], hg, hb1, by rw [List.length_set]; exact hn, hmx, by simp [hs, hsz], ?_⟩⟩, hb.cell m _ hget, hb.free m⟩
    rw [hsz, Nat.mul_one, List.length_set, show ∀ l : List Value, l.toArray.toList = l from fun _ => rfl, List.take_set, ht, allStr, List.map_set]
theorem grow_init (xs : List (List UInt8)) (x : List UInt8) (b : UInt8) : grow (xs ++ [x]) b = xs ++ [x ++ [b]] := by
  induction xs with
  | nil => rfl
  | cons y ys ih => rw [List.cons_append, grow_cons _ _ _ (by simp), ih]; rfl
theorem grow_last (L : List (List UInt8)) (m : Nat) (h : L.length = m + 1) (b : UInt8) : grow L b = L.set m (L[m] ++ [b]) := by
  have e : L = L.take m ++ [L[m]] := by
    conv => lhs; rw [← List.take_append_drop m L]
    rw [List.drop_eq_getElem_cons (by omega), List.drop_of_length_le (by omega)]
  have hm : (L.take m).length = m := by rw [List.length_take]; omega
  generalize hx : L[m] = x at *
  generalize L.take m = I at *
  subst e
  rw [grow_init, List.set_append_right _ _ (by omega)]
  simp [hm]
theorem cat_data (x : ByteArray) (b : UInt8) : (x ++ str [b]).data.toList = x.data.toList ++ [b] := by
  rw [ByteArray.data_append]; simp
theorem extract1 (s : ByteArray) (i : Nat) (h : i < s.size) : s.extract i (i + 1) = str [s[i]] := by
  apply ByteArray.ext
  have h1 : (s.extract i (i + 1)).data.toList = [s[i]] := by
    rw [Lib.extract_data]
    have hi : i < s.data.toList.length := by rw [Array.length_toList]; exact h
    have e : (s.data.toList.drop i).take 1 = [s.data.toList[i]] := by rw [List.drop_eq_getElem_cons hi]; rfl
    first
      | exact e
      | (rw [show i + 1 - i = 1 by omega]; exact e)
      | (rw [List.take_succ_eq_append_getElem hi, List.drop_append_of_le_length (by simp; omega), List.drop_of_length_le (by simp)]; rfl)
  rw [← Array.toList_inj, h1]
theorem own_form {e : TypeId} {base : Nat} {w : World} {v : Value} {xs : List ByteArray} (h : Own eStr e base w v xs) (h0 : 0 < xs.length) : ∃ g cap, v = .slice (some ⟨g, 0, none⟩) xs.length cap ∧ xs.length ≤ cap ∧ cap ≤ 9223372036854775807 := by
  obtain ⟨h1, h2⟩ := h
  rcases h2 with ⟨_, h2⟩ | ⟨g, cap, cur, he, hg, hh, hn, hm, hs, ht⟩
  · omega
  · exact ⟨g, cap, he, hn, by unfold maxLen at hm; omega⟩
/-- .. at whatever capacity. -/
def RetSplit2 (w' : World) (ls : List (List UInt8)) (e : Ending) : Prop := ∃ g c xs, e = .returned (.slice (some ⟨g, 0, none⟩) xs.length c) ∧ xs.map (·.data.toList) = ls ∧ Texts w' g xs ∧ xs.length ≤ c ∧ c ≤ 9223372036854775807
set_option maxHeartbeats 2000000 in
theorem rsplit_calls (s : ByteArray) (c : UInt8) (w : World) (hs : s.size ≤ 1000) :
    Calls Tryz.prog 91 #[.string s, .int .u8 (c.toNat : Int)] w fun e w' => RetSplit2 w' (parts c s.data.toList) e ∧ Below w.heap.size w w' := by
  have hsl : s.data.toList.length = s.size := Array.length_toList
  have hsi : (s.size : Int) ≤ 1000 := by omega
  have HS := Lib.hid hs
  have HSL := Lib.hid hsl
  have HPS := Lib.hid (fun b l => parts_snoc c b l)
  have HPC := Lib.hid (fun l => parts_count c l)
  have HPL := Lib.hid (fun l => parts_len c l)
  clear hs hsl
  go_enter Tryz.func91, Tryz.ntmps91
  go_wp2
  have ho0 : Own eStr 9 w.heap.size (w.alloc (.cells #[.string ByteArray.empty] 9)) (.slice (some ⟨w.heap.size, 0, none⟩) 1 1) [ByteArray.empty] := Own.lit w _ eStr 9 [ByteArray.empty] 1 rfl _ rfl (Nat.le_refl _) (by simp)
  have hb0 : Below w.heap.size w (w.alloc (.cells #[.string ByteArray.empty] 9)) := (Below.refl _ _).alloc (Nat.le_refl _) _
  go_loopw [5, 6] (fun v iv wr => ∃ (i g m cap : Nat) (xs : List ByteArray), iv = .int .i64 (i : Int) ∧ v = .slice (some ⟨g, 0, none⟩) (m + 1) cap ∧ i ≤ s.size ∧ Hid (xs.length = m + 1 ∧ m + 1 ≤ cap ∧ cap ≤ 9223372036854775807) ∧ Hid (Own eStr 9 w.heap.size wr (.slice (some ⟨g, 0, none⟩) (m + 1) cap) xs) ∧ Hid (xs.map (·.data.toList) = parts c (s.data.toList.take i)) ∧ Hid (Below w.heap.size w wr)) (fun _ iv _ => s.size - (intOf iv).toNat)
  case atStart => exact ⟨0, w.heap.size, 0, 1, [ByteArray.empty], rfl, rfl, Nat.zero_le _, Lib.hid ⟨rfl, by omega, by omega⟩, Lib.hid ho0, Lib.hid rfl, Lib.hid hb0⟩
  case round =>
    obtain ⟨i, g, m, cap, xs, rfl, rfl, hi, HL, HO, HX, HB⟩ := hrel
    by_cases hlt : i < s.size
    · have hil : i < s.data.toList.length := by rw [HSL.out]; exact hlt
      have htk : s.data.toList.take (i + 1) = s.data.toList.take i ++ [s[i]] := List.take_succ_eq_append_getElem hil
      have hps := HPS.out s[i] (s.data.toList.take i)
      rw [← htk] at hps
      have hm1 : m + 1 ≤ 1002 := by
        have h1 := congrArg List.length HX.out
        have h2 := HPC.out (s.data.toList.take i)
        have h3 : (s.data.toList.take i).length ≤ 1000 := by rw [List.length_take]; have := HS.out; have := HSL.out; omega
        rw [List.length_map] at h1
        have := HL.out.1
        omega
      have hex := extract1 s i hlt
      have hmi : (m : Int) ≤ 1002 := by omega
      have hii : (i : Int) < (s.size : Int) := by omega
      by_cases hc : s[i] = c
      · have HP1 := Lib.hid (show (xs ++ [ByteArray.empty]).map (·.data.toList) = parts c (s.data.toList.take (i + 1)) by rw [hps, if_pos hc, List.map_append, HX.out]; rfl)
        have heq : ((s[i].toNat : Int) == (c.toNat : Int)) = true := by rw [hc]; exact beq_self_eq_true _
        have HM1 := Lib.hid hm1
        clear hps hex hc htk hm1
        go_wp2_with (at_builtin; refine wp_append (E := eStr) w.heap.size rfl (.tmp 19) (.tmp 20) 96 9 _ 16 rfl Tryz.underlying96 infoStr rfl (by decide) _ _ xs [ByteArray.empty] rfl rfl (HO.out.alloc _) (Own.lit wr 0 eStr 9 [ByteArray.empty] 1 rfl _ rfl (Nat.zero_le _) (by simp)).row (size_alloc_le HB.out _) (by have := HL.out.1; have := HM1.out; simp; omega) ?_; intro v1 w4 ho4 hg4 hat4; obtain ⟨g1, c1, rfl, hc1, hc2⟩ := own_form ho4 (by simp); have hl4 : (xs ++ [ByteArray.empty]).length = m + 1 + 1 := (by have := HL.out.1; simp; omega); rw [hl4] at ho4 hc1 ⊢; have HO4 := Lib.hid ho4; have HB4 := Lib.hid (below_app (HB.out.alloc HB.out.size _) (size_alloc_le HB.out _) (HO.out.alloc _) hg4); have HL4 := Lib.hid (show (xs ++ [ByteArray.empty]).length = m + 1 + 1 ∧ m + 1 + 1 ≤ c1 ∧ c1 ≤ 9223372036854775807 from ⟨hl4, hc1, hc2⟩); clear ho4 hl4 hg4 hat4 hc1 hc2)
        go_roundw
        case rel => exact ⟨i + 1, g1, m + 1, c1, _, by go_num, rfl, by omega, HL4, HO4, HP1, HB4⟩
        case measure => simp [intOf]; omega
      · have hml : m < xs.length := by have := HL.out.1; omega
        have hsx : (xs[m]).size ≤ 1000 := by
          have h1 : xs[m].data.toList ∈ parts c (s.data.toList.take i) := by rw [← HX.out]; exact List.mem_map_of_mem (List.getElem_mem _)
          have h2 := HPL.out _ _ h1
          have h3 : xs[m].data.toList.length = xs[m].size := Array.length_toList
          rw [List.length_take] at h2
          have := HS.out; have := HSL.out
          omega
        obtain ⟨o1, o2, o3⟩ := own_set HO.out m hml (xs[m] ++ str [s[i]])
        have hA := add_str xs[m] (str [s[i]]) (by have h1 : (str [s[i]]).size = 1 := sz [s[i]]; omega)
        have hzx : ((xs[m]).size : Int) ≤ 1000 := by omega
        have HP1 := Lib.hid (show (xs.set m (xs[m] ++ str [s[i]])).map (·.data.toList) = parts c (s.data.toList.take (i + 1)) by
          rw [hps, if_neg hc, ← HX.out, grow_last _ m (by rw [List.length_map]; exact HL.out.1), List.map_set, cat_data, List.getElem_map])
        have HO1 := Lib.hid (o1.drewN 1)
        have HL1 := Lib.hid (show (xs.set m (xs[m] ++ str [s[i]])).length = m + 1 ∧ m + 1 ≤ cap ∧ cap ≤ 9223372036854775807 from ⟨by rw [List.length_set]; exact HL.out.1, HL.out.2⟩)
        have HB1 := Lib.hid (below_drewN (HB.out.setCell (p := ⟨g, m, none⟩) (HO.out.block g rfl).1 (.string (xs[m] ++ str [s[i]]))) 1)
        have heq : ((s[i].toNat : Int) == (c.toNat : Int)) = false := beq_eq_false_iff_ne.mpr (fun h => hc (UInt8.toNat_inj.1 (by omega)))
        have hmc : (m : Int) + 1 ≤ (cap : Int) := by have := HL.out.2.1; omega
        clear hps hc htk hm1 hsx o1
        generalize xs.set m (xs[m] ++ str [s[i]]) = xs1 at *
        generalize xs[m] = x at *
        go_wp2
        go_region
        all_goals go_wp2
        go_roundw
        case rel => exact ⟨i + 1, g, m, cap, xs1, by go_num, rfl, by omega, HL1, HO1, HP1, HB1⟩
        case measure => simp [intOf]; omega
    · obtain rfl : i = s.size := by omega
      have HF := Lib.hid (show xs.map (·.data.toList) = parts c s.data.toList by rw [HX.out, ← HSL.out, List.take_length])
      go_wp2
      go_ret
      exact ⟨⟨g, cap, xs, by rw [HL.out.1]; rfl, HF.out, fun j hj => HO.out.row.at0 hj, by rw [HL.out.1]; exact HL.out.2.1, HL.out.2.2⟩, HB.out⟩
theorem figure_calls (c : UInt8) (W : World) : Calls Tryz.prog 139 #[.int .u8 (c.toNat : Int)] W fun e w' => e = .returned (.int .i64 (fig c)) ∧ W = w' := by
  have hc := c.toNat_lt
  unfold fig
  generalize c.toNat = n at *
  have hn : (n : Int) < 256 := by omega
  by_cases h1 : 48 ≤ n ∧ n ≤ 57
  · rw [if_pos h1]
    have g1 : (48 : Int) ≤ (n : Int) := by omega
    have g2 : (n : Int) ≤ 57 := by omega
    clear h1
    go_enter Tryz.func139, Tryz.ntmps139
    go_wp2
    go_ret
    exact ⟨rfl, rfl⟩
  · rw [if_neg h1]
    by_cases h2 : 97 ≤ n ∧ n ≤ 102
    · rw [if_pos h2]
      have g1 : (97 : Int) ≤ (n : Int) := by omega
      have g2 : (n : Int) ≤ 102 := by omega
      clear h1 h2
      go_enter Tryz.func139, Tryz.ntmps139
      go_wp2
      go_ret
      exact ⟨rfl, rfl⟩
    · rw [if_neg h2]
      by_cases h3 : 65 ≤ n ∧ n ≤ 70
      · rw [if_pos h3]
        have g1 : (65 : Int) ≤ (n : Int) := by omega
        have g2 : (n : Int) ≤ 70 := by omega
        clear h1 h2 h3
        go_enter Tryz.func139, Tryz.ntmps139
        go_wp2
        go_ret
        exact ⟨rfl, rfl⟩
      · rw [if_neg h3]
        have e1 : (n : Int) < 48 ∨ (57 < (n : Int) ∧ (n : Int) < 65) ∨ (70 < (n : Int) ∧ (n : Int) < 97) ∨ 102 < (n : Int) := by omega
        clear h1 h2 h3
        rcases e1 with e1 | ⟨e1, e2⟩ | ⟨e1, e2⟩ | e1
        all_goals
          go_enter Tryz.func139, Tryz.ntmps139
          go_wp2
          go_ret
          exact ⟨rfl, rfl⟩
end Go.Proofs.YtmcgkknpkocgoaaGreatDoor.Ad
