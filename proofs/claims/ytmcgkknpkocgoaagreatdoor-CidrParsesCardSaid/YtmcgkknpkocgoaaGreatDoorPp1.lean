/- Cidrs' texts, plainly: the number behind the slash; what is formatted is parsed as it was. -/
import Derived.Test.YtmcgkknpkocgoaaGreatDoorPc2
import Derived.Test.YtmcgkknpkocgoaaGreatDoorPr2
import Derived.Test.YtmcgkknpkocgoaaGreatDoorPc3
namespace Go.Proofs.YtmcgkknpkocgoaaGreatDoor.Ad
open Go.RowKit Go.Proofs.YtmcgkknpkocgoaaGreatDoor.Mem Go.Proofs.YtmcgkknpkocgoaaGreatDoor.Num Go.Proofs.YtmcgkknpkocgoaaGreatDoor.Err Go.Proofs.YtmcgkknpkocgoaaGreatDoor.AdP
set_option linter.unusedVariables false
set_option linter.unusedSimpArgs false
set_option maxRecDepth 100000
instance decDig (c : UInt8) : Decidable (isDig c) := by unfold isDig; exact inferInstance
/-- Is it the text of a number from 0 to 128? -/
def okNum (t : List UInt8) : Prop := (∀ c ∈ t, isDig c) ∧ 1 ≤ t.length ∧ t.length ≤ 3 ∧ numL 10 0 t ≤ 128 ∧ ¬ (1 < t.length ∧ t[0]? = some 48)
theorem num128 : ∀ k : Fin 129, (∀ c ∈ numb 10 20 k, isDig c) ∧ 1 ≤ (numb 10 20 k).length ∧ (numb 10 20 k).length ≤ 3 ∧ numL 10 0 (numb 10 20 k) = (k : Int) ∧ ¬ (1 < (numb 10 20 k).length ∧ (numb 10 20 k)[0]? = some 48) ∧ Lib.atoiAll (numb 10 20 k) = .ok (k : Int) := by decide +kernel
theorem dec_facts (n : Nat) (h : n ≤ 128) : (∀ c ∈ Lib.decDigits n, isDig c) ∧ 1 ≤ (Lib.decDigits n).length ∧ (Lib.decDigits n).length ≤ 3 ∧ numL 10 0 (Lib.decDigits n) = (n : Int) ∧ ¬ (1 < (Lib.decDigits n).length ∧ (Lib.decDigits n)[0]? = some 48) ∧ Lib.atoiAll (Lib.decDigits n) = .ok (n : Int) := by
  rw [← numb_dec 20 n (Nat.lt_of_le_of_lt h (by decide))]
  exact num128 ⟨n, by omega⟩
theorem num_fwd (t : List UInt8) (v : Int) (h0 : 0 ≤ v) (h1 : v ≤ 128) (h : Lib.decDigits v.toNat = t) : okNum t ∧ numL 10 0 t = v := by
  obtain ⟨a, b, c, d, e, _⟩ := dec_facts v.toNat (by omega)
  rw [h] at a b c d e
  exact ⟨⟨a, b, c, by omega, e⟩, by omega⟩
theorem num_bwd (t : List UInt8) (h : okNum t) : 0 ≤ numL 10 0 t ∧ Lib.decDigits (numL 10 0 t).toNat = t ∧ Lib.atoiAll t = .ok (numL 10 0 t) := by
  obtain ⟨a, b, c, d, e⟩ := h
  have h0 := numL_dig t a 0 (by omega)
  have h1 := (digits_back t a b c).2 e
  refine ⟨h0, h1, ?_⟩
  have h2 := (dec_facts (numL 10 0 t).toNat (by omega)).2.2.2.2.2
  rw [h1] at h2
  rw [h2]
  congr 1
  omega
/-- Cut at a slash. -/
theorem cut_slash (l r : List UInt8) (h : 47 ∉ l) : Lib.cut (l ++ 47 :: r) [47] = (l, r, true) := by
  have hi : Lib.index (l ++ 47 :: r) [47] = (l.length : Int) := by
    induction l with
    | nil => rw [List.nil_append, index_cons_one, if_pos rfl]; rfl
    | cons a l ih =>
      have ha : ¬ (47 : UInt8) = a := fun e => h (by simp [e])
      rw [List.cons_append, index_cons_one, if_neg ha, ih (fun e => h (by simp [e])), if_neg (by omega)]
      simp
  unfold Lib.cut
  rw [hi, if_pos (by omega)]
  simp
theorem cut_noslash (l : List UInt8) (h : 47 ∉ l) : Lib.cut l [47] = (l, [], false) := by
  have hi : Lib.index l [47] = -1 := by
    induction l with
    | nil => rfl
    | cons a l ih =>
      have ha : ¬ (47 : UInt8) = a := fun e => h (by simp [e])
      rw [index_cons_one, if_neg ha, if_pos (ih (fun e => h (by simp [e])))]
  unfold Lib.cut
  rw [hi]
  rfl
theorem dig47 : ∀ d : Fin 16, dig d ≠ 47 := by decide
theorem numb_47 (b : Nat) (hb : b ≤ 16) (hb0 : 0 < b) : ∀ (f n : Nat), n < b ^ (f + 1) → 47 ∉ numb b f n
  | 0, n, hn, h => by
    simp only [numb, List.mem_singleton] at h
    exact dig47 ⟨n, by simp at hn; omega⟩ h.symm
  | f + 1, n, hn, h => by
    unfold numb at h
    split at h
    · simp only [List.mem_singleton] at h
      exact dig47 ⟨n, by omega⟩ h.symm
    · rcases List.mem_append.1 h with h1 | h1
      · exact numb_47 b hb hb0 f (n / b) (by rw [Nat.div_lt_iff_lt_mul hb0]; rw [Nat.pow_succ] at hn; exact hn) h1
      · simp only [List.mem_singleton] at h1
        have := Nat.mod_lt n hb0
        exact dig47 ⟨n % b, by omega⟩ h1.symm
theorem join_47 (c : UInt8) (hc : c ≠ 47) : ∀ xs : List (List UInt8), (∀ y ∈ xs, 47 ∉ y) → 47 ∉ Lib.join xs [c]
  | [], _ => by rw [Lib.join_nil]; simp
  | [x], h => by rw [Lib.join_one]; exact h x (by simp)
  | x :: y :: r, h => by
    rw [join_two]
    have h1 := join_47 c hc (y :: r) (fun z hz => h z (by simp at hz ⊢; right; exact hz))
    have h2 := h x (by simp)
    simp [h1, h2, Ne.symm hc]
theorem texts_47 (b : List UInt8) (lo hi : Nat) : 47 ∉ textsL b lo hi := by
  refine join_47 58 (by decide) _ (fun y hy => ?_)
  obtain ⟨i, _, rfl⟩ := List.mem_map.1 hy
  exact numb_47 16 (by omega) (by omega) 20 _ (Nat.lt_trans (grp_lt b i) (by decide))
theorem txtA_47 (six : Bool) (b : List UInt8) : 47 ∉ txtA six b := by
  unfold txtA
  split
  · cases six with
    | true =>
      show 47 ∉ fmt6 b
      unfold fmt6
      split
      · exact texts_47 b 0 8
      · intro h
        rcases List.mem_append.1 h with h | h
        · rcases List.mem_append.1 h with h | h
          · exact texts_47 _ _ _ h
          · simp at h
        · exact texts_47 _ _ _ h
    | false =>
      show 47 ∉ txt4 b
      unfold txt4
      refine join_47 46 (by decide) _ (fun y hy => ?_)
      obtain ⟨x, _, rfl⟩ := List.mem_map.1 hy
      exact numb_47 10 (by omega) (by omega) 20 _ (Nat.lt_trans x.toNat_lt (by decide))
  · simp
theorem cut_txt (six : Bool) (b : List UInt8) (n : Int) (h : rightC six b n = true) : Lib.cut (txtC six b n) [47] = (txtA six b, Lib.decDigits n.toNat, true) := by
  unfold txtC
  rw [if_pos h, List.append_assoc]
  exact cut_slash _ _ (txtA_47 six b)
end Go.Proofs.YtmcgkknpkocgoaaGreatDoor.Ad

/- linkboyref03.Parse. -/
namespace Go.Proofs.YtmcgkknpkocgoaaGreatDoor.Ad
open Go.RowKit Go.Proofs.YtmcgkknpkocgoaaGreatDoor.Mem Go.Proofs.YtmcgkknpkocgoaaGreatDoor.Num Go.Proofs.YtmcgkknpkocgoaaGreatDoor.Err Go.Proofs.YtmcgkknpkocgoaaGreatDoor.AdP
open Go.Proofs.YtmcgkknpkocgoaaGreatDoor.Head (pad pad_len adCells_one adCells_len infoAd splice_ad)
open Go.Proofs.YtmcgkknpkocgoaaGreatDoor.Addr (adV adA adCells adA_size cell_box load_box cell_six ptA ptV pt_loads)
set_option linter.unusedVariables false
set_option linter.unusedSimpArgs false
set_option maxRecDepth 100000
attribute [-go_sem] Builtin.append_ loadCells loadCellsFrom storeCells run_eql_struct
/-- What the document's parse of a cidr answers. -/
def RetRc (r : Nat × Bool × List UInt8 × Int) (e : Ending) : Prop := e = .returned (.tuple #[.agg (ptA r.2.1 r.2.2.1 r.2.2.2), .int .i64 (r.1 : Int)])
def noneC (k : Nat) : Nat × Bool × List UInt8 × Int := (k, false, zero16, 0)
theorem toList_at (s : ByteArray) (i : Nat) (h : i < s.size) : s.data.toList[i]'(by rw [Array.length_toList]; exact h) = s[i] := rfl
theorem ext_take (s : ByteArray) (l1 l2 : List UInt8) (h : s.data.toList = l1 ++ 47 :: l2) : s.extract 0 l1.length = str l1 ∧ s.extract (l1.length + 1) s.size = str l2 ∧ s.size = l1.length + 1 + l2.length := by
  have hl : s.data.toList.length = s.size := Array.length_toList
  have hs : s = str (l1 ++ 47 :: l2) := by rw [← h]
  have hz : s.size = l1.length + 1 + l2.length := by rw [← hl, h]; simp; omega
  refine ⟨?_, ?_, hz⟩
  · have h2 : (s.extract 0 l1.length).data.toList = l1 := by
      rw [ByteArray.data_extract, Array.toList_extract, h]
      simp
    exact ByteArray.ext (Array.toList_inj.1 h2)
  · have h2 : (s.extract (l1.length + 1) s.size).data.toList = l2 := by
      rw [ByteArray.data_extract, Array.toList_extract, h, hz]
      have h3 : (l1 ++ 47 :: l2).drop (l1.length + 1) = l2 := by rw [← List.drop_drop, List.drop_left]; rfl
      show ((l1 ++ 47 :: l2).drop (l1.length + 1)).take (l1.length + 1 + l2.length - (l1.length + 1)) = l2
      rw [h3, List.take_of_length_le (by omega)]
    exact ByteArray.ext (Array.toList_inj.1 h2)
set_option maxHeartbeats 8000000 in
theorem rcparse_noslash (s : ByteArray) (w : World) (hs : s.size ≤ 1000) (h : 47 ∉ s.data.toList) :
    Calls Tryz.prog 57 #[.string s] w fun e w' => RetRc (noneC 4) e ∧ Below w.heap.size w w' := by
  have HN : Hid (∀ (i : Nat) (hi : i < s.size), ((s[i].toNat : Int) == 47) = false ∧ ((s[i].toNat : Int) != 47) = true) := Lib.hid (fun i hi => by
    have hne : s[i] ≠ 47 := fun e => h (by rw [← e, ← toList_at s i hi]; exact List.getElem_mem _)
    have h2 : ((s[i].toNat : Int) == 47) = false := beq_eq_false_iff_ne.mpr (fun h3 => hne (UInt8.toNat_inj.1 (by have h4 : s[i].toNat = 47 := (by omega); simpa using h4)))
    exact ⟨h2, by rw [bne, h2]; rfl⟩)
  have hsi : (s.size : Int) ≤ 1000 := by omega
  have HB0 : Hid (Below w.heap.size w (w.alloc (.cells zeroCd.toArray 74))) := Lib.hid ((Below.refl _ _).alloc (Nat.le_refl _) _)
  have HK0 : Hid (Blk w.heap.size zeroCd 74 (w.alloc (.cells zeroCd.toArray 74))) := Lib.hid (Blk.new w _ _ _ _ rfl rfl)
  have st3 : (storeCells ⟨w.heap.size, 0, none⟩ zeroCd).run Tryz.prog (w.alloc (.cells zeroCd.toArray 74)) = .ok () (w.alloc (.cells zeroCd.toArray 74)) := store_same HK0.out (ptC_one false zero16 0)
  have ld3 : (loadCells ⟨w.heap.size, 0, none⟩ 18).run Tryz.prog (w.alloc (.cells zeroCd.toArray 74)) = .ok zeroCd.toArray (w.alloc (.cells zeroCd.toArray 74)) := HK0.out.load 0 18 zeroCd rfl rfl
  clear h hs
  go_enter Tryz.func57, Tryz.ntmps57
  go_wp2
  go_loop [4] (fun av => ∃ i : Nat, av = .int .i64 (i : Int) ∧ i ≤ s.size) (fun av => s.size - (intOf av).toNat)
  case atStart => exact ⟨0, rfl, Nat.zero_le _⟩
  case round =>
    obtain ⟨i, rfl, hi⟩ := hrel
    by_cases hlt : i < s.size
    · obtain ⟨n1, n2⟩ := HN.out i hlt
      have hii : (i : Int) < (s.size : Int) := by omega
      go_wp2
      go_round
      case rel => exact ⟨i + 1, by go_num, by omega⟩
      case measure => simp [intOf]; omega
    · obtain rfl : i = s.size := by omega
      go_wp2
      exact bodyPost_ret (v := .tuple #[.agg zeroCd.toArray, .int .i64 4]) (by simp [results, Tryz.results57, go_sem, ld3]) rfl ⟨rfl, HB0.out⟩
/-- The document's answer behind the slash. -/
def rcR (ok : Bool) (six : Bool) (b : List UInt8) (t : List UInt8) [Decidable (okNum t)] : Nat × Bool × List UInt8 × Int :=
  if ok = false ∨ ¬ okNum t then noneC 4 else if (widthA six : Int) < numL 10 0 t then noneC 1 else if cutL b (numL 10 0 t).toNat = b then (0, six, b, numL 10 0 t) else noneC 8
theorem numL_snoc_dig (t : List UInt8) (c : UInt8) (ht : ∀ x ∈ t, isDig x) (hc : isDig c) : numL 10 0 (t ++ [c]) = numL 10 0 t * 10 + ((c.toNat : Int) - 48) := by
  have h0 := numL_dig t ht 0 (by omega)
  have hf := fig_dig c hc
  obtain ⟨h1, h2⟩ := hc
  rcases numL_snoc 10 t c 0 (by omega) (by omega) with ⟨h3, _⟩ | ⟨_, h4⟩
  · omega
  · rw [h4, hf, if_neg (by omega)]
set_option maxHeartbeats 16000000 in
theorem rcparse_slash (ea : Addr) (s : ByteArray) (w : World) (hE : Env ea w) (hs : s.size ≤ 1000) (l1 : List UInt8) (T : ByteArray) (h : s.data.toList = l1 ++ 47 :: T.data.toList) (h1 : 47 ∉ l1)
    (ok six : Bool) (b : List UInt8) (hbl : b.length = 16) (hrb : ok = true → rightA six b = true) [Decidable (okNum T.data.toList)]
    (hP : ∀ W, Env ea W → Calls Tryz.prog 23 #[.string (str l1)] W fun e w' => e = .returned (.tuple #[.agg (adA six b), .bool ok]) ∧ Below W.heap.size W w') :
    Calls Tryz.prog 57 #[.string s] w fun e w' => RetRc (rcR ok six b T.data.toList) e ∧ Below w.heap.size w w' := by
  obtain ⟨hx1, hx2, hsz⟩ := ext_take s l1 T.data.toList h
  have hTs : str T.data.toList = T := rfl
  rw [hTs] at hx2
  have hTl : T.data.toList.length = T.size := Array.length_toList
  rw [hTl] at hsz
  have hsl : s.data.toList.length = s.size := Array.length_toList
  obtain ⟨p, hp⟩ : ∃ p, p = l1.length := ⟨_, rfl⟩
  rw [← hp] at hx1 hx2 hsz
  have HN : Hid (∀ (i : Nat) (hi : i < s.size), i < p → ((s[i].toNat : Int) == 47) = false ∧ ((s[i].toNat : Int) != 47) = true) := Lib.hid (fun i hi hip => by
    have e1 : s[i] = l1[i]'(by omega) := by
      rw [← toList_at s i hi]
      have h9 : s.data.toList[i]? = l1[i]? := by rw [h, List.getElem?_append_left (by omega)]
      rw [List.getElem?_eq_getElem (by omega), List.getElem?_eq_getElem (by omega)] at h9
      exact Option.some.inj h9
    have hne : s[i] ≠ 47 := fun e => h1 (by rw [← e, e1]; exact List.getElem_mem _)
    have h2 : ((s[i].toNat : Int) == 47) = false := beq_eq_false_iff_ne.mpr (fun h3 => hne (UInt8.toNat_inj.1 (by have h4 : s[i].toNat = 47 := (by omega); simpa using h4)))
    exact ⟨h2, by rw [bne, h2]; rfl⟩)
  have hps : p < s.size := by omega
  have hsp : s[p] = 47 := by
    rw [← toList_at s p hps]
    have h9 : s.data.toList[p]? = some 47 := by rw [h, List.getElem?_append_right (by omega), hp]; simp
    rw [List.getElem?_eq_getElem (by omega)] at h9
    exact Option.some.inj h9
  have q1 : ((s[p].toNat : Int) == 47) = true := by rw [hsp]; rfl
  have q2 : ((s[p].toNat : Int) != 47) = false := by rw [bne, q1]; rfl
  have hpi : (p : Int) < (s.size : Int) := by omega
  have q3 : ((p : Int) == (s.size : Int)) = false := beq_eq_false_iff_ne.mpr (by omega)
  have hsi : (s.size : Int) ≤ 1000 := by omega
  have hTi : (T.size : Int) ≤ 1000 := by omega
  have HB0 : Hid (Below w.heap.size w (w.alloc (.cells zeroCd.toArray 74))) := Lib.hid ((Below.refl _ _).alloc (Nat.le_refl _) _)
  have HK0 : Hid (Blk w.heap.size zeroCd 74 (w.alloc (.cells zeroCd.toArray 74))) := Lib.hid (Blk.new w _ _ _ _ rfl rfl)
  have HE0 := Lib.hid (hE.alloc (.cells zeroCd.toArray 74))
  have KP := Lib.hid hP
  have HBL := Lib.hid hbl
  have HTL := Lib.hid hTl
  have hszA := adA_size six b hbl
  have KW : Hid (∀ W, Calls Tryz.prog 69 #[.agg (adA six b)] W fun e w' => e = .returned (.int .i64 (widthA six : Int)) ∧ Below W.heap.size W w') := Lib.hid (fun W => width_calls six b hbl W)
  have KZ : Hid (ok = true → ∀ v : Int, 0 ≤ v → v ≤ (widthA six : Int) → ∀ W, Calls Tryz.prog 110 #[.agg (adA six b), .int .i64 v] W fun e w' => e = .returned (.bool (decide (cutL b v.toNat = b))) ∧ Below W.heap.size W w') := Lib.hid (fun ho v h0 h1 W => by
    have h := zero_calls six b hbl (hrb ho) v.toNat (by omega) W
    rw [show ((v.toNat : Nat) : Int) = v by omega] at h
    exact h)
  have HLA : Hid (∀ (w2 w3 : World), Blk w2.heap.size (adCells six b) 24 w3 → (loadCells ⟨w2.heap.size, 0, none⟩ 17).run Tryz.prog w3 = .ok (adA six b) w3) := Lib.hid (fun w2 w3 h => h.load 0 17 (adCells six b) (by rw [List.drop_zero, List.take_of_length_le (by rw [adCells_len _ _ hbl]; omega)]) (adCells_len _ _ hbl))
  clear hE hP hbl hrb h h1 hs hsl hp hsz hTl hsp
  generalize str l1 = H at *
  go_enter Tryz.func57, Tryz.ntmps57
  go_wp2
  go_loop [4] (fun av => ∃ i : Nat, av = .int .i64 (i : Int) ∧ i ≤ p) (fun av => p - (intOf av).toNat)
  case atStart => exact ⟨0, rfl, Nat.zero_le _⟩
  case round =>
    obtain ⟨i, rfl, hi⟩ := hrel
    by_cases hlt : i < p
    · obtain ⟨n1, n2⟩ := HN.out i (by omega) hlt
      have hii : (i : Int) < (s.size : Int) := by omega
      go_wp2
      go_round
      case rel => exact ⟨i + 1, by go_num, by omega⟩
      case measure => simp [intOf]; omega
    · obtain rfl : i = p := by omega
      clear hlt
      go_wp2_with (first
    | (go_at_call 23; ((with_reducible refine (KP.out _ HE0.out).mono ?_); rintro e w2 ⟨rfl, hb2⟩; have HB2 := Lib.hid (HB0.out.trans (hb2.mono HB0.out.size)); have HK2 := Lib.hid (HK0.out.below hb2); clear hb2))
    | (refine wp_store_blk rfl 24 (.tmp 5) (.tmp 32) rfl w2.heap.size 0 (adCells false zero16) (adCells six b) 24 _ rfl rfl rfl (Blk.new _ _ _ _ _ rfl rfl) (by rw [adCells_len _ _ HBL.out]; decide) (by rw [adCells_len _ _ HBL.out]; exact infoAd) (adCells_one _ _) (by rw [adCells_len _ _ HBL.out]; decide) ?_; intro w3 hk3 ha3; have hb3 := below_alt (below_own_alloc w2 _) ha3 (by simp) (fun k hk => by omega); have HA3 : Hid (Blk w2.heap.size (adCells six b) 24 w3) := Lib.hid (by rw [splice_all _ _ (by rw [adCells_len _ _ HBL.out]; decide)] at hk3; exact hk3); have HB3 : Hid (Below w.heap.size w w3) := Lib.hid (HB2.out.trans (hb3.mono HB2.out.size)); have HK3 := Lib.hid (HK2.out.below hb3); clear hk3 ha3 hb3))
      have st3 : (storeCells ⟨w.heap.size, 0, none⟩ zeroCd).run Tryz.prog w3 = .ok () w3 := store_same HK3.out (ptC_one false zero16 0)
      have ld3 : (loadCells ⟨w.heap.size, 0, none⟩ 18).run Tryz.prog w3 = .ok zeroCd.toArray w3 := HK3.out.load 0 18 zeroCd rfl rfl
      have la3 := HLA.out _ _ HA3.out
      go_loop [8, 9] (fun nv jv => ∃ (j : Nat) (n : Int), jv = .int .i64 (j : Int) ∧ nv = .int .i64 n ∧ j ≤ T.size ∧ Hid (j ≤ 3) ∧ Hid (0 ≤ n ∧ n < 10 ^ j) ∧ Hid (∀ c ∈ T.data.toList.take j, isDig c) ∧ Hid (n = numL 10 0 (T.data.toList.take j))) (fun _ jv => T.size - (intOf jv).toNat)
      case atStart => exact ⟨0, 0, rfl, rfl, Nat.zero_le _, Lib.hid (by omega), Lib.hid (by decide), Lib.hid (by simp), Lib.hid rfl⟩
      case round =>
        obtain ⟨j, n, rfl, rfl, hj, HJ, HNB, HD, HNV⟩ := hrel
        have hn0 := HNB.out.1
        have hn1 : n ≤ 1000 := by
          have h1 := HNB.out.2
          have h2 := HJ.out
          rcases (show j = 0 ∨ j = 1 ∨ j = 2 ∨ j = 3 by omega) with h3 | h3 | h3 | h3 <;> rw [h3] at h1 <;> simp at h1 <;> omega
        by_cases hlt : j < T.size
        · have hjl : j < T.data.toList.length := by rw [HTL.out]; exact hlt
          have hjj : (j : Int) < (T.size : Int) := by omega
          have htk : T.data.toList.take (j + 1) = T.data.toList.take j ++ [T[j]] := List.take_succ_eq_append_getElem hjl
          have hmem : T[j] ∈ T.data.toList := by rw [← toList_at T j hlt]; exact List.getElem_mem _
          have hb0 := T[j].toNat_lt
          by_cases hd : isDig T[j]
          · have hd1 : ¬ ((T[j].toNat : Int) < 48) := by have := hd.1; omega
            have hd2 : ¬ ((57 : Int) < (T[j].toNat : Int)) := by have := hd.2; omega
            have hd3 : decide ((T[j].toNat : Int) < 48) = false := decide_eq_false hd1
            have hd4 : decide ((57 : Int) < (T[j].toNat : Int)) = false := decide_eq_false hd2
            have hd5 : ¬ T[j].toNat < 48 := by have := hd.1; omega
            have hd6 : ¬ 57 < T[j].toNat := by have := hd.2; omega
            have hd7 : decide (T[j].toNat < 48) = false := decide_eq_false hd5
            have hd8 : decide (57 < T[j].toNat) = false := decide_eq_false hd6
            by_cases hj2 : 2 < j
            · have hj2i : (2 : Int) < (j : Int) := by omega
              have HF := Lib.hid (show rcR ok six b T.data.toList = noneC 4 by unfold rcR; rw [if_pos (.inr (fun hk => by have := hk.2.2.1; rw [HTL.out] at this; omega))])
              go_wp2
              exact bodyPost_ret (v := .tuple #[.agg zeroCd.toArray, .int .i64 4]) (by simp [results, Tryz.results57, go_sem, ld3]) rfl ⟨by rw [HF.out]; rfl, HB3.out⟩
            · have hj2i : ¬ (2 : Int) < (j : Int) := by omega
              have hj3i : decide ((2 : Int) < (j : Int)) = false := decide_eq_false hj2i
              have hj4i : decide (2 < j) = false := decide_eq_false hj2
              have HJ2 : Hid (j + 1 ≤ 3) := Lib.hid (by omega)
              have hnx := numL_snoc_dig (T.data.toList.take j) T[j] HD.out hd
              rw [← htk, ← HNV.out] at hnx
              have HNV2 := Lib.hid (show n * 10 + (T[j].toNat : Int) - 48 = numL 10 0 (T.data.toList.take (j + 1)) by omega)
              have HD2 : Hid (∀ c ∈ T.data.toList.take (j + 1), isDig c) := Lib.hid (fun c hc => by
                rw [htk] at hc
                rcases List.mem_append.1 hc with h | h
                · exact HD.out c h
                · rw [List.mem_singleton.1 h]; exact hd)
              have HNB2 : Hid (0 ≤ n * 10 + (T[j].toNat : Int) - 48 ∧ n * 10 + (T[j].toNat : Int) - 48 < 10 ^ (j + 1)) := Lib.hid (by
                have h1 := HNB.out.2
                have h2 := hd.1
                have h3 := hd.2
                rw [Int.pow_succ]
                omega)
              clear hnx htk
              go_wp2
              go_round
              case rel => exact ⟨j + 1, n * 10 + (T[j].toNat : Int) - 48, by go_num, by (first | rfl | go_num), by omega, HJ2, HNB2, HD2, HNV2⟩
              case measure => simp [intOf]; omega
          · by_cases hlo : T[j].toNat < 48
            · have hd1 : ((T[j].toNat : Int) < 48) := by omega
              have hd3 : decide ((T[j].toNat : Int) < 48) = true := decide_eq_true hd1
              have hd7 : decide (T[j].toNat < 48) = true := decide_eq_true hlo
              have HF := Lib.hid (show rcR ok six b T.data.toList = noneC 4 by unfold rcR; rw [if_pos (.inr (fun hk => hd (hk.1 _ hmem)))])
              go_wp2
              exact bodyPost_ret (v := .tuple #[.agg zeroCd.toArray, .int .i64 4]) (by simp [results, Tryz.results57, go_sem, ld3]) rfl ⟨by rw [HF.out]; rfl, HB3.out⟩
            · have hhi : 57 < T[j].toNat := by unfold isDig at hd; omega
              have hd1 : ¬ ((T[j].toNat : Int) < 48) := by omega
              have hd3 : decide ((T[j].toNat : Int) < 48) = false := decide_eq_false hd1
              have hd7 : decide (T[j].toNat < 48) = false := decide_eq_false hlo
              have hd2 : ((57 : Int) < (T[j].toNat : Int)) := by omega
              have hd4 : decide ((57 : Int) < (T[j].toNat : Int)) = true := decide_eq_true hd2
              have hd8 : decide (57 < T[j].toNat) = true := decide_eq_true hhi
              have HF := Lib.hid (show rcR ok six b T.data.toList = noneC 4 by unfold rcR; rw [if_pos (.inr (fun hk => hd (hk.1 _ hmem)))])
              go_wp2
              exact bodyPost_ret (v := .tuple #[.agg zeroCd.toArray, .int .i64 4]) (by simp [results, Tryz.results57, go_sem, ld3]) rfl ⟨by rw [HF.out]; rfl, HB3.out⟩
        · obtain rfl : j = T.size := by omega
          have htk : T.data.toList.take T.size = T.data.toList := List.take_of_length_le (by rw [HTL.out]; exact Nat.le_refl _)
          have hv := HNV.out
          rw [htk] at hv
          have hdd := HD.out
          rw [htk] at hdd
          have HV := Lib.hid hv
          have HDD := Lib.hid hdd
          clear htk hv hdd
          cases ok with
          | false =>
            have HF := Lib.hid (show rcR false six b T.data.toList = noneC 4 by unfold rcR; rw [if_pos (.inl rfl)])
            go_wp2
            exact bodyPost_ret (v := .tuple #[.agg zeroCd.toArray, .int .i64 4]) (by simp [results, Tryz.results57, go_sem, ld3]) rfl ⟨by rw [HF.out]; rfl, HB3.out⟩
          | true =>
            by_cases h0 : T.size = 0
            · have e0 : ((T.size : Int) == 0) = true := by rw [h0]; rfl
              have HF := Lib.hid (show rcR true six b T.data.toList = noneC 4 by unfold rcR; rw [if_pos (.inr (fun hk => by have := hk.2.1; rw [HTL.out] at this; omega))])
              go_wp2
              exact bodyPost_ret (v := .tuple #[.agg zeroCd.toArray, .int .i64 4]) (by simp [results, Tryz.results57, go_sem, ld3]) rfl ⟨by rw [HF.out]; rfl, HB3.out⟩
            · have e0 : ((T.size : Int) == 0) = false := beq_eq_false_iff_ne.mpr (by omega)
              have hT0 : (0 : Int) < (T.size : Int) := by omega
              by_cases hbig : 128 < n
              · have e2 : decide (128 < n) = true := decide_eq_true hbig
                have HF := Lib.hid (show rcR true six b T.data.toList = noneC 4 by unfold rcR; rw [if_pos (.inr (fun hk => by have := hk.2.2.2.1; rw [← HV.out] at this; omega))])
                go_wp2
                exact bodyPost_ret (v := .tuple #[.agg zeroCd.toArray, .int .i64 4]) (by simp [results, Tryz.results57, go_sem, ld3]) rfl ⟨by rw [HF.out]; rfl, HB3.out⟩
              · have e2 : decide (128 < n) = false := decide_eq_false hbig
                have hT0n : 0 < T.size := by omega
                have h0at : T.data.toList[0]? = some T[0] := by rw [List.getElem?_eq_getElem (by rw [HTL.out]; exact hT0n)]; rfl
                by_cases hone : 1 < T.size
                · have e3 : decide ((1 : Int) < (T.size : Int)) = true := decide_eq_true (by omega)
                  have e4 : (1 : Int) < (T.size : Int) := by omega
                  have e7 : decide (1 < T.size) = true := decide_eq_true hone
                  by_cases hz : T[0] = 48
                  · have e5 : ((T[0].toNat : Int) == 48) = true := by rw [hz]; rfl
                    have HF := Lib.hid (show rcR true six b T.data.toList = noneC 4 by unfold rcR; rw [if_pos (.inr (fun hk => hk.2.2.2.2 ⟨by rw [HTL.out]; exact hone, by rw [h0at, hz]⟩))])
                    go_wp2
                    exact bodyPost_ret (v := .tuple #[.agg zeroCd.toArray, .int .i64 4]) (by simp [results, Tryz.results57, go_sem, ld3]) rfl ⟨by rw [HF.out]; rfl, HB3.out⟩
                  · have e5 : ((T[0].toNat : Int) == 48) = false := beq_eq_false_iff_ne.mpr (fun h3 => hz (UInt8.toNat_inj.1 (by have h4 : T[0].toNat = 48 := (by omega); simpa using h4)))
                    have HOK := Lib.hid (show okNum T.data.toList from ⟨HDD.out, by rw [HTL.out]; omega, by rw [HTL.out]; exact HJ.out, by rw [← HV.out]; omega, fun hk => hz (by have := hk.2; rw [h0at] at this; exact Option.some.inj this)⟩)
                    have HR : Hid (rcR true six b T.data.toList = if (widthA six : Int) < n then noneC 1 else if cutL b n.toNat = b then (0, six, b, n) else noneC 8) := Lib.hid (by unfold rcR; rw [if_neg (by rintro (h | h); cases h; exact h HOK.out), ← HV.out])
                    have KZ1 := Lib.hid (KZ.out rfl n hn0)
                    by_cases hw : (widthA six : Int) < n
                    · have HF := Lib.hid (HR.out.trans (if_pos hw))
                      have e6 : decide ((widthA six : Int) < n) = true := decide_eq_true hw
                      clear HR KZ1
                      generalize (widthA six : Int) = WD at *
                      go_wp2_with (go_at_call 69; ((with_reducible refine (KW.out _).mono ?_); rintro e w4 ⟨rfl, hb4⟩; have HB4 := Lib.hid (HB3.out.trans (hb4.mono HB3.out.size)); have HK4 := Lib.hid (HK3.out.below hb4); have st4 : (storeCells ⟨w.heap.size, 0, none⟩ zeroCd).run Tryz.prog w4 = .ok () w4 := store_same HK4.out (ptC_one false zero16 0); clear hb4))
                      have ld4 : (loadCells ⟨w.heap.size, 0, none⟩ 18).run Tryz.prog w4 = .ok zeroCd.toArray w4 := HK4.out.load 0 18 zeroCd rfl rfl
                      exact bodyPost_ret (v := .tuple #[.agg zeroCd.toArray, .int .i64 1]) (by simp [results, Tryz.results57, go_sem, ld4]) rfl ⟨by rw [HF.out]; rfl, HB4.out⟩
                    · have e6 : decide ((widthA six : Int) < n) = false := decide_eq_false hw
                      have HR2 := Lib.hid (HR.out.trans (if_neg hw))
                      have KZ2 := Lib.hid (KZ1.out (by omega))
                      clear HR KZ1
                      generalize (widthA six : Int) = WD at *
                      by_cases hc : cutL b n.toNat = b
                      · have HF := Lib.hid (HR2.out.trans (if_pos hc))
                        rw [decide_eq_true hc] at KZ2
                        have hf := cidr_fold six b HBL.out
                        have hs17 := cidr_set six b HBL.out n
                        have hp0 := ptA_size six b 0 HBL.out
                        have HV9 : Hid (ptA six b n = (adCells six b ++ [Value.int .i64 n]).toArray) := Lib.hid rfl
                        have HPA : Hid (RetRc (0, six, b, n) (.returned (.tuple #[.agg (ptA six b n), .int .i64 0]))) := Lib.hid rfl
                        clear hc
                        generalize ptA six b 0 = za at *
                        generalize ptA six b n = pa at *
                        go_wp2_with (first
                          | (go_at_call 69; ((with_reducible refine (KW.out _).mono ?_); rintro e w4 ⟨rfl, hb4⟩; have HB4 := Lib.hid (HB3.out.trans (hb4.mono HB3.out.size)); have HK4 := Lib.hid (HK3.out.below hb4); have HA4 := Lib.hid (HA3.out.below hb4); have la4 := HLA.out _ _ HA4.out; clear hb4))
                          | (go_at_call 110; ((with_reducible refine (KZ2.out _).mono ?_); rintro e w5 ⟨rfl, hb5⟩; have HB5 := Lib.hid (HB4.out.trans (hb5.mono HB4.out.size)); have HK5 := Lib.hid (HK4.out.below hb5); have HA5 := Lib.hid (HA4.out.below hb5); have la5 := HLA.out _ _ HA5.out; clear hb5))
                          | (refine wp_store_blk rfl 74 (.tmp 2) (.tmp 101) rfl w.heap.size 0 zeroCd (adCells six b ++ [Value.int .i64 n]) 74 _ rfl rfl (by rw [HV9.out]; rfl) HK5.out (by rw [ptC_len _ _ _ HBL.out]; decide) (by rw [ptC_len _ _ _ HBL.out]; exact infoCd) (ptC_one _ _ _) (by rw [ptC_len _ _ _ HBL.out]; decide) ?_; intro w8 hk8 ha8; have HK8 := Lib.hid hk8; have HB8 : Hid (Below w.heap.size w w8) := Lib.hid (below_alt HB5.out ha8 HB5.out.size (fun k hk => by omega)); clear hk8 ha8))
                        have hk8 := HK8.out
                        rw [splice_all _ _ (by rw [ptC_len _ _ _ HBL.out]; decide)] at hk8
                        have hres : (loadCells ⟨w.heap.size, 0, none⟩ 18).run Tryz.prog w8 = .ok pa w8 := by
                          have h := hk8.load (P := Tryz.prog) 0 18 (adCells six b ++ [Value.int .i64 n]) (by rw [List.drop_zero, List.take_of_length_le (by rw [ptC_len _ _ _ HBL.out]; omega)]) (ptC_len _ _ _ HBL.out)
                          rw [HV9.out]; exact h
                        exact bodyPost_ret (v := .tuple #[.agg pa, .int .i64 0]) (by simp [results, Tryz.results57, go_sem, hres]) rfl ⟨by rw [HF.out]; exact HPA.out, HB8.out⟩
                      · have HF := Lib.hid (HR2.out.trans (if_neg hc))
                        rw [decide_eq_false hc] at KZ2
                        go_wp2_with (first
                          | (go_at_call 69; ((with_reducible refine (KW.out _).mono ?_); rintro e w4 ⟨rfl, hb4⟩; have HB4 := Lib.hid (HB3.out.trans (hb4.mono HB3.out.size)); have HK4 := Lib.hid (HK3.out.below hb4); have HA4 := Lib.hid (HA3.out.below hb4); have la4 := HLA.out _ _ HA4.out; clear hb4))
                          | (go_at_call 110; ((with_reducible refine (KZ2.out _).mono ?_); rintro e w5 ⟨rfl, hb5⟩; have HB5 := Lib.hid (HB4.out.trans (hb5.mono HB4.out.size)); have HK5 := Lib.hid (HK4.out.below hb5); have st5 : (storeCells ⟨w.heap.size, 0, none⟩ zeroCd).run Tryz.prog w5 = .ok () w5 := store_same HK5.out (ptC_one false zero16 0); clear hb5)))
                        have ld5 : (loadCells ⟨w.heap.size, 0, none⟩ 18).run Tryz.prog w5 = .ok zeroCd.toArray w5 := HK5.out.load 0 18 zeroCd rfl rfl
                        exact bodyPost_ret (v := .tuple #[.agg zeroCd.toArray, .int .i64 8]) (by simp [results, Tryz.results57, go_sem, ld5]) rfl ⟨by rw [HF.out]; rfl, HB5.out⟩
                · have e3 : decide ((1 : Int) < (T.size : Int)) = false := decide_eq_false (by omega)
                  have e4 : ¬ (1 : Int) < (T.size : Int) := by omega
                  have e7 : decide (1 < T.size) = false := decide_eq_false hone
                  have HOK := Lib.hid (show okNum T.data.toList from ⟨HDD.out, by rw [HTL.out]; omega, by rw [HTL.out]; exact HJ.out, by rw [← HV.out]; omega, fun hk => by have := hk.1; rw [HTL.out] at this; omega⟩)
                  have HR : Hid (rcR true six b T.data.toList = if (widthA six : Int) < n then noneC 1 else if cutL b n.toNat = b then (0, six, b, n) else noneC 8) := Lib.hid (by unfold rcR; rw [if_neg (by rintro (h | h); cases h; exact h HOK.out), ← HV.out])
                  have KZ1 := Lib.hid (KZ.out rfl n hn0)
                  by_cases hw : (widthA six : Int) < n
                  · have HF := Lib.hid (HR.out.trans (if_pos hw))
                    have e6 : decide ((widthA six : Int) < n) = true := decide_eq_true hw
                    clear HR KZ1
                    generalize (widthA six : Int) = WD at *
                    go_wp2_with (go_at_call 69; ((with_reducible refine (KW.out _).mono ?_); rintro e w4 ⟨rfl, hb4⟩; have HB4 := Lib.hid (HB3.out.trans (hb4.mono HB3.out.size)); have HK4 := Lib.hid (HK3.out.below hb4); have st4 : (storeCells ⟨w.heap.size, 0, none⟩ zeroCd).run Tryz.prog w4 = .ok () w4 := store_same HK4.out (ptC_one false zero16 0); clear hb4))
                    have ld4 : (loadCells ⟨w.heap.size, 0, none⟩ 18).run Tryz.prog w4 = .ok zeroCd.toArray w4 := HK4.out.load 0 18 zeroCd rfl rfl
                    exact bodyPost_ret (v := .tuple #[.agg zeroCd.toArray, .int .i64 1]) (by simp [results, Tryz.results57, go_sem, ld4]) rfl ⟨by rw [HF.out]; rfl, HB4.out⟩
                  · have e6 : decide ((widthA six : Int) < n) = false := decide_eq_false hw
                    have HR2 := Lib.hid (HR.out.trans (if_neg hw))
                    have KZ2 := Lib.hid (KZ1.out (by omega))
                    clear HR KZ1
                    generalize (widthA six : Int) = WD at *
                    by_cases hc : cutL b n.toNat = b
                    · have HF := Lib.hid (HR2.out.trans (if_pos hc))
                      rw [decide_eq_true hc] at KZ2
                      have hf := cidr_fold six b HBL.out
                      have hs17 := cidr_set six b HBL.out n
                      have hp0 := ptA_size six b 0 HBL.out
                      have HV9 : Hid (ptA six b n = (adCells six b ++ [Value.int .i64 n]).toArray) := Lib.hid rfl
                      have HPA : Hid (RetRc (0, six, b, n) (.returned (.tuple #[.agg (ptA six b n), .int .i64 0]))) := Lib.hid rfl
                      clear hc
                      generalize ptA six b 0 = za at *
                      generalize ptA six b n = pa at *
                      go_wp2_with (first
                        | (go_at_call 69; ((with_reducible refine (KW.out _).mono ?_); rintro e w4 ⟨rfl, hb4⟩; have HB4 := Lib.hid (HB3.out.trans (hb4.mono HB3.out.size)); have HK4 := Lib.hid (HK3.out.below hb4); have HA4 := Lib.hid (HA3.out.below hb4); have la4 := HLA.out _ _ HA4.out; clear hb4))
                        | (go_at_call 110; ((with_reducible refine (KZ2.out _).mono ?_); rintro e w5 ⟨rfl, hb5⟩; have HB5 := Lib.hid (HB4.out.trans (hb5.mono HB4.out.size)); have HK5 := Lib.hid (HK4.out.below hb5); have HA5 := Lib.hid (HA4.out.below hb5); have la5 := HLA.out _ _ HA5.out; clear hb5))
                        | (refine wp_store_blk rfl 74 (.tmp 2) (.tmp 101) rfl w.heap.size 0 zeroCd (adCells six b ++ [Value.int .i64 n]) 74 _ rfl rfl (by rw [HV9.out]; rfl) HK5.out (by rw [ptC_len _ _ _ HBL.out]; decide) (by rw [ptC_len _ _ _ HBL.out]; exact infoCd) (ptC_one _ _ _) (by rw [ptC_len _ _ _ HBL.out]; decide) ?_; intro w8 hk8 ha8; have HK8 := Lib.hid hk8; have HB8 : Hid (Below w.heap.size w w8) := Lib.hid (below_alt HB5.out ha8 HB5.out.size (fun k hk => by omega)); clear hk8 ha8))
                      have hk8 := HK8.out
                      rw [splice_all _ _ (by rw [ptC_len _ _ _ HBL.out]; decide)] at hk8
                      have hres : (loadCells ⟨w.heap.size, 0, none⟩ 18).run Tryz.prog w8 = .ok pa w8 := by
                        have h := hk8.load (P := Tryz.prog) 0 18 (adCells six b ++ [Value.int .i64 n]) (by rw [List.drop_zero, List.take_of_length_le (by rw [ptC_len _ _ _ HBL.out]; omega)]) (ptC_len _ _ _ HBL.out)
                        rw [HV9.out]; exact h
                      exact bodyPost_ret (v := .tuple #[.agg pa, .int .i64 0]) (by simp [results, Tryz.results57, go_sem, hres]) rfl ⟨by rw [HF.out]; exact HPA.out, HB8.out⟩
                    · have HF := Lib.hid (HR2.out.trans (if_neg hc))
                      rw [decide_eq_false hc] at KZ2
                      go_wp2_with (first
                        | (go_at_call 69; ((with_reducible refine (KW.out _).mono ?_); rintro e w4 ⟨rfl, hb4⟩; have HB4 := Lib.hid (HB3.out.trans (hb4.mono HB3.out.size)); have HK4 := Lib.hid (HK3.out.below hb4); have HA4 := Lib.hid (HA3.out.below hb4); have la4 := HLA.out _ _ HA4.out; clear hb4))
                        | (go_at_call 110; ((with_reducible refine (KZ2.out _).mono ?_); rintro e w5 ⟨rfl, hb5⟩; have HB5 := Lib.hid (HB4.out.trans (hb5.mono HB4.out.size)); have HK5 := Lib.hid (HK4.out.below hb5); have st5 : (storeCells ⟨w.heap.size, 0, none⟩ zeroCd).run Tryz.prog w5 = .ok () w5 := store_same HK5.out (ptC_one false zero16 0); clear hb5)))
                      have ld5 : (loadCells ⟨w.heap.size, 0, none⟩ 18).run Tryz.prog w5 = .ok zeroCd.toArray w5 := HK5.out.load 0 18 zeroCd rfl rfl
                      exact bodyPost_ret (v := .tuple #[.agg zeroCd.toArray, .int .i64 8]) (by simp [results, Tryz.results57, go_sem, ld5]) rfl ⟨by rw [HF.out]; rfl, HB5.out⟩
end Go.Proofs.YtmcgkknpkocgoaaGreatDoor.Ad

/- The law CidrParses: the walk; its row's contract. -/
namespace Go.Proofs.YtmcgkknpkocgoaaGreatDoor.Ad
open Go.RowKit Go.Proofs.YtmcgkknpkocgoaaGreatDoor.Mem Go.Proofs.YtmcgkknpkocgoaaGreatDoor.Num Go.Proofs.YtmcgkknpkocgoaaGreatDoor.Err Go.Proofs.YtmcgkknpkocgoaaGreatDoor.AdP
open Go.Proofs.YtmcgkknpkocgoaaGreatDoor.Key (InI64)
open Go.Proofs.YtmcgkknpkocgoaaGreatDoor.Head (pad pad_len adCells_one adCells_len infoAd splice_ad)
open Go.Proofs.YtmcgkknpkocgoaaGreatDoor.Addr (adV adA adCells adA_size cell_box load_box cell_six ptA ptV pt_loads)
set_option linter.unusedVariables false
set_option linter.unusedSimpArgs false
set_option maxRecDepth 100000
attribute [-go_sem] Builtin.append_ loadCells loadCellsFrom storeCells run_eql_struct
theorem parseA_okC (s : List UInt8) (six : Bool) (b : List UInt8) (h : parseA s = some (six, b)) : b.length = 16 ∧ rightA six b = true := by
  unfold parseA at h
  split at h
  · obtain ⟨c, h1, h2⟩ := Option.map_eq_some_iff.1 h
    injection h2 with e1 e2
    subst e1; subst e2
    exact ⟨coloned_len _ _ h1, rfl⟩
  · obtain ⟨c, h1, h2⟩ := Option.map_eq_some_iff.1 h
    injection h2 with e1 e2
    subst e1; subst e2
    refine ⟨dotted_len _ _ h1, ?_⟩
    unfold dotted at h1
    split at h1
    · rename_i h4
      obtain ⟨d, h5, rfl⟩ := Option.map_eq_some_iff.1 h1
      have h6 := dotP_len _ _ h5
      unfold rightA
      rw [List.drop_append_of_le_length (by omega), List.drop_of_length_le (by omega)]
      decide
    · cases h1
/-- Both parses of a text tell the same. -/
def Both (ea eR eA : Addr) (es : List Addr) (s : ByteArray) (w : World) (k : Nat) (six : Bool) (b : List UInt8) (n : Int) (q : Value) : Prop :=
  b.length = 16 ∧ InI64 n ∧
  (∀ W, Below w.heap.size w W → Calls Tryz.prog 56 #[.string s] W fun e w' => e = .returned (.tuple #[.agg (ptA six b n), q]) ∧ Below W.heap.size W w') ∧
  (∀ W, Below w.heap.size w W → Calls Tryz.prog 57 #[.string s] W fun e w' => e = .returned (.tuple #[.agg (ptA six b n), .int .i64 (k : Int)]) ∧ Below W.heap.size W w') ∧
  (∀ W, Below w.heap.size w W → Calls Tryz.prog 24 #[q] W fun e w' => e = .returned (.int .i64 (k : Int)) ∧ Below W.heap.size W w')
theorem in0 : InI64 0 := ⟨by decide, by decide⟩
theorem both_calls (ea eR eA : Addr) (es : List Addr) (s : ByteArray) (w : World) (hE : Env ea w) (he : Errs w es) (hpF : es[3]? = some ea) (hpR : es[0]? = some eR) (hpA : es[7]? = some eA) (hR : Holds w 0 eR) (hA : Holds w 7 eA) (hs : s.size ≤ 1000) :
    ∃ k six b n q, Both ea eR eA es s w k six b n q := by
  have NF : ∀ W, Below w.heap.size w W → Calls Tryz.prog 24 #[.iface 226 (.pointer (some ea))] W fun e w' => e = .returned (.int .i64 ((4 : Nat) : Int)) ∧ Below W.heap.size W w' := fun W h => numk W es (he.below h) 3 (by omega) ea hpF
  have NR : ∀ W, Below w.heap.size w W → Calls Tryz.prog 24 #[.iface 226 (.pointer (some eR))] W fun e w' => e = .returned (.int .i64 ((1 : Nat) : Int)) ∧ Below W.heap.size W w' := fun W h => numk W es (he.below h) 0 (by omega) eR hpR
  have NA : ∀ W, Below w.heap.size w W → Calls Tryz.prog 24 #[.iface 226 (.pointer (some eA))] W fun e w' => e = .returned (.int .i64 ((8 : Nat) : Int)) ∧ Below W.heap.size W w' := fun W h => numk W es (he.below h) 7 (by omega) eA hpA
  have N0 : ∀ W, Below w.heap.size w W → Calls Tryz.prog 24 #[.nilIface] W fun e w' => e = .returned (.int .i64 ((0 : Nat) : Int)) ∧ Below W.heap.size W w' := fun W h => (num_nil W).mono (by rintro e w' ⟨rfl, rfl⟩; exact ⟨rfl, Below.refl _ _⟩)
  by_cases h47 : (47 : UInt8) ∈ s.data.toList
  · obtain ⟨l1, l2, hl, h1⟩ := List.eq_append_cons_of_mem h47
    have hc : Lib.cut s.data.toList [47] = (l1, l2, true) := by rw [hl]; exact cut_slash l1 l2 h1
    have hlen : s.data.toList.length = s.size := Array.length_toList
    have hl1 : (str l1).size ≤ 1000 := by rw [sz]; rw [hl] at hlen; simp at hlen; omega
    haveI := Classical.propDecidable (okNum l2)
    have hdoc : ∀ (ok six : Bool) (b : List UInt8), b.length = 16 → (ok = true → rightA six b = true) → (∀ W, Env ea W → Calls Tryz.prog 23 #[.string (str l1)] W fun e w' => e = .returned (.tuple #[.agg (adA six b), .bool ok]) ∧ Below W.heap.size W w') →
        ∀ W, Below w.heap.size w W → Calls Tryz.prog 57 #[.string s] W fun e w' => RetRc (rcR ok six b l2) e ∧ Below W.heap.size W w' := fun ok six b hb hr hP W h => rcparse_slash ea s W (hE.below h) hs l1 (str l2) hl h1 ok six b hb hr hP
    cases hp : parseA l1 with
    | none =>
      refine ⟨4, false, zero16, 0, .iface 226 (.pointer (some ea)), rfl, in0, fun W h => ?_, fun W h => ?_, NF⟩
      · exact cparse_noaddr ea s W (hE.below h) hs (by rw [hc]) (by rw [hc]; exact hp)
      · refine (hdoc false false zero16 rfl (by simp) (fun W hE => ?_) W h).mono ?_
        · have h := rparse_calls ea (str l1) W hE hl1
          rw [show (str l1).data.toList = l1 from rfl, hp] at h
          exact h
        · rintro e w' ⟨hq, hb⟩
          refine ⟨?_, hb⟩
          unfold rcR at hq
          rw [if_pos (.inl rfl)] at hq
          exact hq
    | some pr =>
      obtain ⟨six, b⟩ := pr
      obtain ⟨hbl, hrb⟩ := parseA_okC l1 six b hp
      have hd := hdoc true six b hbl (fun _ => hrb) (fun W hE => by
        have h := rparse_calls ea (str l1) W hE hl1
        rw [show (str l1).data.toList = l1 from rfl, hp] at h
        exact h)
      have hc0 : (Lib.cut s.data.toList [47]).2.2 = true := by rw [hc]
      have hc1 : parseA (Lib.cut s.data.toList [47]).1 = some (six, b) := by rw [hc]; exact hp
      have hform : ∀ (hno : ¬ okNum l2), ∀ W, Below w.heap.size w W → Calls Tryz.prog 57 #[.string s] W fun e w' => e = .returned (.tuple #[.agg (ptA false zero16 0), .int .i64 ((4 : Nat) : Int)]) ∧ Below W.heap.size W w' := fun hno W h => (hd W h).mono (by
        rintro e w' ⟨hq, hb⟩
        refine ⟨?_, hb⟩
        unfold rcR at hq
        rw [if_pos (.inr hno)] at hq
        exact hq)
      by_cases hok : okNum l2
      · obtain ⟨v0, v1, v2⟩ := num_bwd l2 hok
        have v3 := hok.2.2.2.1
        have hat : Lib.atoiAll (Lib.cut s.data.toList [47]).2.1 = .ok (numL 10 0 l2) := by rw [hc]; exact v2
        have hde : Lib.decDigits (numL 10 0 l2).toNat = (Lib.cut s.data.toList [47]).2.1 := by rw [hc]; exact v1
        have hnn : ¬ (true = false ∨ ¬ okNum l2) := by rintro (h | h); cases h; exact h hok
        by_cases hw : (widthA six : Int) < numL 10 0 l2
        · refine ⟨1, false, zero16, 0, .iface 226 (.pointer (some eR)), rfl, in0, fun W h => ?_, fun W h => ?_, NR⟩
          · exact cparse_range ea s W (hE.below h) hs hc0 six b hc1 hbl _ hat v0 v3 hde hw eR (hR.below h)
          · refine (hd W h).mono ?_
            rintro e w' ⟨hq, hb⟩
            refine ⟨?_, hb⟩
            unfold rcR at hq
            rw [if_neg hnn, if_pos hw] at hq
            exact hq
        · by_cases hcut : cutL b (numL 10 0 l2).toNat = b
          · refine ⟨0, six, b, numL 10 0 l2, .nilIface, hbl, ⟨by omega, by omega⟩, fun W h => ?_, fun W h => ?_, N0⟩
            · exact cparse_ok ea s W (hE.below h) hs hc0 six b hc1 hbl _ hat v0 v3 hde (by omega) hcut ea
            · refine (hd W h).mono ?_
              rintro e w' ⟨hq, hb⟩
              refine ⟨?_, hb⟩
              unfold rcR at hq
              rw [if_neg hnn, if_neg hw, if_pos hcut] at hq
              exact hq
          · refine ⟨8, false, zero16, 0, .iface 226 (.pointer (some eA)), rfl, in0, fun W h => ?_, fun W h => ?_, NA⟩
            · exact cparse_addr ea s W (hE.below h) hs hc0 six b hc1 hbl _ hat v0 v3 hde (by omega) hcut eA (hA.below h)
            · refine (hd W h).mono ?_
              rintro e w' ⟨hq, hb⟩
              refine ⟨?_, hb⟩
              unfold rcR at hq
              rw [if_neg hnn, if_neg hw, if_neg hcut] at hq
              exact hq
      · refine ⟨4, false, zero16, 0, .iface 226 (.pointer (some ea)), rfl, in0, fun W h => ?_, hform hok, NF⟩
        by_cases hv : ∃ v, Lib.atoiAll l2 = .ok v
        · obtain ⟨v, hv⟩ := hv
          have hat : Lib.atoiAll (Lib.cut s.data.toList [47]).2.1 = .ok v := by rw [hc]; exact hv
          by_cases h0 : v < 0
          · exact cparse_neg ea s W (hE.below h) hs hc0 six b hc1 hbl v hat h0
          · by_cases h1 : 128 < v
            · exact cparse_big ea s W (hE.below h) hs hc0 six b hc1 hbl v hat h1
            · refine cparse_other ea s W (hE.below h) hs hc0 six b hc1 hbl v hat (by omega) (by omega) ?_
              rw [hc]
              intro hd
              exact hok (num_fwd l2 v (by omega) (by omega) hd).1
        · exact cparse_nonum ea s W (hE.below h) hs hc0 six b hc1 hbl (by rw [hc]; exact fun v e => hv ⟨v, e⟩)
  · refine ⟨4, false, zero16, 0, .iface 226 (.pointer (some ea)), rfl, in0, fun W h => ?_, fun W h => ?_, NF⟩
    · exact cparse_none ea s W (hE.below h) hs (by rw [cut_noslash _ h47])
    · exact rcparse_noslash s W hs h47
theorem back_calls (ea : Addr) (six : Bool) (b : List UInt8) (hb : b.length = 16) (n : Int) (hr : rightC six b n = true) (W : World) (hE : Env ea W) :
    Calls Tryz.prog 56 #[.string (str (txtC six b n))] W fun e w' => e = .returned (.tuple #[.agg (ptA six b n), .nilIface]) ∧ Below W.heap.size W w' := by
  obtain ⟨hra, h0, h1, h2, h3⟩ := rightC_range six b n hr
  have hcut := cut_txt six b n hr
  have e : (str (txtC six b n)).data.toList = txtC six b n := rfl
  have ht := txtA_len six b
  have hd := dec_len n.toNat (by omega)
  have hdf := (dec_facts n.toNat (by omega)).2.2.2.2.2
  rw [show ((n.toNat : Nat) : Int) = n by omega] at hdf
  refine cparse_ok ea (str (txtC six b n)) W hE ?_ (by rw [e, hcut]) six b (by rw [e, hcut]; exact parse_txt six b hb hra) hb n (by rw [e, hcut]; exact hdf) h0 h2 (by rw [e, hcut]) h1 h3 ea
  rw [sz]
  unfold txtC
  rw [if_pos hr]
  simp
  omega
set_option maxHeartbeats 8000000 in
theorem cidr_parses (ea eR eA : Addr) (es : List Addr) (s : ByteArray) (c2 : Bool) (c : List UInt8) (hc : c.length = 16) (m : Int) (hm : InI64 m) (w : World) (hE : Env ea w) (he : Errs w es) (hpF : es[3]? = some ea) (hpR : es[0]? = some eR) (hpA : es[7]? = some eA) (hR : Holds w 0 eR) (hA : Holds w 7 eA) (hs : s.size ≤ 140737488351232) :
    Calls Tryz.prog 10 #[.string s, ptV c2 c m] w fun e w' => e = .returned (.bool true) ∧ Below w.heap.size w w' := by
  obtain ⟨W0, hW0⟩ : ∃ W0, W0 = w.alloc (.cells (ptA c2 c m) 74) := ⟨_, rfl⟩
  have hB0 : Below w.heap.size w W0 := by rw [hW0]; exact (Below.refl _ _).alloc (Nat.le_refl _) _
  have HW0 := Lib.hid hW0
  have HB0 := Lib.hid hB0
  have HE := Lib.hid hE
  have KA := Lib.hid (fun W hE => alive3_calls ea W hE)
  have hz1 := ptA_size c2 c m hc
  by_cases hbig : 200 < s.size
  · have hbi : (200 : Int) < (s.size : Int) := by omega
    have hsi : (s.size : Int) ≤ 140737488351232 := by omega
    show Calls Tryz.prog 10 #[.string s, .agg (ptA c2 c m)] w fun e w' => e = .returned (.bool true) ∧ Below w.heap.size w w'
    clear hE he hpF hpR hpA hR hA hs hbig hW0 hB0
    generalize ptA c2 c m = pa at *
    go_enter Tryz.func10, Tryz.ntmps10
    go_upto_region 1 with (fail)
    rw [← HW0.out]
    go_wp2_with (go_at_call 55; ((with_reducible refine (KA.out _ (HE.out.below HB0.out)).mono ?_); rintro e w1 ⟨rfl, hb1⟩; have HB1 := Lib.hid (HB0.out.trans (hb1.mono HB0.out.size)); clear hb1))
    go_ret
    exact ⟨rfl, HB1.out⟩
  · have hbi : ¬ (200 : Int) < (s.size : Int) := by omega
    have hsi : (s.size : Int) ≤ 200 := by omega
    obtain ⟨k, six, b, n, q, hbl, hn, hP, hD, hN⟩ := both_calls ea eR eA es s w hE he hpF hpR hpA hR hA (by omega)
    have HLD : Hid (∀ W, Below W0.heap.size W0 W → (loadCells ⟨w.heap.size, 0, none⟩ 18).run Tryz.prog W = .ok (ptA c2 c m) W) := Lib.hid (by rw [hW0]; exact fun W h => (cdL_of c2 c m hc w W h).2.1)
    have KP := Lib.hid hP
    have KD := Lib.hid hD
    have KN := Lib.hid hN
    have HBL := Lib.hid hbl
    have KR1 : Hid (∀ W, Calls Tryz.prog 58 #[.agg (ptA c2 c m)] W fun e w' => e = .returned (.bool (rightC c2 c m)) ∧ Below W.heap.size W w') := Lib.hid (fun W => cright_calls c2 c hc m W)
    have KR2 : Hid (∀ W, Calls Tryz.prog 59 #[.agg (ptA c2 c m)] W fun e w' => e = .returned (.bool (rightC c2 c m)) ∧ Below W.heap.size W w') := Lib.hid (fun W => rright3_calls c2 c hc m W)
    have KF1 : Hid (∀ W, Env ea W → Calls Tryz.prog 60 #[.agg (ptA c2 c m)] W fun e w' => e = .returned (.string (str (txtC c2 c m))) ∧ Below W.heap.size W w') := Lib.hid (fun W hE => cformat_calls ea c2 c hc m W hE)
    have KF2 : Hid (∀ W, Calls Tryz.prog 61 #[.agg (ptA c2 c m)] W fun e w' => e = .returned (.string (str (txtC c2 c m))) ∧ Below W.heap.size W w') := Lib.hid (fun W => rcformat_calls c2 c hc m W)
    have KB : Hid (rightC c2 c m = true → ∀ W, Env ea W → Calls Tryz.prog 56 #[.string (str (txtC c2 c m))] W fun e w' => e = .returned (.tuple #[.agg (ptA c2 c m), .nilIface]) ∧ Below W.heap.size W w') := Lib.hid (fun hr W hE => back_calls ea c2 c hc m hr W hE)
    have hqx : ∀ W, (binOp .neq 74 (.agg (ptA six b n)) (.agg (ptA six b n))).run Tryz.prog W = .ok (.bool false) W := fun W => by
      rw [(eq_cidr six six b b n n hbl hbl hn hn W).2]; simp
    have hqc : ∀ W, (binOp .eql 74 (.agg (ptA c2 c m)) (.agg (ptA c2 c m))).run Tryz.prog W = .ok (.bool true) W := fun W => by
      rw [(eq_cidr c2 c2 c c m m hc hc hm hm W).1]; simp
    have hz2 := ptA_size six b n hbl
    have HV : Hid (ptA six b n = (adCells six b ++ [Value.int .i64 n]).toArray) := Lib.hid rfl
    have HVC : Hid (ptA c2 c m = (adCells c2 c ++ [Value.int .i64 m]).toArray) := Lib.hid rfl
    have HCL := Lib.hid hc
    show Calls Tryz.prog 10 #[.string s, .agg (ptA c2 c m)] w fun e w' => e = .returned (.bool true) ∧ Below w.heap.size w w'
    clear hE he hpF hpR hpA hR hA hs hbig hW0 hB0 hP hD hN
    have hxe : ∀ (w2 w3 : World), Blk w2.heap.size (adCells six b ++ [Value.int .i64 n]) 74 w3 → (loadCells ⟨w2.heap.size, 0, none⟩ 18).run Tryz.prog w3 = .ok (ptA six b n) w3 := fun w2 w3 h => by
      rw [HV.out]
      exact h.load (P := Tryz.prog) 0 18 (adCells six b ++ [Value.int .i64 n]) (by rw [List.drop_zero, List.take_of_length_le (by rw [ptC_len _ _ _ HBL.out]; omega)]) (ptC_len _ _ _ HBL.out)
    have HXE := Lib.hid hxe
    clear hxe
    generalize ptA c2 c m = pa at *
    generalize ptA six b n = xa at *
    generalize str (txtC c2 c m) = S at *
    generalize hrr : rightC c2 c m = r at *
    cases r
    all_goals
      go_enter Tryz.func10, Tryz.ntmps10
      go_upto_region 1 with (fail)
      rw [← HW0.out]
      go_upto_region 7 with (first
        | (go_at_call 55; ((with_reducible refine (KA.out _ (HE.out.below HB0.out)).mono ?_); rintro e w1 ⟨rfl, hb1⟩; have HB1 := Lib.hid hb1; clear hb1))
        | (go_at_call 56; ((with_reducible refine (KP.out _ (HB0.out.trans (HB1.out.mono HB0.out.size))).mono ?_); rintro e w2 ⟨rfl, hb2⟩; have HB2 := Lib.hid (HB1.out.trans (hb2.mono HB1.out.size)); clear hb2))
        | (refine wp_store_blk rfl 74 (.tmp 5) (.tmp 18) rfl w2.heap.size 0 zeroCd (adCells six b ++ [Value.int .i64 n]) 74 _ rfl rfl (by rw [HV.out]; rfl) (Blk.new _ _ _ _ _ rfl rfl) (by rw [ptC_len _ _ _ HBL.out]; decide) (by rw [ptC_len _ _ _ HBL.out]; exact infoCd) (ptC_one _ _ _) (by rw [ptC_len _ _ _ HBL.out]; decide) ?_; intro w3 hk3 ha3; have hb3 := below_alt (below_own_alloc w2 _) ha3 (by simp) (fun k hk => by omega); have HK3 : Hid (Blk w2.heap.size (adCells six b ++ [Value.int .i64 n]) 74 w3) := Lib.hid (by rw [splice_all _ _ (by rw [ptC_len _ _ _ HBL.out]; decide)] at hk3; exact hk3); have HB3 := Lib.hid (HB2.out.trans (hb3.mono HB2.out.size)); clear hk3 ha3 hb3)
        | (go_at_call 57; ((with_reducible refine (KD.out _ (HB0.out.trans (HB3.out.mono HB0.out.size))).mono ?_); rintro e w4 ⟨rfl, hb4⟩; have HB4 := Lib.hid (HB3.out.trans (hb4.mono HB3.out.size)); have HK4 := Lib.hid (HK3.out.below hb4); clear hb4))
        | (refine wp_store_blk rfl 74 (.tmp 7) (.tmp 23) rfl w4.heap.size 0 zeroCd (adCells six b ++ [Value.int .i64 n]) 74 _ rfl rfl (by rw [HV.out]; rfl) (Blk.new _ _ _ _ _ rfl rfl) (by rw [ptC_len _ _ _ HBL.out]; decide) (by rw [ptC_len _ _ _ HBL.out]; exact infoCd) (ptC_one _ _ _) (by rw [ptC_len _ _ _ HBL.out]; decide) ?_; intro w5 hk5 ha5; have hb5 := below_alt (below_own_alloc w4 _) ha5 (by simp) (fun k hk => by omega); have HL5 : Hid (Blk w4.heap.size (adCells six b ++ [Value.int .i64 n]) 74 w5) := Lib.hid (by rw [splice_all _ _ (by rw [ptC_len _ _ _ HBL.out]; decide)] at hk5; exact hk5); have HB5 := Lib.hid (HB4.out.trans (hb5.mono HB4.out.size)); have HK5 := Lib.hid (HK4.out.below hb5); clear hk5 ha5 hb5))
      have HS5 : Hid (∀ W, Below w5.heap.size w5 W → (loadCells ⟨w2.heap.size, 0, none⟩ 18).run Tryz.prog W = .ok xa W ∧ (loadCells ⟨w4.heap.size, 0, none⟩ 18).run Tryz.prog W = .ok xa W ∧ (loadCells ⟨w.heap.size, 0, none⟩ 18).run Tryz.prog W = .ok pa W) := Lib.hid (fun W h => ⟨HXE.out _ _ (HK5.out.below h), HXE.out _ _ (HL5.out.below h), HLD.out W (HB5.out.trans (h.mono HB5.out.size))⟩)
      have HBW : Hid (∀ W, Below w5.heap.size w5 W → Below w.heap.size w W) := Lib.hid (fun W h => HB0.out.trans ((HB5.out.trans (h.mono HB5.out.size)).mono HB0.out.size))
      go_region_held3 (fun W : World => (loadCells ⟨w2.heap.size, 0, none⟩ 18).run Tryz.prog W = .ok xa W ∧ (loadCells ⟨w4.heap.size, 0, none⟩ 18).run Tryz.prog W = .ok xa W ∧ (loadCells ⟨w.heap.size, 0, none⟩ 18).run Tryz.prog W = .ok pa W) (first | exact HS5.out _ (below_own_drew _) | exact HS5.out _ HB10.out | exact HS5.out _ HB9.out | exact HS5.out _ HB8.out | exact HS5.out _ HB7.out | exact HS5.out _ HB6.out | go_keep) (first
        | (go_at_call 24; ((with_reducible refine (KN.out _ (HBW.out _ (below_own_drew _))).mono ?_); rintro e w6 ⟨rfl, hb6⟩; have HB6 := Lib.hid (below_drewd hb6); clear hb6))
        | (go_at_call 58; ((with_reducible refine (KR1.out _).mono ?_); rintro e w7 ⟨rfl, hb7⟩; (first | (have HB8 := Lib.hid (HB7.out.trans (hb7.mono HB7.out.size))) | (have HB7 := Lib.hid (HB6.out.trans (hb7.mono HB6.out.size)))); clear hb7))
        | (go_at_call 59; ((with_reducible refine (KR2.out _).mono ?_); rintro e w7 ⟨rfl, hb7⟩; (first | (have HB8 := Lib.hid (HB7.out.trans (hb7.mono HB7.out.size))) | (have HB7 := Lib.hid (HB6.out.trans (hb7.mono HB6.out.size)))); clear hb7))
        | (go_at_call 60; ((with_reducible refine (KF1.out _ (HE.out.below (HBW.out _ HB8.out))).mono ?_); rintro e w9 ⟨rfl, hb9⟩; have HB9 := Lib.hid (HB8.out.trans (hb9.mono HB8.out.size)); clear hb9))
        | (go_at_call 60; ((with_reducible refine (KF1.out _ (HE.out.below (HBW.out _ HB9.out))).mono ?_); rintro e w10 ⟨rfl, hb10⟩; have HB10 := Lib.hid (HB9.out.trans (hb10.mono HB9.out.size)); clear hb10))
        | (go_at_call 61; ((with_reducible refine (KF2.out _).mono ?_); rintro e w9 ⟨rfl, hb9⟩; (first | (have HB10 := Lib.hid (HB9.out.trans (hb9.mono HB9.out.size))) | (have HB9 := Lib.hid (HB8.out.trans (hb9.mono HB8.out.size)))); clear hb9)))
      all_goals (obtain ⟨la, lb, lc⟩ := HS5.out _ HB10.out)
    all_goals first
      | (go_wp2_with (go_at_call 59; ((with_reducible refine (KR2.out _).mono ?_); rintro e w11 ⟨rfl, hb11⟩; have HB11 := Lib.hid (HB10.out.trans (hb11.mono HB10.out.size)); clear hb11))
         go_ret
         exact ⟨rfl, HBW.out _ HB11.out⟩)
      | (go_wp2_with (first
           | (go_at_call 59; ((with_reducible refine (KR2.out _).mono ?_); rintro e w11 ⟨rfl, hb11⟩; have HB11 := Lib.hid (HB10.out.trans (hb11.mono HB10.out.size)); obtain ⟨ma, mb, mc⟩ := HS5.out _ HB11.out; clear hb11))
           | (go_at_call 60; ((with_reducible refine (KF1.out _ (HE.out.below (HBW.out _ HB11.out))).mono ?_); rintro e w12 ⟨rfl, hb12⟩; have HB12 := Lib.hid (HB11.out.trans (hb12.mono HB11.out.size)); clear hb12))
           | (go_at_call 56; ((with_reducible refine (KB.out (by first | trivial | rfl) _ (HE.out.below (HBW.out _ HB12.out))).mono ?_); rintro e w13 ⟨rfl, hb13⟩; have HB13 := Lib.hid (HB12.out.trans (hb13.mono HB12.out.size)); clear hb13))
           | (refine wp_store_blk rfl 74 (.tmp 9) (.tmp 55) rfl w13.heap.size 0 zeroCd (adCells c2 c ++ [Value.int .i64 m]) 74 _ rfl rfl (by rw [HVC.out]; rfl) (Blk.new _ _ _ _ _ rfl rfl) (by rw [ptC_len _ _ _ HCL.out]; decide) (by rw [ptC_len _ _ _ HCL.out]; exact infoCd) (ptC_one _ _ _) (by rw [ptC_len _ _ _ HCL.out]; decide) ?_; intro w14 hk14 ha14; have hb14 := below_alt (below_own_alloc w13 _) ha14 (by simp) (fun k hk => by omega); have HK14 : Hid (Blk w13.heap.size (adCells c2 c ++ [Value.int .i64 m]) 74 w14) := Lib.hid (by rw [splice_all _ _ (by rw [ptC_len _ _ _ HCL.out]; decide)] at hk14; exact hk14); have HB14 := Lib.hid (HB13.out.trans (hb14.mono HB13.out.size)); obtain ⟨na, nb, nc⟩ := HS5.out _ HB14.out; have l14 : (loadCells ⟨w13.heap.size, 0, none⟩ 18).run Tryz.prog w14 = .ok pa w14 := (by rw [HVC.out]; exact HK14.out.load (P := Tryz.prog) 0 18 (adCells c2 c ++ [Value.int .i64 m]) (by rw [List.drop_zero, List.take_of_length_le (by rw [ptC_len _ _ _ HCL.out]; omega)]) (ptC_len _ _ _ HCL.out)); have q14 := hqc w14; clear hk14 ha14 hb14))
         go_ret
         exact ⟨rfl, HBW.out _ HB14.out⟩)
theorem cidr_parses_row (W : World) (es : List Addr) (el : es.length = 20) (en : es.Nodup) (eh : ∀ (k g : Nat) (a : Addr), (gl ++ [20, 19])[k]? = some g → es[k]? = some a → Holds W g a)
    (ea : Addr) (hE : Env ea W) (s : ByteArray) (hs : s.size ≤ 140737488351232) (v2 : Value) (h2 : IsCidr v2) :
    Calls Tryz.prog 10 #[.string s, v2] W fun e W' => e = .returned (.bool true) ∧ Below W.heap.size W W' := by
  obtain ⟨c2, c, m, hc, hm, rfl⟩ := h2
  have he := errs20 W es el en eh
  have g0 : es[0]? = some es[0] := List.getElem?_eq_getElem (by omega)
  have g3 : es[3]? = some es[3] := List.getElem?_eq_getElem (by omega)
  have g7 : es[7]? = some es[7] := List.getElem?_eq_getElem (by omega)
  have hR := eh 0 0 _ (by decide) g0
  have hA := eh 7 7 _ (by decide) g7
  have hF := eh 3 3 _ (by decide) g3
  have hFe : es[3] = ea := by
    have h4 := hF.1.symm.trans hE.form.1
    have h5 := Option.some.inj h4
    unfold ev at h5
    injection h5 with h6 h7
    injection h7 with h8
    exact Option.some.inj h8
  have p0 : (es.take 18)[0]? = some es[0] := by rw [List.getElem?_take, if_pos (by decide)]; exact g0
  have p3 : (es.take 18)[3]? = some ea := by rw [List.getElem?_take, if_pos (by decide), ← hFe]; exact g3
  have p7 : (es.take 18)[7]? = some es[7] := by rw [List.getElem?_take, if_pos (by decide)]; exact g7
  exact cidr_parses ea _ _ _ s c2 c hc m hm W hE he p3 p0 p7 hR hA hs
end Go.Proofs.YtmcgkknpkocgoaaGreatDoor.Ad

