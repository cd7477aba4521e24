/- addr.texts, addr.noughts, and addr.Format of an address of sixteen bytes. -/
import Derived.Test.YtmcgkknpkocgoaaGreatDoorAdK
import Derived.Deep.RegionHeld3
namespace Go.Proofs.YtmcgkknpkocgoaaGreatDoor.Ad
open Go.RowKit Go.Proofs.YtmcgkknpkocgoaaGreatDoor.Mem Go.Proofs.YtmcgkknpkocgoaaGreatDoor.Num Go.Proofs.YtmcgkknpkocgoaaGreatDoor.Err Go.Proofs.YtmcgkknpkocgoaaGreatDoor.AdP
open Go.Proofs.YtmcgkknpkocgoaaGreatDoor.Head (pad pad_len adCells_one adCells_len infoAd splice_ad)
open Go.Proofs.YtmcgkknpkocgoaaGreatDoor.Addr (adV adA adCells adA_size cell_box load_box)
set_option linter.unusedVariables false
set_option linter.unusedSimpArgs false
set_option maxRecDepth 100000
attribute [-go_sem] Builtin.append_ loadCells loadCellsFrom storeCells
theorem infoStr : (Tryz.prog.info? 9).map (fun i => (i.zero, i.size, i.bytes)) = some (some (.string ByteArray.empty), 1, 16) := by kernel_rfl
theorem allStr (xs : List ByteArray) : eStr.all xs = xs.map Value.string := all_one1 _ _ xs
theorem join_calls (base : Nat) (v : Value) (xs : List ByteArray) (sep : ByteArray) (w : World) (ho : Own eStr 9 base w v xs) (hlen : (Lib.join (xs.map (·.data.toList)) sep.data.toList).length ≤ 140737488355328) (hn : xs.length ≤ 1000) :
    Calls Tryz.prog 80 #[v, .string sep] w fun e w' => e = .returned (.string (str (Lib.join (xs.map (·.data.toList)) sep.data.toList))) ∧ Below w.heap.size w w' := by
  have hr := ho.row
  obtain ⟨h1, h2⟩ := ho
  rcases h2 with ⟨rfl, h0⟩ | ⟨g, cap, cur, rfl, hg, hh, hnc, hm, hs, ht⟩
  · have : xs = [] := List.eq_nil_of_length_eq_zero h0
    subst this
    exact (Tryz.strings_Join_none none 0 sep w).mono fun e w' ⟨he, hw⟩ => ⟨he, hw ▸ Below.refl _ _⟩
  · have hc := hr.cells _ rfl
    refine Tryz.strings_Join g 0 cap xs sep w (fun j x hx => ?_) (Array.getElem?_eq_some_iff.1 hh).1 (by omega) hr.cap.1 hlen
    have := hc j (.string x) (by rw [allStr, List.getElem?_map, hx]; rfl)
    rwa [add_zero, ← Nat.zero_add j] at this
/-- The texts of groups. -/
def gtxt (b : List UInt8) (i : Nat) : List UInt8 := numb 16 20 (grp b i)
def textsL (b : List UInt8) (lo hi : Nat) : List UInt8 := Lib.join ((List.range' lo (hi - lo)).map (gtxt b)) [58]
theorem numb_len (b : Nat) : ∀ (f n : Nat), (numb b f n).length ≤ f + 1
  | 0, n => by simp [numb]
  | f + 1, n => by
    unfold numb
    split
    · simp
    · have := numb_len b f (n / b); simp; omega
theorem join_len (xs : List (List UInt8)) (m : Nat) (h : ∀ x ∈ xs, x.length ≤ m) : (Lib.join xs [58]).length ≤ xs.length * (m + 1) := by
  unfold Lib.join
  induction xs with
  | nil => simp
  | cons x xs ih =>
    cases xs with
    | nil => simp [List.intercalate]; have := h x (by simp); omega
    | cons y r =>
      have h1 := ih (fun z hz => h z (by simp [hz]))
      have h2 := h x (by simp)
      have e : [58].intercalate (x :: y :: r) = x ++ [58] ++ [58].intercalate (y :: r) := by simp [List.intercalate, List.intersperse]
      rw [e]
      simp only [List.length_append, List.length_cons, List.length_nil] at h1 ⊢
      have : (r.length + 1 + 1) * (m + 1) = (r.length + 1) * (m + 1) + (m + 1) := by rw [Nat.succ_mul]
      omega
theorem one_str (x : ByteArray) : (#[Value.string x] : Array Value) = (eStr.all [x]).toArray := rfl
set_option maxHeartbeats 1000000 in
theorem texts_calls (ea : Addr) (six : Bool) (b : List UInt8) (hb : b.length = 16) (lo hi : Nat) (hhi : hi ≤ 8) (w : World) (hE : Env ea w) :
    Calls Tryz.prog 82 #[adV six b, .int .i64 (lo : Int), .int .i64 (hi : Int)] w fun e w' => e = .returned (.string (str (textsL b lo hi))) ∧ Below w.heap.size w w' := by
  have hld : ∀ W, Below (w.alloc (.cells (adA six b) 24)).heap.size (w.alloc (.cells (adA six b) 24)) W → (loadCells ⟨w.heap.size, 0, none⟩ 17).run Tryz.prog W = .ok (adA six b) W := fun W h =>
    load_box w W (adCells six b) (adCells six b) 24 0 17 (by rw [List.drop_zero, List.take_of_length_le (by rw [adCells_len _ _ hb]; omega)]) (adCells_len _ _ hb) h
  have HLD := Lib.hid hld
  have KA := Lib.hid (fun i hi W => at_calls six b hb i hi W)
  have KF := Lib.hid (fun i W hE => fmt16 ea (grp b i) (grp_lt b i) W hE)
  have hEa := hE.alloc (.cells (adA six b) 24)
  have HE := Lib.hid (fun W (h : Below (w.alloc (.cells (adA six b) 24)).heap.size (w.alloc (.cells (adA six b) 24)) W) => hEa.below h)
  have HBD : Hid (∀ W, Below (w.alloc (.cells (adA six b) 24)).heap.size (w.alloc (.cells (adA six b) 24)) W → Below w.heap.size w W) := Lib.hid (fun W h => below_allocd h)
  have hhi8 : (hi : Int) ≤ 8 := by omega
  have HH := Lib.hid hhi
  have hsz := adA_size six b hb
  clear hld hE hEa hhi
  show Calls Tryz.prog 82 #[.agg (adA six b), .int .i64 (lo : Int), .int .i64 (hi : Int)] w fun e w' => e = .returned (.string (str (textsL b lo hi))) ∧ Below w.heap.size w w'
  have KA : Hid (∀ (i : Nat), i < 8 → ∀ W, Calls Tryz.prog 125 #[.agg (adA six b), .int .i64 (i : Int)] W fun e w' => e = .returned (.int .i64 (grp b i : Int)) ∧ Below W.heap.size W w') := KA
  generalize adA six b = ca at *
  go_enter Tryz.func82, Tryz.ntmps82
  go_wp2
  obtain ⟨W0, hW0⟩ : ∃ W0, W0 = w.alloc (.cells ca 24) := ⟨_, rfl⟩
  rw [← hW0] at HLD HE HBD ⊢
  clear hW0
  go_loopw [7, 8] (fun v iv wr => ∃ (i k : Nat) (xs : List ByteArray), iv = .int .i64 (i : Int) ∧ Hid (i = lo + k ∧ (lo + k ≤ hi ∨ k = 0)) ∧ Own eStr 9 W0.heap.size wr v xs ∧ Hid (xs = (List.range' lo k).map (fun i => str (gtxt b i))) ∧ Below W0.heap.size W0 wr) (fun _ iv _ => hi - (intOf iv).toNat)
  case atStart => exact ⟨lo, 0, [], rfl, Lib.hid ⟨rfl, .inr rfl⟩, Own.nil _ _ _ _, Lib.hid rfl, Below.refl _ _⟩
  case round =>
    obtain ⟨i, k, xs, rfl, HK, ho, HX, hb⟩ := hrel
    have HO := Lib.hid ho
    have HB := Lib.hid hb
    clear ho hb
    have HXL := Lib.hid (show xs.length = k by rw [HX.out]; simp)
    by_cases hlt : i < hi
    · have hl := HLD.out wr HB.out
      have KA1 := Lib.hid (KA.out i (by have := HH.out; omega))
      have KF1 := Lib.hid (KF.out i)
      have hk8 := Lib.hid (show k ≤ 8 by have := HH.out; have := HK.out; omega)
      have hgi : (0 : Int) ≤ (grp b i : Int) := by omega
      have hlti : (i : Int) < (hi : Int) := by omega
      have HK2 := Lib.hid (show i + 1 = lo + (k + 1) ∧ (lo + (k + 1) ≤ hi ∨ k + 1 = 0) by have := HK.out; omega)
      have HX2 := Lib.hid (show xs ++ [str (gtxt b i)] = (List.range' lo (k + 1)).map (fun i => str (gtxt b i)) by
        rw [List.range'_concat, List.map_append, ← HX.out, Nat.one_mul, ← HK.out.1]; rfl)
      change Hid (∀ W, Env ea W → Calls Tryz.prog 126 #[.int .i64 (grp b i : Int), .int .i64 16] W fun e w' => e = .returned (.string (str (gtxt b i))) ∧ Below W.heap.size W w') at KF1
      clear HK HX
      generalize str (gtxt b i) = s at *
      generalize grp b i = G at *
      go_wp2_with (first
        | (go_at_call 125; ((with_reducible refine (KA1.out _).mono ?_); rintro e w2 ⟨rfl, hb2⟩; have HO2 := Lib.hid (HO.out.below hb2); have HB2 := Lib.hid (HB.out.trans (hb2.mono HB.out.size)); clear hb2))
        | (go_at_call 126; ((with_reducible refine (KF1.out _ (HE.out _ HB2.out)).mono ?_); rintro e w3 ⟨rfl, hb3⟩; have HO3 := Lib.hid (HO2.out.below hb3); have HB3 := Lib.hid (HB2.out.trans (hb3.mono HB2.out.size)); clear hb3))
        | (at_builtin; refine wp_append (E := eStr) W0.heap.size rfl (.tmp 15) (.tmp 20) 96 9 _ 16 rfl Tryz.underlying96 infoStr rfl (by decide) _ _ xs [s] rfl rfl (HO3.out.alloc _) (Own.lit w3 0 eStr 9 [s] 1 rfl _ (one_str _) (Nat.zero_le _) (by simp)).row (size_alloc_le HB3.out _) (by have := HXL.out; have := hk8.out; simp; omega) ?_; intro v1 w4 ho4 hg4 hat4))
      go_roundw
      case rel => exact ⟨i + 1, k + 1, xs ++ [s], by go_num, HK2, ho4, HX2, below_app (HB3.out.alloc HB3.out.size _) (size_alloc_le HB3.out _) (HO3.out.alloc _) hg4⟩
      case measure => simp [intOf]; omega
    · have hge : (hi : Int) ≤ (i : Int) := by omega
      have hkk : k = hi - lo := by have := HK.out; omega
      have hmap : xs.map (·.data.toList) = (List.range' lo (hi - lo)).map (gtxt b) := by
        rw [HX.out, hkk, List.map_map]; rfl
      have hk8 : k ≤ 8 := by have := HH.out; omega
      have KJ := Lib.hid (fun v W (h : Own eStr 9 W0.heap.size W v xs) => join_calls W0.heap.size v xs ⟨#[58]⟩ W h (by
        rw [hmap]
        refine Nat.le_trans (join_len _ 21 (fun x hx => ?_)) ?_
        · obtain ⟨j, _, rfl⟩ := List.mem_map.1 hx
          exact numb_len _ _ _
        · rw [List.length_map, List.length_range']; omega) (by have := HXL.out; omega))
      rw [hmap] at KJ
      change Hid (∀ v W, Own eStr 9 W0.heap.size W v xs → Calls Tryz.prog 80 #[v, .string ⟨#[58]⟩] W fun e w' => e = .returned (.string (str (textsL b lo hi))) ∧ Below W.heap.size W w') at KJ
      clear hmap hkk hk8
      generalize hs : str (textsL b lo hi) = s at KJ
      have HS := Lib.hid hs
      clear hs
      go_wp2_with (go_at_call 80; ((with_reducible refine (KJ.out _ _ HO.out).mono ?_); rintro e w2 ⟨rfl, hb2⟩; have HB2 := Lib.hid (HB.out.trans (hb2.mono HB.out.size)); clear hb2))
      go_ret
      exact ⟨by rw [HS.out]; rfl, HBD.out _ HB2.out⟩
/-- The longest row of groups of noughts behind so many groups: from where, how many; and the row that runs. -/
def nz (b : List UInt8) : Nat → Nat × Nat × Nat
  | 0 => (0, 0, 0)
  | i + 1 => if (nz b i).2.1 < (if grp b i = 0 then (nz b i).2.2 + 1 else 0) then (i + 1 - (if grp b i = 0 then (nz b i).2.2 + 1 else 0), (if grp b i = 0 then (nz b i).2.2 + 1 else 0), (if grp b i = 0 then (nz b i).2.2 + 1 else 0))
    else ((nz b i).1, (nz b i).2.1, (if grp b i = 0 then (nz b i).2.2 + 1 else 0))
theorem nz_le (b : List UInt8) : ∀ i, (nz b i).1 + (nz b i).2.1 ≤ i ∧ (nz b i).2.2 ≤ i
  | 0 => by simp [nz]
  | i + 1 => by
    have ih := nz_le b i
    unfold nz
    by_cases hg : grp b i = 0
    · simp only [if_pos hg]
      split <;> simp <;> omega
    · simp only [if_neg hg]
      rw [if_neg (by omega)]
      simp; omega
set_option maxHeartbeats 1000000 in
theorem noughts_calls (six : Bool) (b : List UInt8) (hb : b.length = 16) (w : World) :
    Calls Tryz.prog 81 #[adV six b] w fun e w' => e = .returned (.tuple #[.int .i64 ((nz b 8).1 : Int), .int .i64 ((nz b 8).2.1 : Int)]) ∧ Below w.heap.size w w' := by
  have hld : ∀ W, Below (w.alloc (.cells (adA six b) 24)).heap.size (w.alloc (.cells (adA six b) 24)) W → (loadCells ⟨w.heap.size, 0, none⟩ 17).run Tryz.prog W = .ok (adA six b) W := fun W h =>
    load_box w W (adCells six b) (adCells six b) 24 0 17 (by rw [List.drop_zero, List.take_of_length_le (by rw [adCells_len _ _ hb]; omega)]) (adCells_len _ _ hb) h
  have HLD := Lib.hid hld
  have KA : Hid (∀ (i : Nat), i < 8 → ∀ W, Calls Tryz.prog 125 #[.agg (adA six b), .int .i64 (i : Int)] W fun e w' => e = .returned (.int .i64 (grp b i : Int)) ∧ Below W.heap.size W w') := Lib.hid (fun i hi W => at_calls six b hb i hi W)
  have HBD : Hid (∀ W, Below (w.alloc (.cells (adA six b) 24)).heap.size (w.alloc (.cells (adA six b) 24)) W → Below w.heap.size w W) := Lib.hid (fun W h => below_allocd h)
  have hsz := adA_size six b hb
  clear hld
  show Calls Tryz.prog 81 #[.agg (adA six b)] w fun e w' => e = .returned (.tuple #[.int .i64 ((nz b 8).1 : Int), .int .i64 ((nz b 8).2.1 : Int)]) ∧ Below w.heap.size w w'
  generalize adA six b = ca at *
  go_enter Tryz.func81, Tryz.ntmps81
  go_wp2
  obtain ⟨W0, hW0⟩ : ∃ W0, W0 = w.alloc (.cells ca 24) := ⟨_, rfl⟩
  rw [← hW0] at HLD HBD ⊢
  clear hW0
  go_loopw [4, 5, 6, 8] (fun fv mv rv iv wr => ∃ (i f m r : Nat), iv = .int .i64 (i : Int) ∧ fv = .int .i64 (f : Int) ∧ mv = .int .i64 (m : Int) ∧ rv = .int .i64 (r : Int) ∧ i ≤ 8 ∧ Hid (nz b i = (f, m, r)) ∧ Hid (Below W0.heap.size W0 wr)) (fun _ _ _ iv _ => 8 - (intOf iv).toNat)
  case atStart => exact ⟨0, 0, 0, 0, rfl, rfl, rfl, rfl, by omega, Lib.hid rfl, Lib.hid (Below.refl _ _)⟩
  case round =>
    obtain ⟨i, f, m, r, rfl, rfl, rfl, rfl, hi, HN, HB⟩ := hrel
    by_cases hlt : i < 8
    · have hl := HLD.out wr HB.out
      have KA1 := Lib.hid (KA.out i hlt)
      have hn := nz_le b i
      rw [HN.out] at hn
      simp only at hn
      have hri : (r : Int) ≤ 8 := by omega
      have hmi : (m : Int) ≤ 8 := by omega
      have hii : (i : Int) < 8 := by omega
      by_cases hg : grp b i = 0
      · rw [hg] at KA1
        by_cases hm : m < r + 1
        · have HN2 := Lib.hid (show nz b (i + 1) = (i + 1 - (r + 1), r + 1, r + 1) by rw [nz, HN.out]; simp only [if_pos hg]; rw [if_pos hm])
          have HC := Lib.hid (show ((i : Int) + 1 - ((r : Int) + 1)) = ((i + 1 - (r + 1) : Nat) : Int) by omega)
          have hmr : (m : Int) < (r : Int) + 1 := by omega
          clear hn hg hm HN
          go_wp2_with (go_at_call 125; ((with_reducible refine (KA1.out _).mono ?_); rintro e w2 ⟨rfl, hb2⟩; have HB2 := Lib.hid (HB.out.trans (hb2.mono HB.out.size)); clear hb2))
          go_roundw
          case rel => exact ⟨i + 1, i + 1 - (r + 1), r + 1, r + 1, by go_num, by rw [HC.out], by go_num, by go_num, by omega, HN2, HB2⟩
          case measure => simp [intOf]; omega
        · have HN2 := Lib.hid (show nz b (i + 1) = (f, m, r + 1) by rw [nz, HN.out]; simp only [if_pos hg]; rw [if_neg hm])
          have hmr : (r : Int) + 1 ≤ (m : Int) := by omega
          clear hn hg hm HN
          go_wp2_with (go_at_call 125; ((with_reducible refine (KA1.out _).mono ?_); rintro e w2 ⟨rfl, hb2⟩; have HB2 := Lib.hid (HB.out.trans (hb2.mono HB.out.size)); clear hb2))
          go_roundw
          case rel => exact ⟨i + 1, f, m, r + 1, by go_num, rfl, rfl, by go_num, by omega, HN2, HB2⟩
          case measure => simp [intOf]; omega
      · have HN2 := Lib.hid (show nz b (i + 1) = (f, m, 0) by rw [nz, HN.out]; simp only [if_neg hg]; rw [if_neg (by omega)])
        have hg0 : ((grp b i : Int) == 0) = false := beq_eq_false_iff_ne.mpr (by omega)
        have hg1 : ((grp b i : Int) != 0) = true := bne_iff_ne.mpr (by omega)
        have HG := Lib.hid hg
        clear hn hg HN
        generalize grp b i = G at KA1 hg0 hg1
        go_wp2_with (go_at_call 125; ((with_reducible refine (KA1.out _).mono ?_); rintro e w2 ⟨rfl, hb2⟩; have HB2 := Lib.hid (HB.out.trans (hb2.mono HB.out.size)); clear hb2))
        go_roundw
        case rel => exact ⟨i + 1, f, m, 0, by go_num, rfl, rfl, rfl, by omega, HN2, HB2⟩
        case measure => simp [intOf]; omega
    · obtain rfl : i = 8 := by omega
      go_wp2
      go_ret2
      exact ⟨by rw [HN.out]; rfl, HBD.out _ HB.out⟩
end Go.Proofs.YtmcgkknpkocgoaaGreatDoor.Ad
