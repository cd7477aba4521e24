/- addr.Format of every address; addr.Bits. -/
import Derived.Test.YtmcgkknpkocgoaaGreatDoorAf1
namespace Go.Proofs.YtmcgkknpkocgoaaGreatDoor.Ad
open Go.RowKit Go.Proofs.YtmcgkknpkocgoaaGreatDoor.Mem Go.Proofs.YtmcgkknpkocgoaaGreatDoor.Num Go.Proofs.YtmcgkknpkocgoaaGreatDoor.Err Go.Proofs.YtmcgkknpkocgoaaGreatDoor.AdP
open Go.Proofs.YtmcgkknpkocgoaaGreatDoor.Head (pad pad_len adCells_one adCells_len infoAd splice_ad)
open Go.Proofs.YtmcgkknpkocgoaaGreatDoor.Addr (adV adA adCells adA_size cell_box load_box cell_six)
set_option linter.unusedVariables false
set_option linter.unusedSimpArgs false
set_option maxRecDepth 100000
attribute [-go_sem] Builtin.append_ loadCells loadCellsFrom storeCells
theorem cell_byte (six : Bool) (b : List UInt8) (hb : b.length = 16) (w W : World) (h : Below (w.alloc (.cells (adA six b) 24)).heap.size (w.alloc (.cells (adA six b) 24)) W) (i : Nat) (hi : i < 16) :
    W.cell? ⟨w.heap.size, 1 + i, none⟩ = some (.int .u8 ((b[i]'(by omega)).toNat : Int)) := by
  refine cell_box w _ (adCells six b) 24 h (1 + i) _ ?_
  unfold adCells
  rw [Nat.add_comm, List.getElem?_cons_succ, List.getElem?_map, List.getElem?_eq_getElem (by omega)]
  rfl
theorem load_ad (six : Bool) (b : List UInt8) (hb : b.length = 16) (w W : World) (h : Below (w.alloc (.cells (adA six b) 24)).heap.size (w.alloc (.cells (adA six b) 24)) W) :
    (loadCells ⟨w.heap.size, 0, none⟩ 17).run Tryz.prog W = .ok (adA six b) W :=
  load_box w W (adCells six b) (adCells six b) 24 0 17 (by rw [List.drop_zero, List.take_of_length_le (by rw [adCells_len _ _ hb]; omega)]) (adCells_len _ _ hb) h
theorem format_not (six : Bool) (b : List UInt8) (hb : b.length = 16) (hr : rightA six b = false) (w : World) :
    Calls Tryz.prog 15 #[adV six b] w fun e w' => e = .returned (.string ByteArray.empty) ∧ Below w.heap.size w w' := by
  have KR := Lib.hid (fun W => right_calls' six b hb W)
  rw [hr] at KR
  have hl0 := load_ad six b hb w _ (Below.refl _ _)
  have hsz := adA_size six b hb
  change Hid (∀ W, Calls Tryz.prog 16 #[.agg (adA six b)] W fun e w' => e = .returned (.bool false) ∧ Below W.heap.size W w') at KR
  show Calls Tryz.prog 15 #[.agg (adA six b)] w fun e w' => e = .returned (.string ByteArray.empty) ∧ Below w.heap.size w w'
  generalize adA six b = ca at *
  go_enter Tryz.func15, Tryz.ntmps15
  go_wp2_with (go_at_call 16; ((with_reducible refine (KR.out _).mono ?_); rintro e w1 ⟨rfl, hb1⟩; have HB1 := Lib.hid (below_allocd hb1); clear hb1))
  go_ret
  exact ⟨rfl, HB1.out⟩
theorem join_len' (c : UInt8) (xs : List (List UInt8)) (m : Nat) (h : ∀ x ∈ xs, x.length ≤ m) : (Lib.join xs [c]).length ≤ xs.length * (m + 1) := by
  induction xs with
  | nil => simp [Lib.join_nil]
  | cons x xs ih =>
    cases xs with
    | nil => rw [Lib.join_one]; have := h x (by simp); simp; omega
    | cons y r =>
      have h1 := ih (fun z hz => h z (by simp at hz ⊢; right; exact hz))
      have h2 := h x (by simp)
      rw [join_two]
      simp only [List.length_append, List.length_cons, List.length_nil] at h1 ⊢
      have : (r.length + 1 + 1) * (m + 1) = (r.length + 1) * (m + 1) + (m + 1) := by rw [Nat.succ_mul]
      omega
set_option maxHeartbeats 1000000 in
theorem format_four (ea : Addr) (b : List UInt8) (hb : b.length = 16) (hr : rightA false b = true) (w : World) (hE : Env ea w) :
    Calls Tryz.prog 15 #[adV false b] w fun e w' => e = .returned (.string (str (txt4 b))) ∧ Below w.heap.size w w' := by
  have KR := Lib.hid (fun W => right_calls' false b hb W)
  rw [hr] at KR
  have HC := Lib.hid (fun W h i hi => cell_byte false b hb w W h i hi)
  have H6 := Lib.hid (fun W h => cell_six w W false b 24 h)
  have hl0 := load_ad false b hb w _ (Below.refl _ _)
  have hsz := adA_size false b hb
  have KI := Lib.hid (fun (x : UInt8) W hE => itoa_calls ea x.toNat (by have := x.toNat_lt; omega) W hE)
  have hEa := hE.alloc (.cells (adA false b) 24)
  have HE := Lib.hid (fun W (h : Below (w.alloc (.cells (adA false b) 24)).heap.size (w.alloc (.cells (adA false b) 24)) W) => hEa.below h)
  have HBD : Hid (∀ W, Below (w.alloc (.cells (adA false b) 24)).heap.size (w.alloc (.cells (adA false b) 24)) W → Below w.heap.size w W) := Lib.hid (fun W h => below_allocd h)
  have HL := Lib.hid hb
  change Hid (∀ W, Calls Tryz.prog 16 #[.agg (adA false b)] W fun e w' => e = .returned (.bool true) ∧ Below W.heap.size W w') at KR
  clear hE hEa hr
  show Calls Tryz.prog 15 #[.agg (adA false b)] w fun e w' => e = .returned (.string (str (txt4 b))) ∧ Below w.heap.size w w'
  generalize adA false b = ca at *
  go_enter Tryz.func15, Tryz.ntmps15
  go_wp2_with (go_at_call 16; ((with_reducible refine (KR.out _).mono ?_); rintro e w1 ⟨rfl, hb1⟩; have c6 := H6.out _ hb1; have HB1 := Lib.hid hb1; clear hb1))
  clear c6
  go_loopw [3, 5, 19] (fun v xv iv wr => ∃ (i : Nat) (xs : List ByteArray), iv = .int .i64 (i : Int) ∧ i ≤ 4 ∧ Own eStr 9 w1.heap.size wr v xs ∧ Hid (xs = (b.take i).map (fun x => str (numb 10 20 x.toNat))) ∧ Below w1.heap.size w1 wr) (fun _ _ iv _ => 4 - (intOf iv).toNat)
  case atStart => exact ⟨0, [], rfl, by omega, Own.nil _ _ _ _, Lib.hid rfl, Below.refl _ _⟩
  case round =>
    obtain ⟨i, xs, rfl, hi4, ho, HX, hb2⟩ := hrel
    have HO := Lib.hid ho
    have HB := Lib.hid (HB1.out.trans (hb2.mono HB1.out.size))
    have HBW := Lib.hid hb2
    clear ho hb2
    have HXL := Lib.hid (show xs.length = i by rw [HX.out]; have := HL.out; simp; omega)
    by_cases hlt : i < 4
    · have hc := HC.out wr HB.out i (by omega)
      have KI1 := Lib.hid (KI.out (b[i]'(by have := HL.out; omega)))
      have HX2 := Lib.hid (show xs ++ [str (Lib.decDigits (b[i]'(by have := HL.out; omega)).toNat)] = (b.take (i + 1)).map (fun x => str (numb 10 20 x.toNat)) by
        rw [List.take_add_one, List.getElem?_eq_getElem (by have := HL.out; omega), List.map_append, ← HX.out]
        simp only [Option.toList_some, List.map_cons, List.map_nil]
        rw [numb_dec 20 _ (Nat.lt_trans (UInt8.toNat_lt _) (by decide))])
      have hx0 : (0 : Int) ≤ ((b[i]'(by have := HL.out; omega)).toNat : Int) := by omega
      have hx1 := (b[i]'(by have := HL.out; omega)).toNat_lt
      have hx2 : ((b[i]'(by have := HL.out; omega)).toNat : Int) < 256 := by omega
      clear hx1
      have hii : (i : Int) < 4 := by omega
      clear HX
      generalize str (Lib.decDigits (b[i]'(by have := HL.out; omega)).toNat) = s at *
      generalize (b[i]'(by have := HL.out; omega)).toNat = X at *
      go_wp2_with (first
        | (go_at_call 79; ((with_reducible refine (KI1.out _ (HE.out _ HB.out)).mono ?_); rintro e w3 ⟨rfl, hb3⟩; have HO3 := Lib.hid (HO.out.below hb3); have HB3 := Lib.hid (HBW.out.trans (hb3.mono HBW.out.size)); clear hb3))
        | (at_builtin; refine wp_append (E := eStr) w1.heap.size rfl (.tmp 23) (.tmp 27) 96 9 _ 16 rfl Tryz.underlying96 infoStr rfl (by decide) _ _ xs [s] rfl rfl (HO3.out.alloc _) (Own.lit w3 0 eStr 9 [s] 1 rfl _ (one_str _) (Nat.zero_le _) (by simp)).row (size_alloc_le HB3.out _) (by have := HXL.out; simp; omega) ?_; intro v1 w4 ho4 hg4 hat4))
      go_roundw
      case rel => exact ⟨i + 1, xs ++ [s], by go_num, by omega, ho4, HX2, below_app (HB3.out.alloc HB3.out.size _) (size_alloc_le HB3.out _) (HO3.out.alloc _) hg4⟩
      case measure => simp [intOf]; omega
    · obtain rfl : i = 4 := by omega
      have hmap : xs.map (·.data.toList) = (b.take 4).map (fun x => numb 10 20 x.toNat) := by
        rw [HX.out, List.map_map]; rfl
      have KJ := Lib.hid (fun v W (h : Own eStr 9 w1.heap.size W v xs) => join_calls w1.heap.size v xs ⟨#[46]⟩ W h (by
        rw [hmap]
        refine Nat.le_trans (join_len' 46 _ 21 (fun x hx => ?_)) ?_
        · obtain ⟨j, _, rfl⟩ := List.mem_map.1 hx
          exact numb_len _ _ _
        · rw [List.length_map, List.length_take]; omega) (by have := HXL.out; omega))
      rw [hmap] at KJ
      change Hid (∀ v W, Own eStr 9 w1.heap.size W v xs → Calls Tryz.prog 80 #[v, .string ⟨#[46]⟩] W fun e w' => e = .returned (.string (str (txt4 b))) ∧ Below W.heap.size W w') at KJ
      clear hmap
      generalize hs : str (txt4 b) = s at KJ
      have HS := Lib.hid hs
      clear hs
      go_wp2_with (go_at_call 80; ((with_reducible refine (KJ.out _ _ HO.out).mono ?_); rintro e w2 ⟨rfl, hb2⟩; have HB2 := Lib.hid (HB.out.trans (hb2.mono HB.out.size)); clear hb2))
      go_ret
      exact ⟨by rw [HS.out]; rfl, HBD.out _ HB2.out⟩
/-- The text of an address. -/
def txtA (six : Bool) (b : List UInt8) : List UInt8 := if rightA six b = true then (if six = true then fmt6 b else txt4 b) else []
theorem format_calls (ea : Addr) (six : Bool) (b : List UInt8) (hb : b.length = 16) (w : World) (hE : Env ea w) :
    Calls Tryz.prog 15 #[adV six b] w fun e w' => e = .returned (.string (str (txtA six b))) ∧ Below w.heap.size w w' := by
  unfold txtA
  by_cases hr : rightA six b = true
  · rw [if_pos hr]
    cases six with
    | true => exact format_six ea b hb w hE
    | false => exact format_four ea b hb hr w hE
  · rw [if_neg hr]
    exact format_not six b hb (by simpa using hr) w
theorem parse_txt (six : Bool) (b : List UInt8) (hb : b.length = 16) (hr : rightA six b = true) : parseA (txtA six b) = some (six, b) := by
  unfold txtA
  rw [if_pos hr]
  cases six with
  | true => exact parse_fmt6 b hb
  | false => exact parse_fmt4 b hb hr
theorem txtA_len (six : Bool) (b : List UInt8) : (txtA six b).length ≤ 500 := by
  unfold txtA
  split
  · cases six with
    | true =>
      show (fmt6 b).length ≤ 500
      have hn := nz_le b 8
      unfold fmt6
      split
      · exact Nat.le_trans (textsL_len b 0 8 (by omega)) (by omega)
      · have q1 := textsL_len b 0 (nz b 8).1 (by omega)
        have q2 := textsL_len b ((nz b 8).1 + (nz b 8).2.1) 8 (by omega)
        simp; omega
    | false =>
      show (txt4 b).length ≤ 500
      unfold txt4
      refine Nat.le_trans (join_len' 46 _ 21 (fun x hx => ?_)) ?_
      · obtain ⟨j, _, rfl⟩ := List.mem_map.1 hx
        exact numb_len _ _ _
      · rw [List.length_map, List.length_take]; omega
  · simp
theorem bits_calls (six : Bool) (b : List UInt8) (hb : b.length = 16) (w : World) :
    Calls Tryz.prog 20 #[adV six b] w fun e w' => e = .returned (.int .i64 (if six = true then 128 else 32)) ∧ Below w.heap.size w w' := by
  have KS : Hid (∀ W, Calls Tryz.prog 88 #[.agg (adA six b)] W fun e w' => e = .returned (.int .i64 (if six = true then 16 else 4)) ∧ Below W.heap.size W w') := Lib.hid (fun W => by
    have c0 := cell_six W (W.alloc (.cells (adA six b) 24)) six b 24 (Below.refl _ _)
    have hsz := adA_size six b hb
    generalize adA six b = ca at *
    have HB := Lib.hid ((Below.refl W.heap.size W).alloc (Nat.le_refl _) (.cells ca 24))
    cases six with
    | true =>
      go_enter Tryz.func88, Tryz.ntmps88
      go_wp2
      go_ret
      exact ⟨rfl, HB.out⟩
    | false =>
      go_enter Tryz.func88, Tryz.ntmps88
      go_wp2
      go_ret
      exact ⟨rfl, HB.out⟩)
  have hsz := adA_size six b hb
  have hl0 := load_ad six b hb w _ (Below.refl _ _)
  show Calls Tryz.prog 20 #[.agg (adA six b)] w fun e w' => e = .returned (.int .i64 (if six = true then 128 else 32)) ∧ Below w.heap.size w w'
  generalize adA six b = ca at *
  cases six with
  | true =>
    go_enter Tryz.func20, Tryz.ntmps20
    go_wp2_with (go_at_call 88; ((with_reducible refine (KS.out _).mono ?_); rintro e w1 ⟨rfl, hb1⟩; have HB1 := Lib.hid hb1; clear hb1))
    go_ret
    first | exact ⟨rfl, HB1.out⟩ | exact ⟨rfl, below_allocd HB1.out⟩
  | false =>
    go_enter Tryz.func20, Tryz.ntmps20
    go_wp2_with (go_at_call 88; ((with_reducible refine (KS.out _).mono ?_); rintro e w1 ⟨rfl, hb1⟩; have HB1 := Lib.hid hb1; clear hb1))
    go_ret
    first | exact ⟨rfl, HB1.out⟩ | exact ⟨rfl, below_allocd HB1.out⟩
end Go.Proofs.YtmcgkknpkocgoaaGreatDoor.Ad
