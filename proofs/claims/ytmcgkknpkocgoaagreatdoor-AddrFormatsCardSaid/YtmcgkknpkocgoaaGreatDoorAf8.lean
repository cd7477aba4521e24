/- linkboyref02.Format: the whole. -/
import Derived.Test.YtmcgkknpkocgoaaGreatDoorAf7
import Derived.Deep.DeepCutAuto
namespace Go.Proofs.YtmcgkknpkocgoaaGreatDoor.Ad
open Go.RowKit Go.Proofs.YtmcgkknpkocgoaaGreatDoor.Mem Go.Proofs.YtmcgkknpkocgoaaGreatDoor.Num Go.Proofs.YtmcgkknpkocgoaaGreatDoor.Err Go.Proofs.YtmcgkknpkocgoaaGreatDoor.AdP
open Go.Proofs.YtmcgkknpkocgoaaGreatDoor.Head (pad pad_len adCells_one adCells_len infoAd splice_ad)
open Go.Proofs.YtmcgkknpkocgoaaGreatDoor.Addr (adV adA adCells adA_size cell_box load_box cell_six)
set_option linter.unusedVariables false
set_option linter.unusedSimpArgs false
set_option maxRecDepth 100000
attribute [-go_sem] Builtin.append_ loadCells loadCellsFrom storeCells
/-- The text of the first bytes. -/
def t4 (b : List UInt8) (i : Nat) : List UInt8 := Lib.join ((b.take i).map (fun x => numb 10 20 x.toNat)) [46]
theorem t4_succ (b : List UInt8) (i : Nat) (h : i < b.length) : t4 b (i + 1) = t4 b i ++ (if 0 < i then [46] else []) ++ numb 10 20 (b[i]).toNat := by
  unfold t4
  rw [List.take_add_one, List.getElem?_eq_getElem h, List.map_append]
  simp only [Option.toList_some, List.map_cons, List.map_nil]
  rw [join_snoc]
  by_cases h0 : 0 < i
  · rw [if_neg, if_pos h0]
    intro e
    have := congrArg List.length e
    rw [List.length_map, List.length_take, List.length_nil] at this; omega
  · obtain rfl : i = 0 := by omega
    rw [if_pos (by simp), if_neg h0]; simp [Lib.join_nil]
theorem t4_len (b : List UInt8) (i : Nat) (h : i ≤ 4) : (t4 b i).length ≤ 200 := by
  unfold t4
  refine Nat.le_trans (join_len' 46 _ 21 (fun x hx => ?_)) ?_
  · obtain ⟨j, _, rfl⟩ := List.mem_map.1 hx
    exact numb_len _ _ _
  · rw [List.length_map, List.length_take]; omega
theorem rformat_not (six : Bool) (b : List UInt8) (hb : b.length = 16) (hr : rightA six b = false) (w : World) :
    Calls Tryz.prog 18 #[adV six b] w fun e w' => e = .returned (.string ByteArray.empty) ∧ Below w.heap.size w w' := by
  have KR := Lib.hid (fun W => rright_calls' six b hb W)
  rw [hr] at KR
  have hl0 := load_ad six b hb w _ (Below.refl _ _)
  have hsz := adA_size six b hb
  change Hid (∀ W, Calls Tryz.prog 17 #[.agg (adA six b)] W fun e w' => e = .returned (.bool false) ∧ Below W.heap.size W w') at KR
  show Calls Tryz.prog 18 #[.agg (adA six b)] w fun e w' => e = .returned (.string ByteArray.empty) ∧ Below w.heap.size w w'
  generalize adA six b = ca at *
  go_enter Tryz.func18, Tryz.ntmps18
  go_wp2_with (go_at_call 17; ((with_reducible refine (KR.out _).mono ?_); rintro e w1 ⟨rfl, hb1⟩; have HB1 := Lib.hid (below_allocd hb1); clear hb1))
  go_ret
  exact ⟨rfl, HB1.out⟩
set_option maxHeartbeats 4000000 in
theorem rformat_six (b : List UInt8) (hb : b.length = 16) (w : World) :
    Calls Tryz.prog 18 #[adV true b] w fun e w' => e = .returned (.string (str (fmt6 b))) ∧ Below w.heap.size w w' := by
  have KR : Hid (∀ W, Calls Tryz.prog 17 #[.agg (adA true b)] W fun e w' => e = .returned (.bool true) ∧ Below W.heap.size W w') := Lib.hid (fun W => rright_calls' true b hb W)
  have H6 := Lib.hid (fun W h => cell_six w W true b 24 h)
  have hl0 := load_ad true b hb w _ (Below.refl _ _)
  have hsz := adA_size true b hb
  have KF := Lib.hid (fun wc h => fmt4w b hb w wc h)
  show Calls Tryz.prog 18 #[.agg (adA true b)] w fun e w' => e = .returned (.string (str (fmt6 b))) ∧ Below w.heap.size w w'
  generalize adA true b = ca at *
  go_enter Tryz.func18, Tryz.ntmps18
  go_upto_region 3 with (go_at_call 17; ((with_reducible refine (KR.out _).mono ?_); rintro e w1 ⟨rfl, hb1⟩; have c6 := H6.out _ hb1; have HB1 := Lib.hid hb1; clear hb1))
  have KX := KF.out w1 HB1.out
  repeat (first | exact KX _ _ _ _ _ _ _ _ _ _ _ _ _ _ _ _ _ _ _ _ _ _ _ _ _ _ _ _ _ _ _ _ _ _ _ _ _ _ _ _ _ _ _ _ _ _ _ _ _ _ _ _ _ _ _ _ _ _ _ _ _ _ _ _ _ _ _ _ _ _ _ _ _ _ _ _ _ _ _ _ _ _ _ _ _ _ _ _ _ _ _ _ _ _ _ _ _ _ _ _ _ _ _ _ _ _ _ _ _ _ _ _ _ _ _ _ _ _ _ | go_values | go_skip | go_guarded | go_step | go_upon | go_back)
set_option maxHeartbeats 4000000 in
theorem rformat_four (b : List UInt8) (hb : b.length = 16) (hr : rightA false b = true) (w : World) :
    Calls Tryz.prog 18 #[adV false b] w fun e w' => e = .returned (.string (str (txt4 b))) ∧ Below w.heap.size w w' := by
  have KR := Lib.hid (fun W => rright_calls' false b hb W)
  rw [hr] at KR
  change Hid (∀ W, Calls Tryz.prog 17 #[.agg (adA false b)] W fun e w' => e = .returned (.bool true) ∧ Below W.heap.size W w') at KR
  have HCB := Lib.hid (fun W h i hi => cell_byte false b hb w W h i hi)
  have H6 := Lib.hid (fun W h => cell_six w W false b 24 h)
  have hl0 := load_ad false b hb w _ (Below.refl _ _)
  have hsz := adA_size false b hb
  have KN : Hid (∀ (n : Nat), n < 256 → ∀ W, Calls Tryz.prog 84 #[.int .i64 (n : Int), .int .i64 10] W fun e w' => e = .returned (.string (str (numb 10 20 n))) ∧ ∃ m, w' = W.drewN m) := Lib.hid (fun n hn W => numeral_calls 10 (.inl rfl) 20 n (by omega) (by omega) (Nat.lt_trans hn (by decide)) W)
  have HL := Lib.hid hb
  show Calls Tryz.prog 18 #[.agg (adA false b)] w fun e w' => e = .returned (.string (str (txt4 b))) ∧ Below w.heap.size w w'
  generalize adA false b = ca at *
  clear hr
  go_enter Tryz.func18, Tryz.ntmps18
  go_wp2_with (go_at_call 17; ((with_reducible refine (KR.out _).mono ?_); rintro e w1 ⟨rfl, hb1⟩; have c6 := H6.out _ hb1; have HB1 := Lib.hid hb1; clear hb1))
  clear c6
  go_loopw [3, 4] (fun sv iv wr => ∃ (i : Nat) (I : Int) (s : ByteArray), iv = .int .i64 I ∧ sv = .string s ∧ Hid (I = (i : Int)) ∧ Hid (i ≤ 4) ∧ Hid (s = str (t4 b i)) ∧ Hid (Below w1.heap.size w1 wr)) (fun _ iv _ => 4 - (intOf iv).toNat)
  case atStart => exact ⟨0, 0, _, rfl, rfl, Lib.hid rfl, Lib.hid (by omega), Lib.hid rfl, Lib.hid (Below.refl _ _)⟩
  case round =>
    obtain ⟨i, I, s, rfl, rfl, HI, HI4, HS, HB⟩ := hrel
    have hI0 : (0 : Int) ≤ I := by have := HI.out; omega
    have hI4 : I ≤ 4 := by have := HI.out; have := HI4.out; omega
    have HWr := Lib.hid (HB1.out.trans (HB.out.mono HB1.out.size))
    by_cases hlt : I < 4
    · have hi4 : i < 4 := by have := HI.out; omega
      have hIi : I.toNat = i := by have := HI.out; omega
      have hc := HCB.out wr HWr.out i (by omega)
      have hstep := t4_succ b i (by have := HL.out; omega)
      have hil : i < b.length := by have := HL.out; omega
      have hx := (b[i]'hil).toNat_lt
      have KN1 := Lib.hid (KN.out (b[i]'hil).toNat hx)
      replace hc : wr.cell? ⟨w.heap.size, 1 + I.toNat, none⟩ = some (.int .u8 ((b[i]'hil).toNat : Int)) := by rw [hIi]; exact hc
      have hn := numb_len 10 20 (b[i]'hil).toNat
      have hs1 : (s.size : Int) ≤ 200 := by rw [HS.out, sz]; have := t4_len b i HI4.out; omega
      have hD1 : ((str (numb 10 20 (b[i]'hil).toNat)).size : Int) ≤ 200 := by rw [sz]; omega
      have hzA : ¬ 9223372036854775807 < s.size + 1 := by omega
      have hzB : ¬ 9223372036854775807 < s.size + (str (numb 10 20 (b[i]'hil).toNat)).size := by omega
      have hzC : ¬ 9223372036854775807 < s.size + 1 + (str (numb 10 20 (b[i]'hil).toNat)).size := by omega
      have HI2 := Lib.hid (show I + 1 = ((i + 1 : Nat) : Int) by have := HI.out; omega)
      have H42 : Hid (i + 1 ≤ 4) := Lib.hid (by omega)
      have hx0 : (0 : Int) ≤ ((b[i]'hil).toNat : Int) := by omega
      have hx1 : ((b[i]'hil).toNat : Int) < 256 := by omega
      by_cases h0 : 0 < I
      · rw [if_pos (by have := HI.out; omega)] at hstep
        have HST := Lib.hid (show s ++ ⟨#[46]⟩ ++ str (numb 10 20 (b[i]'hil).toNat) = str (t4 b (i + 1)) by rw [hstep, HS.out, ← str_cat, ← str_cat])
        clear hstep hi4 hIi hx hn
        generalize str (numb 10 20 (b[i]'hil).toNat) = D at *
        generalize (b[i]'hil).toNat = X at *
        clear hil
        go_wp2_with (go_at_call 84; ((with_reducible refine (KN1.out _).mono ?_); rintro e w2 ⟨rfl, q, rfl⟩))
        go_roundw
        case rel => exact ⟨i + 1, I + 1, _, by (first | rfl | go_num), rfl, HI2, H42, HST, Lib.hid (below_drewN HB.out _)⟩
        case measure => simp [intOf]; omega
      · rw [if_neg (by have := HI.out; omega)] at hstep
        have HST := Lib.hid (show s ++ str (numb 10 20 (b[i]'hil).toNat) = str (t4 b (i + 1)) by rw [hstep, HS.out, List.append_nil, ← str_cat])
        clear hstep hi4 hIi hx hn
        generalize str (numb 10 20 (b[i]'hil).toNat) = D at *
        generalize (b[i]'hil).toNat = X at *
        clear hil
        go_wp2_with (go_at_call 84; ((with_reducible refine (KN1.out _).mono ?_); rintro e w2 ⟨rfl, q, rfl⟩))
        go_roundw
        case rel => exact ⟨i + 1, I + 1, _, by (first | rfl | go_num), rfl, HI2, H42, HST, Lib.hid (below_drewN HB.out _)⟩
        case measure => simp [intOf]; omega
    · obtain rfl : I = 4 := by omega
      obtain rfl : i = 4 := by have := HI.out; omega
      have HT : Hid (s = str (txt4 b)) := HS
      clear HS
      go_wp2
      go_ret
      exact ⟨by rw [HT.out]; rfl, below_allocd HWr.out⟩
theorem rformat_calls (six : Bool) (b : List UInt8) (hb : b.length = 16) (w : World) :
    Calls Tryz.prog 18 #[adV six b] w fun e w' => e = .returned (.string (str (txtA six b))) ∧ Below w.heap.size w w' := by
  unfold txtA
  by_cases hr : rightA six b = true
  · rw [if_pos hr]
    cases six with
    | true => exact rformat_six b hb w
    | false => exact rformat_four b hb hr w
  · rw [if_neg hr]
    exact rformat_not six b hb (by simpa using hr) w
end Go.Proofs.YtmcgkknpkocgoaaGreatDoor.Ad
