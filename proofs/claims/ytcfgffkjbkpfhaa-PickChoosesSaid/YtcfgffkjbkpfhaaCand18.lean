/- The law PickChooses. -/
import Derived.Test.YtcfgffkjbkpfhaaCand17
import Derived.Test.YtcfgffkjbkpfhaaCandO
namespace Go.Proofs.Ytcfgffkjbkpfhaa.Cand
open Go.RowKit Go.Proofs.Ytcfgffkjbkpfhaa.Mem Go.Proofs.Ytcfgffkjbkpfhaa.Num Go.Proofs.Ytcfgffkjbkpfhaa.Key
open Go.Proofs.Ytcfgffkjbkpfhaa.Addr hiding below_allocd
set_option linter.unusedVariables false
set_option linter.unusedSimpArgs false
set_option maxRecDepth 100000
attribute [-go_sem] Builtin.append_ loadCells loadCellsFrom storeCells run_eql_struct
set_option maxHeartbeats 8000000 in
theorem chooses_calls (v : Value) (name : ByteArray) (proto : Int) (six loc hint : Bool) (node zone : ByteArray) (xs : List Cd) (z : Cd → List ByteArray) (w : World) (hv : Cands w v xs z) (hz : ∀ x ∈ xs, ∀ s ∈ z x, s.size ≤ maxLen) :
    Calls Try.prog 3 #[v, wtV name proto six loc hint node zone] w fun e w' => e = .returned (.bool true) ∧ Below w.heap.size w w' := by
  obtain ⟨A, c, rfl, hc, hm, hr⟩ := hv.1.parts
  obtain ⟨W0, hW0⟩ : ∃ W0, W0 = w.alloc (.cells #[.string name, .int .i64 proto, .bool six, .bool loc, .bool hint, .string node, .string zone] 24) := ⟨_, rfl⟩
  have HW0 := Lib.hid hW0
  have hB0 : Below w.heap.size w W0 := by rw [hW0]; exact (Below.refl _ _).alloc (Nat.le_refl _) _
  have hWB : Blk w.heap.size [.string name, .int .i64 proto, .bool six, .bool loc, .bool hint, .string node, .string zone] 24 W0 := by rw [hW0]; exact Blk.new w _ _ _ _ rfl rfl
  have HW := Lib.hid hWB
  have HLD : Hid (∀ W, Below W0.heap.size W0 W → W.cell? ⟨w.heap.size, 3, none⟩ = some (.bool loc) ∧ (loadCells ⟨w.heap.size, 0, none⟩ 7).run Try.prog W = .ok #[.string name, .int .i64 proto, .bool six, .bool loc, .bool hint, .string node, .string zone] W) := Lib.hid (fun W hW => ⟨(hWB.below hW).cell 3 _ rfl, (hWB.below hW).load 0 7 _ rfl rfl⟩)
  have HV : Hid (∀ W, Below W0.heap.size W0 W → Cands W (.slice A xs.length c) xs z) := Lib.hid (fun W hW => (hv.below hB0).below hW)
  have HBB : Hid (∀ W, Below W0.heap.size W0 W → Below w.heap.size w W) := Lib.hid (fun W hW => hB0.trans (hW.mono hB0.size))
  have KA : Hid (∀ W, Calls Try.prog 8 #[] W fun e w' => e = .returned (.bool true) ∧ Below W.heap.size W w') := Lib.hid (fun W => alive19_calls W)
  have KG : Hid (∀ W, Below W0.heap.size W0 W → Calls Try.prog 9 #[.slice A xs.length c] W fun e w' => e = .returned (.bool (candLong xs z)) ∧ Below W.heap.size W w') := Lib.hid (fun W hW => candlong_calls _ xs z W ((hv.below hB0).below hW) hz)
  have KW : Hid (∀ W, Calls Try.prog 10 #[wtV name proto six loc hint node zone] W fun e w' => e = .returned (.bool (longW name node zone)) ∧ Below W.heap.size W w') := Lib.hid (fun W => longw_calls _ _ _ _ _ _ _ W)
  by_cases hL : candLong xs z = true
  · rw [hL] at KG
    clear hv hr hz hL hWB hB0 hW0
    go_enter Try.func3, Try.ntmps3
    go_wp2_with (first
      | (go_at_call 8; ((with_reducible refine (KA.out _).mono ?_); rintro e w1 ⟨rfl, hb1⟩; have HB1 : Hid (Below W0.heap.size W0 w1) := Lib.hid (by rw [HW0.out]; exact hb1); clear hb1))
      | (go_at_call 9; ((with_reducible refine (KG.out _ HB1.out).mono ?_); rintro e w2 ⟨rfl, hb2⟩; have HB2 := Lib.hid (HB1.out.trans (hb2.mono HB1.out.size)); clear hb2)))
    go_ret
    exact ⟨rfl, HBB.out _ HB2.out⟩
  · have hL2 : candLong xs z = false := Bool.eq_false_iff.2 hL
    rw [hL2] at KG
    by_cases hG : longW name node zone = true
    · rw [hG] at KW
      clear hv hr hz hL hL2 hG hWB hB0 hW0
      go_enter Try.func3, Try.ntmps3
      go_wp2_with (first
        | (go_at_call 8; ((with_reducible refine (KA.out _).mono ?_); rintro e w1 ⟨rfl, hb1⟩; have HB1 : Hid (Below W0.heap.size W0 w1) := Lib.hid (by rw [HW0.out]; exact hb1); clear hb1))
        | (go_at_call 9; ((with_reducible refine (KG.out _ HB1.out).mono ?_); rintro e w2 ⟨rfl, hb2⟩; have HB2 := Lib.hid (HB1.out.trans (hb2.mono HB1.out.size)); have hl2 := (HLD.out _ HB2.out).2; clear hb2))
        | (go_at_call 10; ((with_reducible refine (KW.out _).mono ?_); rintro e w3 ⟨rfl, hb3⟩; have HB3 := Lib.hid (HB2.out.trans (hb3.mono HB2.out.size)); clear hb3)))
      go_ret
      exact ⟨rfl, HBB.out _ HB3.out⟩
    · rw [Bool.eq_false_iff.2 hG] at KW
      have hx60 : xs.length ≤ 60 := by
        unfold candLong at hL2
        rw [Bool.or_eq_false_iff] at hL2
        simpa using hL2.1
      have hmx : Try.prog.follows .mixedOrders = true := by kernel_rfl
      obtain ⟨us, hus⟩ : ∃ us, us = usableL xs := ⟨_, rfl⟩
      obtain ⟨cs, hcs⟩ : ∃ cs, cs = chooseL loc hint zone z xs := ⟨_, rfl⟩
      have KO : Hid (∀ W v' L, Row eCd W v' L → L.length ≤ 100000 → Calls Try.prog 11 #[v'] W fun e w' => (∃ v2, e = .returned v2 ∧ Row eCd w' v2 L) ∧ Below W.heap.size W w') := Lib.hid (fun W v' L h hl => of_calls v' L W h hl)
      have K6 : Hid (∀ W, Below W0.heap.size W0 W → Calls Try.prog 13 #[.slice A xs.length c] W fun e w' => (∃ v', e = .returned v' ∧ Row eCd w' v' us) ∧ Below W.heap.size W w') := Lib.hid (fun W hW => by rw [hus]; exact usable_calls _ xs W ((hv.below hB0).below hW).1 (by omega))
      have K8 : Hid (∀ W v', Row eCd W v' xs → Calls Try.prog 14 #[v'] W fun e w' => (∃ v2, e = .returned v2 ∧ Row eCd w' v2 us) ∧ Below W.heap.size W w') := Lib.hid (fun W v' h => by rw [hus]; exact rusable_calls v' xs W h (by omega))
      have KA2 : Hid (∀ W v1 v2 L, Below W0.heap.size W0 W → (∀ x ∈ L, x ∈ xs) → L.length ≤ 100000 → Row eCd W v1 L → Row eCd W v2 L → Calls Try.prog 12 #[v1, v2] W fun e w' => e = .returned (.bool true) ∧ Below W.heap.size W w') := Lib.hid (fun W v1 v2 L hW hm hl h1 h2 => all_calls v1 v2 L z W ⟨h1, fun x hx => (((hv.below hB0).below hW).2 x (hm x hx))⟩ ⟨h2, fun x hx => (((hv.below hB0).below hW).2 x (hm x hx))⟩ hl)
      have K10 : Hid (∀ W, Below W0.heap.size W0 W → Calls Try.prog 15 #[.slice A xs.length c, wtV name proto six loc hint node zone] W fun e w' => (∃ v', e = .returned v' ∧ Row eCd w' v' cs) ∧ Below W.heap.size W w') := Lib.hid (fun W hW => by rw [hcs]; exact choose_calls _ name proto six loc hint node zone xs z W ((hv.below hB0).below hW) (by omega))
      have K12 : Hid (∀ W v', Below W0.heap.size W0 W → Row eCd W v' xs → Calls Try.prog 16 #[v', wtV name proto six loc hint node zone] W fun e w' => (∃ v2, e = .returned v2 ∧ Row eCd w' v2 cs) ∧ Below W.heap.size W w') := Lib.hid (fun W v' hW h => by rw [hcs]; exact rchoose_calls v' name proto six loc hint node zone xs z W ⟨h, ((hv.below hB0).below hW).2⟩ (by omega))
      have HV1 : Hid (∀ W, Below W0.heap.size W0 W → Row eCd W (.slice A xs.length c) xs) := Lib.hid (fun W hW => (HV.out W hW).1)
      have HMU : Hid ((∀ x ∈ us, x ∈ xs) ∧ us.length ≤ 100000) := Lib.hid ⟨fun x hx => (usable_mem (hus ▸ hx)).1, by rw [hus]; unfold usableL; split <;> exact Nat.le_trans (List.length_filter_le _ _) (by omega)⟩
      have HMC : Hid ((∀ x ∈ cs, x ∈ xs) ∧ cs.length ≤ 100000) := Lib.hid ⟨fun x hx => (choose_each (hcs ▸ hx)).1, by rw [hcs]; exact Nat.le_trans (choose_len _ _ _ _ _) (by omega)⟩
      have HMX : Hid ((∀ x ∈ xs, x ∈ xs) ∧ xs.length ≤ 100000) := Lib.hid ⟨fun x hx => hx, by omega⟩
      clear hv hr hz hL hL2 hG hWB hB0 hW0 hus hcs hx60
      go_enter Try.func3, Try.ntmps3
      go_wp2_with (first
        | (go_at_call 8; ((with_reducible refine (KA.out _).mono ?_); rintro e w1 ⟨rfl, hb1⟩; have HB1 : Hid (Below W0.heap.size W0 w1) := Lib.hid (by rw [HW0.out]; exact hb1); clear hb1))
        | (go_at_call 9; ((with_reducible refine (KG.out _ HB1.out).mono ?_); rintro e w2 ⟨rfl, hb2⟩; have HB2 := Lib.hid (HB1.out.trans (hb2.mono HB1.out.size)); have hl2 := (HLD.out _ HB2.out).2; clear hb2))
        | (go_at_call 10; ((with_reducible refine (KW.out _).mono ?_); rintro e w3 ⟨rfl, hb3⟩; have HB3 := Lib.hid (HB2.out.trans (hb3.mono HB2.out.size)); clear hb3 hl2))
        | (go_at_call 11; ((with_reducible refine (KO.out _ _ _ (HV1.out _ HB3.out) HMX.out.2).mono ?_); rintro e w5 ⟨⟨v5, rfl, hr5⟩, hb5⟩; have HR5 := Lib.hid hr5; have HS5 := Lib.hid hb5; have HB5 := Lib.hid (HB3.out.trans (hb5.mono HB3.out.size)); have H5 : Hid (∀ W, Below w5.heap.size w5 W → Row eCd W v5 xs) := Lib.hid (fun W h => hr5.below h); have l5 := (HLD.out _ HB5.out).2; clear hr5 hb5)))
      go_region_held3 (fun W : World => (loadCells ⟨w.heap.size, 0, none⟩ 7).run Try.prog W = .ok #[.string name, .int .i64 proto, .bool six, .bool loc, .bool hint, .string node, .string zone] W) (first | exact l5 | exact (HLD.out _ HB5.out.drew).2 | exact (HLD.out _ HB6.out).2 | exact (HLD.out _ HB7.out).2 | exact (HLD.out _ HB8.out).2 | exact (HLD.out _ HB9.out).2 | exact (HLD.out _ HB10.out).2 | exact (HLD.out _ HB11.out).2 | exact (HLD.out _ HB12.out).2 | exact (HLD.out _ HB13.out).2 | exact (HLD.out _ HB14.out).2 | exact (HLD.out _ HB15.out).2) (first
        | (go_at_call 13; ((with_reducible refine (K6.out _ HB5.out.drew).mono ?_); rintro e w6 ⟨⟨v6, rfl, hr6⟩, hb6⟩; have HR6 := Lib.hid hr6; have HS6 := Lib.hid hb6; have HB6 := Lib.hid (HB5.out.drew.trans (hb6.mono HB5.out.drew.size)); have HT6 : Hid (Below w5.heap.size w5 w6) := Lib.hid ((Below.refl w5.heap.size w5).drew.trans hb6); clear hr6 hb6))
        | (go_at_call 11; ((with_reducible refine (KO.out _ _ _ HR6.out HMU.out.2).mono ?_); rintro e w7 ⟨⟨v7, rfl, hr7⟩, hb7⟩; have HR7 := Lib.hid hr7; have HS7 := Lib.hid hb7; have HB7 := Lib.hid (HB6.out.trans (hb7.mono HB6.out.size)); have HT7 := Lib.hid (HT6.out.trans (hb7.mono HT6.out.size)); clear hr7 hb7))
        | (go_at_call 14; ((with_reducible refine (K8.out _ _ (H5.out _ HT7.out)).mono ?_); rintro e w8 ⟨⟨v8, rfl, hr8⟩, hb8⟩; have HR8 := Lib.hid hr8; have HS8 := Lib.hid hb8; have HB8 := Lib.hid (HB7.out.trans (hb8.mono HB7.out.size)); have HT8 := Lib.hid (HT7.out.trans (hb8.mono HT7.out.size)); have HQ7 := Lib.hid (HR7.out.below hb8); clear hr8 hb8))
        | (go_at_call 12; ((with_reducible refine (KA2.out _ _ _ _ HB8.out HMU.out.1 HMU.out.2 HQ7.out HR8.out).mono ?_); rintro e w9 ⟨rfl, hb9⟩; have HS9 := Lib.hid hb9; have HB9 := Lib.hid (HB8.out.trans (hb9.mono HB8.out.size)); have HT9 := Lib.hid (HT8.out.trans (hb9.mono HT8.out.size)); clear hb9))
        | (go_at_call 15; ((with_reducible refine (K10.out _ HB9.out).mono ?_); rintro e w10 ⟨⟨v10, rfl, hr10⟩, hb10⟩; have HR10 := Lib.hid hr10; have HS10 := Lib.hid hb10; have HB10 := Lib.hid (HB9.out.trans (hb10.mono HB9.out.size)); have HT10 := Lib.hid (HT9.out.trans (hb10.mono HT9.out.size)); clear hr10 hb10))
        | (go_at_call 11; ((with_reducible refine (KO.out _ _ _ HR10.out HMC.out.2).mono ?_); rintro e w11 ⟨⟨v11, rfl, hr11⟩, hb11⟩; have HR11 := Lib.hid hr11; have HS11 := Lib.hid hb11; have HB11 := Lib.hid (HB10.out.trans (hb11.mono HB10.out.size)); have HT11 := Lib.hid (HT10.out.trans (hb11.mono HT10.out.size)); clear hr11 hb11))
        | (go_at_call 16; ((with_reducible refine (K12.out _ _ HB11.out (H5.out _ HT11.out)).mono ?_); rintro e w12 ⟨⟨v12, rfl, hr12⟩, hb12⟩; have HR12 := Lib.hid hr12; have HS12 := Lib.hid hb12; have HB12 := Lib.hid (HB11.out.trans (hb12.mono HB11.out.size)); have HT12 := Lib.hid (HT11.out.trans (hb12.mono HT11.out.size)); have HQ11 := Lib.hid (HR11.out.below hb12); clear hr12 hb12))
        | (go_at_call 12; ((with_reducible refine (KA2.out _ _ _ _ HB12.out HMC.out.1 HMC.out.2 HQ11.out HR12.out).mono ?_); rintro e w13 ⟨rfl, hb13⟩; have HS13 := Lib.hid hb13; have HB13 := Lib.hid (HB12.out.trans (hb13.mono HB12.out.size)); have HT13 := Lib.hid (HT12.out.trans (hb13.mono HT12.out.size)); clear hb13))
        | (go_at_call 11; ((with_reducible refine (KO.out _ _ _ (HV1.out _ HB13.out) HMX.out.2).mono ?_); rintro e w14 ⟨⟨v14, rfl, hr14⟩, hb14⟩; have HR14 := Lib.hid hr14; have HS14 := Lib.hid hb14; have HB14 := Lib.hid (HB13.out.trans (hb14.mono HB13.out.size)); have HT14 := Lib.hid (HT13.out.trans (hb14.mono HT13.out.size)); clear hr14 hb14))
        | (go_at_call 12; ((with_reducible refine (KA2.out _ _ _ _ HB14.out HMX.out.1 HMX.out.2 HR14.out (H5.out _ HT14.out)).mono ?_); rintro e w15 ⟨rfl, hb15⟩; have HS15 := Lib.hid hb15; have HB15 := Lib.hid (HB14.out.trans (hb15.mono HB14.out.size)); clear hb15)))
      all_goals go_wp2
      go_ret
      exact ⟨by simp [Act.put], HBB.out _ HB15.out⟩
theorem chooses_row (W : World) (v : Value) (hv : IsCands W v) (u : Value) (hu : IsWant u) :
    Calls Try.prog 3 #[v, u] W fun e W' => e = .returned (.bool true) ∧ Below W.heap.size W W' := by
  obtain ⟨xs, z, hc, hz⟩ := hv
  obtain ⟨a, b, c, d, e, f, g, rfl⟩ := hu
  exact chooses_calls v a b c d e f g xs z W hc hz
end Go.Proofs.Ytcfgffkjbkpfhaa.Cand
