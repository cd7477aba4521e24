/- The law StridePlaces. -/
import Derived.Test.YtmpdcdfnbkfabaaDoorStride6
namespace Go.Proofs.YtmpdcdfnbkfabaaDoor.Stride
open Go.RowKit Go.Proofs.YtmpdcdfnbkfabaaDoor.Mem Go.Proofs.YtmpdcdfnbkfabaaDoor.Num Go.Proofs.YtmpdcdfnbkfabaaDoor.Prime Go.Proofs.YtmpdcdfnbkfabaaDoor.PrimeP Go.Proofs.YtmpdcdfnbkfabaaDoor.Mix Go.Proofs.YtmpdcdfnbkfabaaDoor.Hash Go.Proofs.YtmpdcdfnbkfabaaDoor.Err
set_option linter.unusedVariables false
set_option linter.unusedSimpArgs false
set_option maxRecDepth 100000 in
theorem places_no (z o k j p : Int) (w : World) (h : rightB z o k = false) :
    Calls Tryd.prog 7 #[sv z o k, .int .i64 j, .int .i64 p] w fun e w' => e = .returned (.bool true) ∧ Below w.heap.size w w' := by
  have HRR := Lib.hid (fun W => h ▸ refright_calls z o k W)
  have HR := Lib.hid (fun W => h ▸ right_calls z o k W)
  have HC := Lib.hid (fun W => cursor_no z o k W h)
  have HP := Lib.hid (fun W => place_no z o k j W h)
  have HW := Lib.hid (fun W => when_no z o k p W h)
  have HA := Lib.hid (fun W => all_no z o k W h)
  clear h
  go_enter Tryd.func7, Tryd.ntmps7
  go_wp2_with (first
    | (go_at_call 31; ((with_reducible refine (alive_calls _).mono ?_); rintro e w0 ⟨rfl, hb0⟩; obtain ⟨c00, c01, c02⟩ := box3_below hb0; have HB0 := Lib.hid hb0; clear hb0))
    | (go_at_call 32; ((with_reducible refine (HRR.out _).mono ?_); rintro e w' ⟨rfl, rfl⟩))
    | (go_at_call 33; ((with_reducible refine (HC.out _).mono ?_); rintro e w1 ⟨⟨c, rfl, hcur, hle⟩, hb1⟩; have HB1 := Lib.hid (below_next HB0.out hb1); obtain ⟨c10, c11, c12⟩ := box3_below HB1.out; have HCur1 := Lib.hid hcur; clear hcur hb1))
    | (go_at_call 34; ((with_reducible refine (HR.out _).mono ?_); rintro e w2 ⟨rfl, hb2⟩; have HB2 := Lib.hid (below_next HB1.out hb2); obtain ⟨c20, c21, c22⟩ := box3_below HB2.out; have HCur2 := Lib.hid (HCur1.out.below hb2); clear hb2))
    | (go_at_call 35; ((with_reducible refine (HP.out _).mono ?_); rintro e w3 ⟨rfl, hb3⟩; have HB3 := Lib.hid (below_next HB2.out hb3); obtain ⟨c30, c31, c32⟩ := box3_below HB3.out; have HCur3 := Lib.hid (HCur2.out.below hb3); clear hb3))
    | (go_at_call 36; ((with_reducible refine (HW.out _).mono ?_); rintro e w4 ⟨rfl, hb4⟩; have HB4 := Lib.hid (below_next HB3.out hb4); obtain ⟨c40, c41, c42⟩ := box3_below HB4.out; have HCur4 := Lib.hid (HCur3.out.below hb4); clear hb4))
    | (go_at_call 37; ((with_reducible refine (HA.out _).mono ?_); rintro e w5 ⟨rfl, hb5⟩; have HB5 := Lib.hid (below_next HB4.out hb5); have HCur5 := Lib.hid (HCur4.out.below hb5); clear hb5))
    | (go_at_call 38; ((with_reducible refine (nextno_calls _ _ 0 (by omega) (by omega) HCur5.out).mono ?_); rintro e w6 ⟨rfl, rfl⟩; have hD := Lib.hid (World.cell?_setCell_same' w5 ⟨c, 3, none⟩ (.int .i64 1) (by rw [HCur5.out.d0]; rfl))))
    | (go_at_call 39; ((with_reducible refine (done_calls _ _ 1 hD.out).mono ?_); rintro e w7 ⟨rfl, rfl⟩)))
  go_ret
  have hs := HB0.out.size
  have ha := size_alloc_le (Below.refl w.heap.size w) (.cells #[.int .i64 z, .int .i64 o, .int .i64 k] 55)
  exact ⟨rfl, (below_allocd HB5.out).setCell (p := ⟨c, 3, none⟩) (by show w.heap.size ≤ c; omega) _⟩
theorem rest_nat (j z : Int) (hz : 2 ≤ z) : ∃ K : Nat, (K : Int) < z ∧ j % z = K ∧ (j.tmod z = K ∨ (j.tmod z = K - z ∧ j.tmod z < 0)) := by
  have h0 := Int.emod_nonneg j (show z ≠ 0 by omega)
  have h1 := Int.emod_lt_of_pos j (show 0 < z by omega)
  have e2 := rest_eq j z (by omega)
  have e1 := tmod_bounds j z (by omega)
  refine ⟨(j % z).toNat, by omega, by omega, ?_⟩
  rw [Int.toNat_of_nonneg h0]
  rcases Int.lt_or_le (j.tmod z) 0 with h | h
  · right
    refine ⟨?_, h⟩
    have : (j.tmod z + z) % z = j.tmod z + z := Int.emod_eq_of_lt (by omega) (by omega)
    have h3 : (j.tmod z + z).tmod z = (j.tmod z + z) % z := Int.tmod_eq_emod_of_nonneg (by omega)
    rw [h3] at e2
    omega
  · left
    have h3 : (j.tmod z + z).tmod z = (j.tmod z + z) % z := Int.tmod_eq_emod_of_nonneg (by omega)
    rw [h3, Int.add_emod_right, Int.emod_eq_of_lt h (by omega)] at e2
    omega
theorem stepN_mod (z k : Int) (o : Int) (n : Nat) (hz : 2 ≤ z) (ho0 : 0 ≤ o) (ho1 : o < z) : stepN z k (n % z.toNat) o = stepN z k n o := by
  rw [stepN_eq z k _ o hz ho0 ho1, stepN_eq z k _ o hz ho0 ho1]
  have : ((n % z.toNat : Nat) : Int) = (n : Int) % z := by rw [Int.natCast_emod, Int.toNat_of_nonneg (by omega)]
  rw [this, Int.add_emod, Int.mul_emod, Int.emod_emod, ← Int.mul_emod, ← Int.add_emod]
end Go.Proofs.YtmpdcdfnbkfabaaDoor.Stride
