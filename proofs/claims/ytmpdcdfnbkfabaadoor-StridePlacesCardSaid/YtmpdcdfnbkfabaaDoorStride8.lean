/- The law StridePlaces, at a right stride. -/
import Derived.Test.YtmpdcdfnbkfabaaDoorStride7
namespace Go.Proofs.YtmpdcdfnbkfabaaDoor.Stride
open Go.RowKit Go.Proofs.YtmpdcdfnbkfabaaDoor.Mem Go.Proofs.YtmpdcdfnbkfabaaDoor.Num Go.Proofs.YtmpdcdfnbkfabaaDoor.Prime Go.Proofs.YtmpdcdfnbkfabaaDoor.PrimeP Go.Proofs.YtmpdcdfnbkfabaaDoor.Mix Go.Proofs.YtmpdcdfnbkfabaaDoor.Hash Go.Proofs.YtmpdcdfnbkfabaaDoor.Err
set_option linter.unusedVariables false
set_option linter.unusedSimpArgs false
theorem Cur.drew {w : World} {c ba bs : Nat} {z o k d p : Int} (h : Cur w c ba bs z o k d p) : Cur w.drew c ba bs z o k d p := ⟨h.z0, h.o0, h.k0, h.d0, h.f0, h.a0, h.sz, h.sk, h.nf, h.na, h.ne1, h.ne2, h.ne3⟩
theorem Cur.drewN {w : World} {c ba bs : Nat} {z o k d p : Int} (h : Cur w c ba bs z o k d p) (n : Nat) : Cur (w.drewN n) c ba bs z o k d p := ⟨h.z0, h.o0, h.k0, h.d0, h.f0, h.a0, h.sz, h.sk, h.nf, h.na, h.ne1, h.ne2, h.ne3⟩
theorem Own.drew {α : Type} {E : Enc α} {e : TypeId} {b : Nat} {w : World} {v : Value} {xs : List α} (h : Mem.Own E e b w v xs) : Mem.Own E e b w.drew v xs := h
theorem next_pack (W w0 : World) (B B2 c ba bs ca3 m : Nat) (z o k d P : Int) (ad : Addr) (L : List Int) (hz : 2 ≤ z) (hz' : z ≤ 251) (hk : 1 ≤ k) (hk' : k < z) (hp : 0 ≤ P) (hp' : P < z) (hd : 0 ≤ d) (hd' : d ≤ 1000000) (hc : Cur W c ba bs z o k d P) (hlc : c < B) (hlb : ba < B) (hn : L.length = m)
    (HO : Mem.Own eInt 3 B W (.slice (some ad) m ca3) L) (HB : Below B2 w0 W) (h1 : B2 ≤ c) (h2 : B2 ≤ ba) :
    Calls Tryd.prog 38 #[.pointer (some ⟨c, 0, none⟩)] W fun e w' => e = .returned (.int .i64 P) ∧ Mem.Own eInt 3 B w' (.slice (some ad) m ca3) L ∧ Cur w' c ba bs z o k (d + 1) (stepZ z k P) ∧ Below B2 w0 w' := by
  refine (next_calls W c ba bs z o k d P hz hz' hk hk' hp hp' hd hd' hc).mono ?_
  rintro e w' ⟨rfl, rfl⟩
  exact ⟨rfl, ownsRow_setCell_below (a := ⟨ba, 0, none⟩) (ownsRow_setCell_below (a := ⟨c, 3, none⟩) HO hlc _) hlb _, hc.next _ _, (HB.setCell (p := ⟨c, 3, none⟩) h1 _).setCell (p := ⟨ba, 0, none⟩) h2 _⟩
set_option maxRecDepth 100000 in
set_option maxHeartbeats 20000000 in
theorem places_yes1 (Z K : Nat) (o k j p : Int) (w : World) (h : rightB (Z : Int) o k = true) (hj : -9223372036854775808 ≤ j ∧ j ≤ 9223372036854775807) (hKz : (K : Int) < (Z : Int)) (hKm : j % (Z : Int) = K) (hK : j.tmod (Z : Int) = K) :
    Calls Tryd.prog 7 #[sv (Z : Int) o k, .int .i64 j, .int .i64 p] w fun e w' => e = .returned (.bool true) ∧ Below w.heap.size w w' := by
  obtain ⟨hz, ho0, ho1, hk0, hk1⟩ := right_parts h
  obtain ⟨hz2, hz251, _⟩ := sized_le hz
  have HRR := Lib.hid (fun W => h ▸ refright_calls Z o k W)
  have HR := Lib.hid (fun W => h ▸ right_calls Z o k W)
  have HC := Lib.hid (fun W => cursor_calls Z o k W h)
  have HP := Lib.hid (fun W => place_calls Z o k j W h)
  have HW := Lib.hid (fun W => when_calls Z o k p W h)
  have HA := Lib.hid (fun W => (Int.toNat_natCast Z) ▸ all_calls Z o k W h)
  have HRA := Lib.hid (fun W => (Int.toNat_natCast Z) ▸ refall_calls Z o k W h)
  have HX := Lib.hid (fun (n : Nat) (hn : (n : Int) < (Z : Int)) => step_iff Z o k p n h hn)
  have hXr : whenN Z o k p < (Z : Int) ∧ -1 ≤ whenN Z o k p := by
    unfold whenN
    split
    · omega
    · have := Int.emod_nonneg ((p + Z - o) * pw k ((Z : Int) - 2).toNat Z) (show (Z : Int) ≠ 0 by omega)
      have := Int.emod_lt_of_pos ((p + Z - o) * pw k ((Z : Int) - 2).toNat Z) (show 0 < (Z : Int) by omega)
      omega
  have hPL : stepN Z k K o = placeZ Z o k j := by
    rw [stepN_eq Z k K o hz2 ho0 ho1]; unfold placeZ; rw [hKm]
  have HPL := Lib.hid hPL
  clear h hz hPL hKm
  generalize whenN Z o k p = X at HX hXr HW
  generalize placeZ Z o k j = PL at HPL HP
  have hL3 : (walkZ Z k Z o).length = Z := walkZ_length Z k Z o
  have hmx : Tryd.prog.follows .mixedOrders = true := by kernel_rfl
  go_enter Tryd.func7, Tryd.ntmps7
  go_wp2_with (first
    | (go_at_call 31; ((with_reducible refine (alive_calls _).mono ?_); rintro e w0 ⟨rfl, hb0⟩; obtain ⟨c00, c01, c02⟩ := box3_below hb0; have HB0 := Lib.hid hb0; clear hb0))
    | (go_at_call 32; ((with_reducible refine (HRR.out _).mono ?_); rintro e w' ⟨rfl, rfl⟩))
    | (go_at_call 33; ((with_reducible refine (HC.out _).mono ?_); rintro e w1 ⟨⟨c, ba, bs, rfl, hcur, hle1, hle2, hle3⟩, hb1⟩; have HB1 := Lib.hid (below_next HB0.out hb1); obtain ⟨c10, c11, c12⟩ := box3_below HB1.out; have HCur1 := Lib.hid hcur; clear hcur hb1))
    | (go_at_call 34; ((with_reducible refine (HR.out _).mono ?_); rintro e w2 ⟨rfl, hb2⟩; have HB2 := Lib.hid (below_next HB1.out hb2); obtain ⟨c20, c21, c22⟩ := box3_below HB2.out; have HCur2 := Lib.hid (HCur1.out.below hb2); clear hb2))
    | (go_at_call 40; ((with_reducible refine (HRA.out _).mono ?_); rintro e w3 ⟨⟨rv, rfl, hown⟩, hb3⟩; have HB3 := Lib.hid (below_next HB2.out hb3); obtain ⟨c30, c31, c32⟩ := box3_below HB3.out; have HCur3 := Lib.hid (HCur2.out.below hb3); obtain ⟨A3, ca3, rfl, hc3, hm3, hr3⟩ := hown.row.parts; rw [hL3] at hc3 hr3 hown; have HR3 := Lib.hid hr3; have HO3 := Lib.hid hown; clear hr3 hown hb3)))
  go_loop [81, 11] (fun iv wv => ∃ i : Nat, i ≤ Z ∧ iv = .int .i64 (i : Int) ∧ wv = .int .i64 (if X < i then X else -1)) (fun iv _ => Z - (intOf iv).toNat)
  case atStart => exact ⟨0, by omega, rfl, by rw [show (if X < ((0 : Nat) : Int) then X else -1) = -1 by split <;> omega]⟩
  case round =>
    obtain ⟨i, hi, rfl, rfl⟩ := hrel
    by_cases hlt : i < Z
    · obtain ⟨ad, rfl, hcell⟩ := HR3.out.atInt (k := i) (by omega)
      rw [walk_get] at hcell
      have hx := Lib.hid (HX.out i (by omega))
      by_cases heq : stepN Z k i o = p
      · have hb : (stepN Z k i o == p) = true := by simpa using heq
        have hXi := Lib.hid (hx.out.1 heq)
        go_wp2
        go_round
        case rel => exact ⟨i + 1, by omega, rfl, by have := hXi.out; rw [if_pos (by omega)]; rw [this]⟩
        case measure => simp [intOf]; omega
      · have hb : (stepN Z k i o == p) = false := by simpa using heq
        have hXi := Lib.hid (show ¬ (i : Int) = X from fun e => heq (hx.out.2 e))
        go_wp2
        go_round
        case rel => exact ⟨i + 1, by omega, rfl, by have := hXi.out; congr 1; split <;> split <;> omega⟩
        case measure => simp [intOf]; omega
    · have hiz : i = Z := by omega
      subst i
      rw [if_pos (show X < (Z : Int) by omega)]
      obtain ⟨ad, rfl, hcell3⟩ := HR3.out.atInt (k := K) (by omega)
      rw [walk_get, HPL.out] at hcell3
      have hsz0 := HB0.out.size
      have hlc : c < w2.heap.size := World.block_lt_of_cell? w2 _ HCur2.out.d0
      have hlb : ba < w2.heap.size := World.block_lt_of_cell? w2 _ HCur2.out.a0
      clear HR3 HCur1 HCur2 HRR HR HC HRA HX HPL HB0 HB1 HB2 c00 c01 c02 c10 c11 c12 c20 c21 c22
      go_wp2
      go_region_with_o (first
        | (go_at_call 35; ((with_reducible refine (HP.out _).mono ?_); rintro e w4 ⟨rfl, hb4⟩; have HB4 := Lib.hid (below_next HB3.out.drew hb4); obtain ⟨c40, c41, c42⟩ := box3_below HB4.out; have HCur4 := Lib.hid (HCur3.out.drew.below hb4); have HO4 := Lib.hid (Own.below (w := w3.drew) HO3.out hb4); have hcell4 := cell_below hb4 hcell3; clear hb4))
        | (go_at_call 36; ((with_reducible refine (HW.out _).mono ?_); rintro e w5 ⟨rfl, hb5⟩; have HB5 := Lib.hid (below_next HB4.out hb5); obtain ⟨c50, c51, c52⟩ := box3_below HB5.out; have HCur5 := Lib.hid (HCur4.out.below hb5); have HO5 := Lib.hid (HO4.out.below hb5); clear hb5))
        | (go_at_call 37; ((with_reducible refine (HA.out _).mono ?_); rintro e w6 ⟨⟨av, rfl, hown⟩, hb6⟩; have HB6 := Lib.hid (below_next HB5.out hb6); have HCur6 := Lib.hid (HCur5.out.below hb6); have HO6 := Lib.hid (HO5.out.below hb6); have HA6 := Lib.hid hown; clear hown hb6))
        | (go_at_call 41; ((with_reducible refine (sameints_calls _ _ _ _ _ HA6.out.row HO6.out.row).mono ?_); rintro e w7 ⟨rfl, n7, rfl⟩)))
      all_goals go_wp2
      all_goals
        clear HO3 HCur3 HCur4 HCur5 HP HW HA HO4 HO5 c30 c31 c32 hcell3 HB3 HB4 HB5
        go_loopw [117] (fun iv W => ∃ n : Nat, n ≤ 2 * Z + 1 ∧ iv = .int .i64 (n : Int) ∧ Hid (Mem.Own eInt 3 w2.heap.size W (.slice (some ad) Z ca3) (walkZ Z k Z o)) ∧ Hid (Cur W c ba bs Z o k (n : Int) (stepN Z k n o)) ∧ Hid (Below (w.alloc (.cells #[.int .i64 (Z : Int), .int .i64 o, .int .i64 k] 55)).heap.size (w.alloc (.cells #[.int .i64 (Z : Int), .int .i64 o, .int .i64 k] 55)) W)) (fun iv _ => 2 * Z + 1 - (intOf iv).toNat)
        case atStart => exact ⟨0, by omega, rfl, Lib.hid (HO6.out.drewN _), Lib.hid (HCur6.out.drewN _), Lib.hid (below_drewN HB6.out _)⟩
        case round =>
          obtain ⟨n, hn, rfl, HO, HC, HBw⟩ := hrel
          by_cases hlt2 : n < 2 * Z + 1
          · have ht : ((n : Int)).tmod (Z : Int) = ((n % Z : Nat) : Int) := by rw [Int.tmod_eq_emod_of_nonneg (by omega)]; rfl
            have hml : n % Z < Z := Nat.mod_lt _ (by omega)
            obtain ⟨ad', had, hcel⟩ := HO.out.row.atInt (k := n % Z) (by rw [hL3]; exact hml)
            cases had
            rw [walk_get, show stepN Z k (n % Z) o = stepN Z k n o from stepN_mod Z k o n hz2 ho0 ho1] at hcel
            have hrng := stepN_range (k := k) hz2 ho0 ho1 n
            have HD := Lib.hid (fun W (hW : Cur W c ba bs Z o k (n : Int) (stepN Z k n o)) => done_calls W c n hW.d0)
            have HN := Lib.hid (fun W hW (hO : Mem.Own eInt 3 w2.heap.size W (.slice (some ad) Z ca3) (walkZ Z k Z o)) hB => next_pack W (w.alloc (.cells #[.int .i64 (Z : Int), .int .i64 o, .int .i64 k] 55)) _ _ c ba bs ca3 Z Z o k n _ ad _ hz2 hz251 hk0 hk1 hrng.1 hrng.2 (by omega) (by omega) hW hlc hlb hL3 hO hB (Nat.le_trans hsz0 hle1) (Nat.le_trans hsz0 hle2))
            have hsucc : stepN Z k (n + 1) o = stepZ Z k (stepN Z k n o) := stepN_succ Z k n o
            have HS := Lib.hid hsucc
            have HM := Lib.hid (show stepN Z k (n % Z) o = stepN Z k n o from stepN_mod Z k o n hz2 ho0 ho1)
            clear hsucc hrng
            generalize stepN Z k n o = P at HC HD HN HS HM hcel
            generalize n % Z = m at ht hml hcel HM
            go_wp2
            go_region_with_o (first
              | (go_at_call 39; ((with_reducible refine (HD.out _ HC.out.drew).mono ?_); rintro e w8 ⟨rfl, rfl⟩))
              | (go_at_call 38; ((with_reducible refine (HN.out _ HC.out.drew (Own.drew HO.out) HBw.out.drew).mono ?_); rintro e w8 ⟨rfl, ho8, hc8, hb8⟩; obtain ⟨ad8, had8, hcel8⟩ := ho8.row.atInt (k := m) (by rw [hL3]; exact hml); cases had8; rw [walk_get, HM.out] at hcel8; have HO8 := Lib.hid ho8; have HC8 := Lib.hid hc8; have HB8 := Lib.hid hb8; clear ho8 hc8 hb8)))
            all_goals go_wp2
            all_goals go_roundw
            all_goals first
              | exact ⟨n + 1, by omega, rfl, HO8, Lib.hid (by rw [HS.out]; exact HC8.out), HB8⟩
              | (simp [intOf]; omega)
          · go_wp2
            go_ret
            exact ⟨rfl, below_allocd HBw.out⟩
end Go.Proofs.YtmpdcdfnbkfabaaDoor.Stride
