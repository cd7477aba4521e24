/- The laws of package stride. -/
import Derived.Test.YtmpdcdfnbkfabaaDoorStride2
import Derived.Test.YtmpdcdfnbkfabaaDoorHash
import Derived.Test.YtmpdcdfnbkfabaaDoorPrime2
import Derived.Test.YtmpdcdfnbkfabaaDoorErrNum
import Derived.Shelf.RegionOpenPlain
import Derived.Handy
namespace Go.Proofs.YtmpdcdfnbkfabaaDoor.Stride
open Go.RowKit Go.Proofs.YtmpdcdfnbkfabaaDoor.Mem Go.Proofs.YtmpdcdfnbkfabaaDoor.Num Go.Proofs.YtmpdcdfnbkfabaaDoor.Prime Go.Proofs.YtmpdcdfnbkfabaaDoor.PrimeP Go.Proofs.YtmpdcdfnbkfabaaDoor.Mix Go.Proofs.YtmpdcdfnbkfabaaDoor.Hash Go.Proofs.YtmpdcdfnbkfabaaDoor.Err
set_option linter.unusedVariables false
set_option linter.unusedSimpArgs false
theorem sameints_calls (v u : Value) (l m : List Int) (w : World) (hv : Row eInt w v l) (hu : Row eInt w u m) :
    Calls Tryd.prog 41 #[v, u] w fun e w' => e = .returned (.bool (decide (l = m))) ∧ ∃ n, w' = w.drewN n := by
  obtain ⟨A, ca, rfl, hca, hma, hra⟩ := hv.parts
  obtain ⟨B, cb, rfl, hcb, hmb, hrb⟩ := hu.parts
  have HA := Lib.hid hra
  have HB := Lib.hid hrb
  clear hv hu hra hrb
  by_cases hl : l.length = m.length
  · go_enter Tryd.func41, Tryd.ntmps41
    go_wp2
    go_loopw [13] (fun i W => ∃ k : Nat, k ≤ l.length ∧ i = .int .i64 (k : Int) ∧ Hid (l.take k = m.take k) ∧ ∃ n, W = w.drewN n) (fun i _ => l.length - (intOf i).toNat)
    case atStart => exact ⟨0, Nat.zero_le _, rfl, Lib.hid rfl, 0, rfl⟩
    case round =>
      obtain ⟨k, hk, rfl, htk, nd, rfl⟩ := hrel
      by_cases hlt : k < l.length
      · have hlt2 : k < m.length := by omega
        obtain ⟨ad, rfl, hcA⟩ := HA.out.atInt hlt
        obtain ⟨bd, rfl, hcB⟩ := HB.out.atInt hlt2
        by_cases heq : l[k] = m[k]
        · have hb : (l[k] == m[k]) = true := by simpa using heq
          go_wp2
          go_quiet (fail)
          go_wp2
          go_roundw
          case rel => exact ⟨k + 1, by omega, rfl, Lib.hid (by rw [List.take_succ_eq_append_getElem hlt, List.take_succ_eq_append_getElem hlt2, htk.out, heq]), _, rfl⟩
          case measure => simp [intOf]; omega
        · have hb : (l[k] == m[k]) = false := by simpa using heq
          have hd : decide (l = m) = false := decide_eq_false (fun h => heq (by subst h; rfl))
          go_wp2
          go_quiet (fail)
          go_wp2
          go_ret
          exact ⟨by rw [hd]; rfl, _, by rw [World.drewN_drewN]⟩
      · have he : decide (l = m) = true := decide_eq_true (by have := htk.out; rwa [List.take_of_length_le (by omega), List.take_of_length_le (by omega)] at this)
        go_wp2
        go_ret
        exact ⟨by rw [he]; rfl, nd, rfl⟩
  · have hd : decide (l = m) = false := decide_eq_false (fun h => hl (by rw [h]))
    have hb : ((l.length : Int) == (m.length : Int)) = false := beq_eq_false_iff_ne.mpr (by omega)
    rw [hd]
    go_enter Tryd.func41, Tryd.ntmps41
    go_wp2
    go_ret
    exact ⟨rfl, 0, rfl⟩
set_option maxRecDepth 100000 in
theorem alive_calls (w : World) : Calls Tryd.prog 31 #[] w fun e w' => e = .returned (.bool true) ∧ Below w.heap.size w w' := by
  have hr : rightB 7 3 2 = true := by decide +kernel
  have hw : walkZ 7 2 7 3 = [3, 5, 0, 2, 4, 6, 1] := by decide
  have hall := fun W => all_calls 7 3 2 W hr
  rw [show (7 : Int).toNat = 7 from rfl, hw] at hall
  have HA := Lib.hid hall
  clear hall hr hw
  go_enter Tryd.func31, Tryd.ntmps31
  go_wp2_with (first
    | (go_at_call 37; ((with_reducible refine (HA.out _).mono ?_); rintro e w1 ⟨⟨v, rfl, ho⟩, hB⟩; have HO := Lib.hid ho; have HB := Lib.hid hB; clear ho hB))
    | (go_at_call 41; ((with_reducible refine (sameints_calls _ _ [3, 5, 0, 2, 4, 6, 1] [3, 5, 0, 2, 4, 6, 1] _ (HO.out.row.alloc _) (Own.lit w1 0 eInt 3 [3, 5, 0, 2, 4, 6, 1] 7 rfl #[.int .i64 3, .int .i64 5, .int .i64 0, .int .i64 2, .int .i64 4, .int .i64 6, .int .i64 1] rfl (Nat.zero_le _) (by simp)).row).mono ?_); rintro e w2 ⟨rfl, k2, rfl⟩)))
  go_ret
  exact ⟨rfl, below_drewN (HB.out.alloc HB.out.size _) _⟩
theorem box3_frozen {w w1 : World} {a b c : Value} {t : TypeId} (h : Below (w.alloc (.cells #[a, b, c] t)).heap.size (w.alloc (.cells #[a, b, c] t)) w1) : w1.frozen? ⟨w.heap.size, 0, none⟩ = false ∧ w1.frozen? ⟨w.heap.size, 1, none⟩ = false ∧ w1.frozen? ⟨w.heap.size, 2, none⟩ = false :=
  ⟨(frozen_below h (box3 w a b c t).1).trans (cellN _ _ _ 0).2, (frozen_below h (box3 w a b c t).2.1).trans (cellN _ _ _ 1).2, (frozen_below h (box3 w a b c t).2.2).trans (cellN _ _ _ 2).2⟩
theorem Row.drew {α : Type} {E : Enc α} {w : World} {v : Value} {xs : List α} (h : Row E w v xs) : Row E w.drew v xs := h
theorem below_allocd {w w1 : World} {o : Obj} (h : Below (w.alloc o).heap.size (w.alloc o) w1) : Below w.heap.size w w1 := ((Below.refl _ _).alloc (Nat.le_refl _) o).trans (h.mono (size_alloc_le (Below.refl _ _) o))
def ofO (l : List UInt8) (z : Int) : Int := ((hof 1#64 l).toNat : Int) % z
def ofK (l : List UInt8) (z : Int) : Int := ((hof 2#64 l).toNat : Int) % (z - 1) + 1
theorem of_right (l : List UInt8) (z : Int) (h : sizedB z = true) : rightB z (ofO l z) (ofK l z) = true := by
  have hz := sized_le h
  have h1 := Int.emod_nonneg ((hof 1#64 l).toNat : Int) (show z ≠ 0 by omega)
  have h2 := Int.emod_lt_of_pos ((hof 1#64 l).toNat : Int) (show 0 < z by omega)
  have h3 := Int.emod_nonneg ((hof 2#64 l).toNat : Int) (show z - 1 ≠ 0 by omega)
  have h4 := Int.emod_lt_of_pos ((hof 2#64 l).toNat : Int) (show 0 < z - 1 by omega)
  simp only [rightB, Bool.and_eq_true, decide_eq_true_eq]
  unfold ofO ofK
  exact ⟨h, by omega, by omega, by omega, by omega⟩
theorem of_no (z : Int) (v : Value) (w : World) (e0 : Addr) (h : sizedB z = false) (he : Holds w 2 e0) :
    Calls Tryd.prog 42 #[v, .int .i64 z] w fun e w' => e = .returned (.tuple #[sv 0 0 0, .iface 131 (.pointer (some e0))]) ∧ Below w.heap.size w w' := by
  have hc : w.cell? ⟨2, 0, none⟩ = some (.iface 131 (.pointer (some e0))) := he.1
  have hca : (w.alloc (.cells #[.int .i64 0, .int .i64 0, .int .i64 0] 55)).cell? ⟨2, 0, none⟩ = some (.iface 131 (.pointer (some e0))) := cell_below ((Below.refl _ _).alloc (Nat.le_refl _) _) hc
  have hb3 := box3 w (.int .i64 0) (.int .i64 0) (.int .i64 0) 55
  obtain ⟨b0, b1, b2⟩ := hb3
  have hfz := box3_frozen (Below.refl (w.alloc (.cells #[.int .i64 0, .int .i64 0, .int .i64 0] 55)).heap.size (w.alloc (.cells #[.int .i64 0, .int .i64 0, .int .i64 0] 55)))
  obtain ⟨f0, f1, f2⟩ := hfz
  have hsz := Lib.hid (fun W => h ▸ sized_calls z W)
  clear h he
  go_enter Tryd.func42, Tryd.ntmps42
  go_wp2_with (go_at_call 67; ((with_reducible refine (hsz.out _).mono ?_); rintro e w' ⟨rfl, rfl⟩))
  have hmx : Tryd.prog.follows .mixedOrders = true := by kernel_rfl
  go_region_o
  all_goals go_wp2
  all_goals go_returns
  all_goals go_goals
  all_goals exact ⟨rfl, by go_grown⟩
theorem of_calls (z : Int) (v : Value) (l : List UInt8) (w : World) (h : sizedB z = true) (hv : Row eU8 w v l) :
    Calls Tryd.prog 42 #[v, .int .i64 z] w fun e w' => e = .returned (.tuple #[sv z (ofO l z) (ofK l z), .nilIface]) ∧ Below w.heap.size w w' := by
  have hz := sized_le h
  have hsz := Lib.hid (fun W => h ▸ sized_calls z W)
  have ho1 := fun W hv => Hash.of_calls 1#64 v l W hv
  have ho2 := fun W hv => Hash.of_calls 2#64 v l W hv
  have hb1 := fun W => below_calls (hof 1#64 l) z (by omega) W
  have hb2 := fun W => below_calls (hof 2#64 l) (z - 1) (by omega) W
  have e1 : belowZ (hof 1#64 l) z = ofO l z := by unfold belowZ ofO; rw [if_neg (by omega)]
  have e2 : belowZ (hof 2#64 l) (z - 1) + 1 = ofK l z := by unfold belowZ ofK; rw [if_neg (by omega)]
  have r1 : 0 ≤ belowZ (hof 2#64 l) (z - 1) ∧ belowZ (hof 2#64 l) (z - 1) < 251 := by
    have h3 := Int.emod_nonneg ((hof 2#64 l).toNat : Int) (show z - 1 ≠ 0 by omega)
    have h4 := Int.emod_lt_of_pos ((hof 2#64 l).toNat : Int) (show 0 < z - 1 by omega)
    unfold belowZ; rw [if_neg (by omega)]; omega
  rw [← e1, ← e2]
  clear e1 e2 h
  generalize belowZ (hof 1#64 l) z = R1 at hb1 ⊢
  generalize belowZ (hof 2#64 l) (z - 1) = R2 at hb2 r1 ⊢
  generalize hof 1#64 l = X1 at ho1 hb1
  generalize hof 2#64 l = X2 at ho2 hb2
  rw [show ((1#64 : BitVec 64).toNat : Int) = 1 from rfl] at ho1
  rw [show ((2#64 : BitVec 64).toNat : Int) = 2 from rfl] at ho2
  have HO1 := Lib.hid ho1
  have HO2 := Lib.hid ho2
  have HB1 := Lib.hid hb1
  have HB2 := Lib.hid hb2
  have HV := Lib.hid hv
  clear ho1 ho2 hb1 hb2 hv
  go_enter Tryd.func42, Tryd.ntmps42
  go_wp2_with (first
    | (go_at_call 67; ((with_reducible refine (hsz.out _).mono ?_); rintro e w' ⟨rfl, rfl⟩))
    | (go_at_call 70; ((with_reducible refine (HO1.out _ (HV.out.alloc _)).mono ?_); rintro e w1 ⟨rfl, hw1⟩; have HW1 := Lib.hid hw1; clear hw1))
    | (go_at_call 69; ((with_reducible refine (HB1.out _).mono ?_); rintro e w' ⟨rfl, rfl⟩))
    | (go_at_call 70; ((with_reducible refine (HO2.out _ ((HV.out.alloc _).below HW1.out)).mono ?_); rintro e w2 ⟨rfl, hw2⟩; have HW2 := Lib.hid (below_next HW1.out hw2); clear hw2))
    | (go_at_call 69; ((with_reducible refine (HB2.out _).mono ?_); rintro e w' ⟨rfl, rfl⟩; have hb3 := box3_below HW2.out; have hf3 := box3_frozen HW2.out; obtain ⟨b0, b1, b2⟩ := hb3; obtain ⟨f0, f1, f2⟩ := hf3; have s0 := fun u => World.cell?_setCell_same' w2 ⟨w.heap.size, 0, none⟩ u (by rw [b0]; rfl); have s1 := fun u u1 => World.cell?_setCell_same' (w2.setCell ⟨w.heap.size, 0, none⟩ u) ⟨w.heap.size, 1, none⟩ u1 (by rw [World.cell?_setCell_other _ _ _ _ (by simp), b1]; rfl); have s2 := fun u u1 u2 => World.cell?_setCell_same' ((w2.setCell ⟨w.heap.size, 0, none⟩ u).setCell ⟨w.heap.size, 1, none⟩ u1) ⟨w.heap.size, 2, none⟩ u2 (by rw [World.cell?_setCell_other _ _ _ _ (by simp), World.cell?_setCell_other _ _ _ _ (by simp), b2]; rfl))))
  refine bodyPost_ret (by simp [results, Tryd.results42, go_sem, s0, s1, s2]; try rfl) rfl ?_
  exact ⟨rfl, (((below_allocd HW2.out).setCell (Nat.le_refl _) _).setCell (Nat.le_refl _) _).setCell (Nat.le_refl _) _⟩
theorem refsized_calls (n : Int) (w : World) : Calls Tryd.prog 43 #[.int .i64 n] w fun e w' => e = .returned (.bool (sizedB n)) ∧ w = w' := by
  by_cases h : n ≤ 251
  · have hs : sizedB n = isP n := by unfold sizedB; rw [decide_eq_true h, Bool.true_and]
    rw [hs]
    go_enter Tryd.func43, Tryd.ntmps43
    go_wp2_with (go_at_call 58; ((with_reducible refine (refis_calls n _).mono ?_); rintro e w' ⟨rfl, rfl⟩))
    go_ret
    exact ⟨rfl, rfl⟩
  · have hs : sizedB n = false := by unfold sizedB; rw [decide_eq_false h, Bool.false_and]
    rw [hs]
    go_enter Tryd.func43, Tryd.ntmps43
    go_wp2
    go_ret
    exact ⟨rfl, rfl⟩
theorem refOf_calls (z : Int) (v : Value) (l : List UInt8) (w : World) (h : sizedB z = true) (hv : Row eU8 w v l) (hl : l.length ≤ 1000000) :
    Calls Tryd.prog 44 #[v, .int .i64 z] w fun e w' => e = .returned (.tuple #[.int .i64 (ofO l z), .int .i64 (ofK l z)]) ∧ Below w.heap.size w w' := by
  have hz := sized_le h
  have ho1 := fun W hv => Hash.refof_calls 1#64 v l W hv hl
  have ho2 := fun W hv => Hash.refof_calls 2#64 v l W hv hl
  unfold ofO ofK
  clear h hl
  generalize hof 1#64 l = X1 at ho1 ⊢
  generalize hof 2#64 l = X2 at ho2 ⊢
  have b1 := X1.isLt
  have b2 := X2.isLt
  have r3 := Int.emod_nonneg (X1.toNat : Int) (show z ≠ 0 by omega)
  have r4 := Int.emod_lt_of_pos (X1.toNat : Int) (show 0 < z by omega)
  have r5 := Int.emod_nonneg (X2.toNat : Int) (show z - 1 ≠ 0 by omega)
  have r6 := Int.emod_lt_of_pos (X2.toNat : Int) (show 0 < z - 1 by omega)
  have t1 : ((X1.toNat : Int)).tmod z = (X1.toNat : Int) % z := Int.tmod_eq_emod_of_nonneg (by omega)
  have hwz : IntKind.u64.wrap (z - 1) = z - 1 := by obtain ⟨k, hk⟩ : ∃ k : Nat, z - 1 = (k : Int) := ⟨(z - 1).toNat, by omega⟩; rw [hk]; exact U64.wrap_nat k (by omega)
  have t2 : ((X2.toNat : Int)).tmod (z - 1) = (X2.toNat : Int) % (z - 1) := Int.tmod_eq_emod_of_nonneg (by omega)
  have v1 : IntKind.i64.wrap ((X1.toNat : Int) % z) = (X1.toNat : Int) % z := by rw [IntKind.wrap_i64]; omega
  have v2 : IntKind.i64.wrap ((X2.toNat : Int) % (z - 1)) = (X2.toNat : Int) % (z - 1) := by rw [IntKind.wrap_i64]; omega
  have v3 : IntKind.i64.wrap (1 + (X2.toNat : Int) % (z - 1)) = 1 + (X2.toNat : Int) % (z - 1) := by rw [IntKind.wrap_i64]; omega
  rw [show ((1#64 : BitVec 64).toNat : Int) = 1 from rfl] at ho1
  rw [show ((2#64 : BitVec 64).toNat : Int) = 2 from rfl] at ho2
  have HO1 := Lib.hid ho1
  have HO2 := Lib.hid ho2
  have HV := Lib.hid hv
  clear ho1 ho2 hv
  have hmx : Tryd.prog.follows .mixedOrders = true := by kernel_rfl
  go_enter Tryd.func44, Tryd.ntmps44
  go_wp2
  go_region_with_o (first
    | (go_at_call 71; ((with_reducible refine (HO1.out _ (Row.drew HV.out)).mono ?_); rintro e w1 ⟨rfl, hw1⟩; have HW1 := Lib.hid hw1; clear hw1))
    | (go_at_call 71; ((with_reducible refine (HO2.out _ ((Row.drew HV.out).below HW1.out)).mono ?_); rintro e w2 ⟨rfl, hw2⟩; have HW2 := Lib.hid (below_next HW1.out hw2); clear hw2)))
  all_goals go_wp2
  all_goals go_ret2
  all_goals exact ⟨by simp [v1, v2, v3, Act.put, Int.add_comm], (Below.refl w.heap.size w).drew.trans HW2.out⟩
end Go.Proofs.YtmpdcdfnbkfabaaDoor.Stride
