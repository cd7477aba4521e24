/- The law StrideOnce. -/
import Derived.Test.YtmpdcdfnbkfabaaDoorStride5
import Derived.Test.YtmpdcdfnbkfabaaDoorAlt
import Derived.Maps.OwnSet
import Derived.Maps.OwnOps
namespace Go.Proofs.YtmpdcdfnbkfabaaDoor.Stride
open Go.RowKit Go.Proofs.YtmpdcdfnbkfabaaDoor.Mem Go.Proofs.YtmpdcdfnbkfabaaDoor.Num Go.Proofs.YtmpdcdfnbkfabaaDoor.Prime Go.Proofs.YtmpdcdfnbkfabaaDoor.PrimeP Go.Proofs.YtmpdcdfnbkfabaaDoor.Mix Go.Proofs.YtmpdcdfnbkfabaaDoor.Hash Go.Proofs.YtmpdcdfnbkfabaaDoor.Err
open Go.Maps
set_option linter.unusedVariables false
set_option linter.unusedSimpArgs false
set_option maxRecDepth 100000
theorem plainElem_bool_inv {H : Type} {P : Program} {e : TypeId} (he : P.underlying e = some .bool) {v : Value} {x : Bool} {ps : List MemPlace} (h : plainElem (H := H) P e v = some (.lit (.bool x), ps)) : v = .bool x := by
  unfold plainElem at h
  rw [he] at h
  cases v <;> simp at h
  rw [h.1]
/-- 'm[k]' at elements that are bools, at a key that isn't there. -/
theorem lookup_none {P : Program} {k t e : TypeId} {w : World} {b n : Nat} {D : DataW Unit} (h : w.ownsMap P k (plainElem P e) b n D) (K : Keyed P k) (ht : P.underlying t = some (.map k e)) (he : P.underlying e = some .bool) (hz : (zeroValue e).run P w = .ok (.bool false) w)
    {key : Value} {kl : Lit} (hkey : keyOf P k key = some kl) (hno : Maps.has D kl = false) : (Instr.lookup t (.map (some b)) key false).run P w = .ok (.bool false) w := by
  obtain ⟨v, ps, hrun, hv⟩ := h.lookup K ht hz (plainElem_bool he false) hkey
  rw [atKey_of_not_has hno] at hv
  rw [hrun, plainElem_bool_inv he hv]
theorem place_back (z o k : Int) (j : Nat) (h : rightB z o k = true) (hj : (j : Int) < z) : placeZ z o k ((j : Int) + z) = stepN z k j o := by
  obtain ⟨hz, ho0, ho1, hk0, hk1⟩ := right_parts h
  obtain ⟨hz2, hz251, hpr⟩ := sized_le hz
  rw [stepN_eq z k j o hz2 ho0 ho1]
  unfold placeZ
  rw [Int.add_emod_right, Int.emod_eq_of_lt (by omega) hj]
/-- What has been seen before round j. -/
structure SInv (z o k : Int) (mb : Nat) (w0 W : World) (j : Nat) (D : DataW Unit) : Prop where
  own : W.ownsMap Tryd.prog 3 (plainElem Tryd.prog 4) mb j D
  tidy : Tidy D
  size : Maps.size D = j
  has : ∀ p : Int, Maps.has D (.int .i64 p) = true → ∃ i : Nat, i < j ∧ stepN z k i o = p
  alt : Alt (fun b => b = mb) w0 W
theorem SInv.grown {z o k : Int} {mb : Nat} {w0 W W1 : World} {j : Nat} {D : DataW Unit} (h : SInv z o k mb w0 W j D) (hb : Below W.heap.size W W1) : SInv z o k mb w0 W1 j D :=
  ⟨h.own.kept (row := none) ⟨hb.os, hb.tape, hb.output, hb.size, fun k hk _ => hb.block k hk⟩ (by simp), h.tidy, h.size, h.has, h.alt.trans (Alt.of_below hb)⟩
theorem SInv.fresh {z o k : Int} {mb : Nat} {w0 W : World} {j : Nat} {D : DataW Unit} (h : SInv z o k mb w0 W j D) (hr : rightB z o k = true) (hj : (j : Int) < z) : Maps.has D (.int .i64 (stepN z k j o)) = false := by
  cases hh : Maps.has D (.int .i64 (stepN z k j o)) with
  | false => rfl
  | true =>
    obtain ⟨i, hi, he⟩ := h.has _ hh
    have h1 := (step_iff z o k _ i hr (by omega)).1 he
    have h2 := (step_iff z o k _ j hr hj).1 rfl
    omega
theorem SInv.push {z o k : Int} {mb : Nat} {w0 W W1 : World} {j : Nat} {D : DataW Unit} (h : SInv z o k mb w0 W j D) (hno : Maps.has D (.int .i64 (stepN z k j o)) = false)
    (ho : W1.ownsMap Tryd.prog 3 (plainElem Tryd.prog 4) mb (j + 1) (D.put (.int .i64 (stepN z k j o)) (.lit (.bool true)))) (hg : W.grownBy W1 (some mb)) : SInv z o k mb w0 W1 (j + 1) (D.put (.int .i64 (stepN z k j o)) (.lit (.bool true))) := by
  have hk : WideAt.IsKeyLit (.int .i64 (stepN z k j o)) := trivial
  refine ⟨ho, h.tidy.put hk _, ?_, fun p hp => ?_, h.alt.trans (Alt.of_grown hg (fun k hk => by cases hk; rfl))⟩
  · rw [size_put h.tidy, hno, h.size]; rfl
  · by_cases he : p = stepN z k j o
    · exact ⟨j, by omega, he.symm⟩
    · rw [has_put_other (by simpa using he)] at hp
      obtain ⟨i, hi, e⟩ := h.has p hp
      exact ⟨i, by omega, e⟩
def Errs1 (w : World) (es : List Addr) : Prop := ∃ e0, es = [e0] ∧ Holds w 2 e0
theorem SInv.start {z o k : Int} {w1 w2 : World} {cs : Array Value} {t : TypeId} (hb : Below ((w1.alloc (.cells cs t)).alloc (.map #[] 0)).heap.size ((w1.alloc (.cells cs t)).alloc (.map #[] 0)) w2) :
    SInv z o k (w1.heap.size + 1) w2 w2 0 (.map []) ∧ Box w1.heap.size cs w2 := by
  have h := World.ownsMap_made (w1.alloc (.cells cs t)) Tryd.prog 3 (plainElem (H := Unit) Tryd.prog 4)
  rw [show (w1.alloc (.cells cs t)).heap.size = w1.heap.size + 1 by simp] at h
  exact ⟨⟨h.kept (row := none) ⟨hb.os, hb.tape, hb.output, hb.size, fun k hk _ => hb.block k hk⟩ (by simp), tidy_empty, rfl, fun p hp => by simp [Maps.has] at hp, Alt.refl _ _⟩, ((Box.new w1 cs t _ rfl).alloc _).below hb⟩
theorem zeroB (w : World) : (zeroValue 4).run Tryd.prog w = .ok (.bool false) w := by kernel_rfl
theorem once_no (z : Int) (v : Value) (l : List UInt8) (w : World) (es : List Addr) (he : Errs1 w es) (hv : Row eU8 w v l) (hl : l.length ≤ 9223372036854775807) (h500 : ¬500 < l.length) (h : sizedB z = false) :
    Calls Tryd.prog 8 #[v, .int .i64 z] w fun e w' => e = .returned (.bool true) ∧ Below w.heap.size w w' := by
  have hr := hv
  obtain ⟨A, ca, rfl, hca, hma, hra⟩ := hv.parts
  obtain ⟨e0, hes, hh0⟩ := he
  have HE := Lib.hid hh0
  have HV := Lib.hid hr
  clear hh0 hr hv hca hma hra
  have hno := Lib.hid (fun W e0 he => of_no z (.slice A l.length ca) W e0 h he)
  have hall := Lib.hid (fun W => all_no 0 0 0 W rfl)
  clear h
  go_enter Tryd.func8, Tryd.ntmps8
  go_wp2_with (first
    | (go_at_call 31; ((with_reducible refine (alive_calls _).mono ?_); rintro e w0 ⟨rfl, hb0⟩; have HB0 := Lib.hid hb0; have HE0 := Lib.hid (HE.out.below hb0); clear hb0))
    | (go_at_call 42; ((with_reducible refine (hno.out _ _ HE0.out).mono ?_); rintro e w1 ⟨rfl, hb1⟩; have HB1 := Lib.hid (below_next HB0.out hb1); clear hb1))
    | (go_at_call 37; ((with_reducible refine (hall.out _).mono ?_); rintro e w2 ⟨rfl, hb2⟩)))
  go_ret
  exact ⟨rfl, below_next HB1.out (below_allocd hb2)⟩
set_option maxHeartbeats 4000000 in
theorem once_yes (Z : Nat) (v : Value) (l : List UInt8) (w : World) (hv : Row eU8 w v l) (hl : l.length ≤ 9223372036854775807) (h500 : ¬500 < l.length) (h : sizedB (Z : Int) = true) :
    Calls Tryd.prog 8 #[v, .int .i64 (Z : Int)] w fun e w' => e = .returned (.bool true) ∧ Below w.heap.size w w' := by
  have hr := hv
  obtain ⟨A, ca, rfl, hca, hma, hra⟩ := hv.parts
  have HV := Lib.hid hr
  clear hr hv hca hma hra
  have hrt := of_right l Z h
  have hof := Lib.hid (fun W hv => of_calls Z (.slice A l.length ca) l W h hv)
  clear h
  generalize ofO l Z = o at hof hrt
  generalize ofK l Z = k at hof hrt
  obtain ⟨hz, ho0, ho1, hk0, hk1⟩ := right_parts hrt
  obtain ⟨hz2, hz251, _⟩ := sized_le hz
  have HRT := Lib.hid hrt
  have HA := Lib.hid (fun W => (Int.toNat_natCast Z) ▸ all_calls Z o k W hrt)
  have HL3 := Lib.hid (show (walkZ Z k Z o).length = Z from walkZ_length Z k Z o)
  clear hrt hz
  have hmm := @run_makeMap Tryd.prog
  go_enter Tryd.func8, Tryd.ntmps8
  go_wp2_with (first
    | (go_at_call 31; ((with_reducible refine (alive_calls _).mono ?_); rintro e w0 ⟨rfl, hb0⟩; have HB0 := Lib.hid hb0; clear hb0))
    | (go_at_call 42; ((with_reducible refine (hof.out _ (HV.out.below HB0.out)).mono ?_); rintro e w1 ⟨rfl, hb1⟩; have HB1 := Lib.hid (below_next HB0.out hb1); clear hb1))
    | (go_at_call 37; ((with_reducible refine (HA.out _).mono ?_); rintro e w2 ⟨⟨rv, rfl, hown⟩, hb2⟩; have hrow := hown.row; have hblk := Lib.hid hown.block; obtain ⟨hs2, hx2⟩ := SInv.start (z := (Z : Int)) (o := o) (k := k) hb2; have HS2 := Lib.hid hs2; have HX2 := Lib.hid hx2; have HB2 := Lib.hid (below_next HB1.out (below_allocd (below_allocd hb2))); obtain ⟨A3, ca3, rfl, hc3, hm3, _⟩ := hrow.parts; rw [HL3.out] at hblk hown hc3; have HO2 := Lib.hid hown; clear hown hb2 hs2 hx2 hrow)))
  rw [HL3.out]
  generalize hmb : w1.heap.size + 1 = mb at HS2
  have hbb : w1.heap.size ≠ mb := by omega
  have HMB := Lib.hid (show w.heap.size ≤ mb by have := HB1.out.size; omega)
  go_loopw [31] (fun iv W => ∃ (j : Nat) (D : DataW Unit), j ≤ Z ∧ iv = .int .i64 (j : Int) ∧ Hid (SInv (Z : Int) o k mb w2 W j D)) (fun iv _ => Z - (intOf iv).toNat)
  case atStart => exact ⟨0, _, Nat.zero_le _, rfl, HS2⟩
  case round =>
    obtain ⟨j, D, hj, rfl, HI⟩ := hrel
    have HBW := Lib.hid (below_alt HB2.out HI.out.alt HB2.out.size (fun k hk => by have := HMB.out; omega))
    by_cases hlt : j < Z
    · have hoff : ∀ q, (Value.slice A3 Z ca3).ownBlock = some q → ¬ q = mb := fun q hq e => by have := (hblk.out q hq).1; simp at this; omega
      obtain ⟨ad, rfl, hcell⟩ := (HO2.out.alt HI.out.alt hoff).row.atInt (k := j) (by rw [HL3.out]; exact hlt)
      rw [walk_get] at hcell
      have HX := Lib.hid (HX2.out.alt HI.out.alt hbb)
      obtain ⟨x0, x1, x2⟩ := HX.out.c3
      have hno := HI.out.fresh HRT.out (by omega)
      have hrng := stepN_range (k := k) hz2 ho0 ho1 j
      have hwf : (Lit.int .i64 (stepN Z k j o)).wf = true := WalkArith.wf_i64 (by omega)
      have hkey := keyOf_int_mk (P := Tryd.prog) Tryd.underlying3 hwf
      have hlk := lookup_none (P := Tryd.prog) HI.out.own (int_keyed Tryd.underlying3) Tryd.underlying67 Tryd.underlying4 (zeroB _) hkey hno
      have HN := Lib.hid hno
      have HK := Lib.hid hkey
      have HP := Lib.hid (fun W W1 D h hno ho hg => SInv.push (z := Z) (o := o) (k := k) (mb := mb) (w0 := w2) (W := W) (W1 := W1) (j := j) (D := D) h hno ho hg)
      have ew : whenN Z o k (stepN Z k j o) = (j : Int) := ((step_iff Z o k _ j HRT.out (by omega)).1 rfl).symm
      have ep := place_back Z o k j HRT.out (by omega)
      have kw := fun (W : World) => when_calls Z o k (stepN Z k j o) W HRT.out
      rw [ew] at kw
      have kp := fun (W : World) => place_calls Z o k ((j : Int) + (Z : Int)) W HRT.out
      rw [ep] at kp
      have KW := Lib.hid kw
      have KP := Lib.hid kp
      clear ew ep kw kp
      clear hno hkey hwf hoff
      generalize stepN Z k j o = p at hcell hlk HN HK HP KW KP hrng
      go_wp2_with (first
        | (go_at_call 36; ((with_reducible refine (KW.out _).mono ?_); rintro e w3 ⟨rfl, hb3⟩; have HI3 := Lib.hid (HI.out.grown hb3); have HX3 := Lib.hid (HX.out.below hb3); obtain ⟨y0, y1, y2⟩ := HX3.out.c3; clear hb3))
        | (go_at_call 35; ((with_reducible refine (KP.out _).mono ?_); rintro e w4 ⟨rfl, hb4⟩; have HI4 := Lib.hid (HI3.out.grown hb4); clear hb4))
        | (at_mapUpdate; refine wpList_mapUpdate_own _ rfl _ _ _ 67 rfl 3 4 (int_keyed Tryd.underlying3) Tryd.underlying67 _ mb j D rfl HI4.out.own (by unfold maxLen; omega) _ _ _ rfl rfl HK.out _ [] (plainElem_bool Tryd.underlying4 true) ?_; intro w5 hown5 hg5; have HI5 := Lib.hid (HP.out _ _ _ HI4.out HN.out hown5 hg5)))
      exact ⟨⟨j + 1, _, by omega, rfl, HI5⟩, by simp [intOf]; omega⟩
    · have hjz : j = Z := by omega
      subst hjz
      go_wp2_with (at_len; refine wpList_len_own _ rfl _ 67 rfl 3 4 Tryd.underlying67 _ mb _ D rfl HI.out.own ?_; rw [HI.out.size])
      go_ret
      exact ⟨by simp, HBW.out⟩
theorem once_calls (z : Int) (v : Value) (l : List UInt8) (w : World) (es : List Addr) (he : Errs1 w es) (hv : Row eU8 w v l) (hl : l.length ≤ 9223372036854775807) :
    Calls Tryd.prog 8 #[v, .int .i64 z] w fun e w' => e = .returned (.bool true) ∧ Below w.heap.size w w' := by
  by_cases h500 : 500 < l.length
  · obtain ⟨A, ca, rfl, hca, hma, hra⟩ := hv.parts
    clear he hv hra
    go_enter Tryd.func8, Tryd.ntmps8
    go_wp2_with (go_at_call 31; ((with_reducible refine (alive_calls _).mono ?_); rintro e w0 ⟨rfl, hb0⟩))
    go_ret
    exact ⟨rfl, hb0⟩
  · cases h : sizedB z with
    | false => exact once_no z v l w es he hv hl h500 h
    | true =>
      have h2 := (sized_le h).1
      obtain ⟨Z, rfl⟩ : ∃ Z : Nat, z = Z := ⟨z.toNat, by omega⟩
      exact once_yes Z v l w hv hl h500 h
theorem once_row (W : World) (es : List Addr) (el : es.length = 2) (en : es.Nodup) (eh : ∀ (k g : Nat) (a : Addr), [2, 11][k]? = some g → es[k]? = some a → Holds W g a) (v : Value) (l : List UInt8) (hv : Row eU8 W v l) (n : Int) (hn : (Lit.int .i64 n).wf = true) :
    Calls Tryd.prog 8 #[v, .int .i64 n] W fun e W' => e = .returned (.bool true) ∧ Below W.heap.size W W' := by
  match es, el with
  | [e0, e1], _ =>
    exact once_calls n v l W [e0] ⟨e0, rfl, eh 0 _ _ rfl rfl⟩ hv (by obtain ⟨A, c, rfl, h1, h2, _⟩ := hv; unfold maxLen at h2; omega)
end Go.Proofs.YtmpdcdfnbkfabaaDoor.Stride
