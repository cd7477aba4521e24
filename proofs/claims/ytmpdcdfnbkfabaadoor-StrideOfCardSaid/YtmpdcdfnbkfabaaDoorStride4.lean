/- The law StrideOf. -/
import Derived.Test.YtmpdcdfnbkfabaaDoorStride3
import Derived.Test.YtmpdcdfnbkfabaaDoorSeq
namespace Go.Proofs.YtmpdcdfnbkfabaaDoor.Stride
open Go.RowKit Go.Proofs.YtmpdcdfnbkfabaaDoor.Mem Go.Proofs.YtmpdcdfnbkfabaaDoor.Num Go.Proofs.YtmpdcdfnbkfabaaDoor.Prime Go.Proofs.YtmpdcdfnbkfabaaDoor.PrimeP Go.Proofs.YtmpdcdfnbkfabaaDoor.Mix Go.Proofs.YtmpdcdfnbkfabaaDoor.Hash Go.Proofs.YtmpdcdfnbkfabaaDoor.Err Go.Proofs.YtmpdcdfnbkfabaaDoor.Seq
set_option linter.unusedVariables false
set_option linter.unusedSimpArgs false
theorem sv_eqIn (d : Nat) (a b c a' b' c' : Int) (w : World) : (Op.equalIn (d + 2) 55 (sv a b c) (sv a' b' c')).run Tryd.prog w = .ok (a == a' && (b == b' && c == c')) w := by
  rw [equalIn_sig w (d + 1) 55 _ _ [(true, 3, 0), (true, 3, 1), (true, 3, 2)] (by kernel_rfl) (by kernel_rfl) (by kernel_rfl)]
  have hi := fun (x y : Int) (W : World) => run_equalIn_int W d 3 .i64 .i64 x y Tryd.underlying3
  have hpt : ∀ (x y z : Int) W, (part 3 #[.int .i64 x, .int .i64 y, .int .i64 z] 0).run Tryd.prog W = .ok (.int .i64 x) W ∧ (part 3 #[.int .i64 x, .int .i64 y, .int .i64 z] 1).run Tryd.prog W = .ok (.int .i64 y) W ∧ (part 3 #[.int .i64 x, .int .i64 y, .int .i64 z] 2).run Tryd.prog W = .ok (.int .i64 z) W := by
    intro x y z W
    refine ⟨?_, ?_, ?_⟩ <;> simp [go_sem]
  cases h1 : (a == a') <;> cases h2 : (b == b') <;> cases h3 : (c == c') <;> simp [eqSig, hpt, hi, h1, h2, h3]
theorem sv_eq (a b c a' b' c' : Int) (w : World) : (binOp .eql 55 (sv a b c) (sv a' b' c')).run Tryd.prog w = .ok (.bool (a == a' && (b == b' && c == c'))) w :=
  eql_of w _ _ _ _ fun d => sv_eqIn (d + 2) a b c a' b' c' w
theorem sv_same (a b c : Int) (w : World) : (binOp .eql 55 (sv a b c) (sv a b c)).run Tryd.prog w = .ok (.bool true) w := by
  rw [sv_eq]; simp
attribute [-go_sem] run_eql_struct
theorem strideof_no (z : Int) (v : Value) (l : List UInt8) (w : World) (es : List Addr) (he : Errs w es) (hv : Row eU8 w v l) (hl : l.length ≤ 9223372036854775807) (h500 : ¬500 < l.length) (h : sizedB z = false) :
    Calls Tryd.prog 9 #[v, .int .i64 z] w fun e w' => e = .returned (.bool true) ∧ Below w.heap.size w w' := by
  have hr := hv
  obtain ⟨A, ca, rfl, hca, hma, hra⟩ := hv.parts
  have HE := Lib.hid he
  have HV := Lib.hid hr
  clear he hr hv hca hma hra
  have hsz := Lib.hid (fun W => h ▸ refsized_calls z W)
  have hno := Lib.hid (fun W e0 he => of_no z (.slice A l.length ca) W e0 h he)
  clear h
  have hse := sv_same 0 0 0
  go_enter Tryd.func9, Tryd.ntmps9
  go_wp2_with (first
    | (go_at_call 31; ((with_reducible refine (alive_calls _).mono ?_); rintro e w0 ⟨rfl, hb0⟩; have HB0 := Lib.hid hb0; have HE0 := Lib.hid (HE.out.below hb0); have HR0 : Hid (Holds _ 2 _) := Lib.hid (HE0.out.2.2 0 (by have := HE0.out.1; omega)); clear hb0))
    | (go_at_call 42; ((with_reducible refine (hno.out _ _ HR0.out).mono ?_); rintro e w1 ⟨rfl, hb1⟩; have HE1 := Lib.hid (HE0.out.below hb1); have hHB := HB0.out; have HB1 := Lib.hid (below_next HB0.out hb1); have KN := Lib.hid (fun W hb => Err.num_calls W es (HE1.out.below hb) 0 (by have := HE1.out.1; omega)); clear hb1))
    | (go_at_call 43; ((with_reducible refine (hsz.out _).mono ?_); rintro e w1 ⟨rfl, rfl⟩))
    | (go_at_call 22; ((with_reducible refine (KN.out _ ?_).mono ?_); rotate_left; rintro e w5 ⟨rfl, hb5⟩)))
  · go_ret
    exact ⟨rfl, below_next HB1.out (below_allocd hb5)⟩
  · go_grown
theorem strideof_yes (z : Int) (v : Value) (l : List UInt8) (w : World) (es : List Addr) (he : Errs w es) (hv : Row eU8 w v l) (hl : l.length ≤ 9223372036854775807) (h500 : ¬500 < l.length) (h : sizedB z = true) :
    Calls Tryd.prog 9 #[v, .int .i64 z] w fun e w' => e = .returned (.bool true) ∧ Below w.heap.size w w' := by
  have hr := hv
  obtain ⟨A, ca, rfl, hca, hma, hra⟩ := hv.parts
  have HE := Lib.hid he
  have HV := Lib.hid hr
  clear he hr hv hca hma hra
  have hrt := of_right l z h
  have hsz := Lib.hid (fun W => h ▸ refsized_calls z W)
  have hof := Lib.hid (fun W hv => of_calls z (.slice A l.length ca) l W h hv)
  have hro := Lib.hid (fun W hv => refOf_calls z (.slice A l.length ca) l W h hv (by omega))
  have hri := Lib.hid (fun W => hrt ▸ right_calls z (ofO l z) (ofK l z) W)
  clear h hrt
  generalize ofO l z = O at hof hro hri
  generalize ofK l z = K at hof hro hri
  have hse := sv_same z O K
  go_enter Tryd.func9, Tryd.ntmps9
  go_wp2_with (first
    | (go_at_call 31; ((with_reducible refine (alive_calls _).mono ?_); rintro e w0 ⟨rfl, hb0⟩; have HB0 := Lib.hid hb0; clear hb0))
    | (go_at_call 42; ((with_reducible refine (hof.out _ (HV.out.below HB0.out)).mono ?_); rintro e w1 ⟨rfl, hb1⟩; have HB1 := Lib.hid (below_next HB0.out hb1); clear hb1))
    | (go_at_call 43; ((with_reducible refine (hsz.out _).mono ?_); rintro e w1 ⟨rfl, rfl⟩))
    | (go_at_call 44; ((with_reducible refine (hro.out _ ((HV.out.below HB1.out).alloc _)).mono ?_); rintro e w2 ⟨rfl, hb2⟩; obtain ⟨b0, b1, b2⟩ := box3_below hb2; have HB2 := Lib.hid (below_next HB1.out (below_allocd hb2)); clear hb2))
    | (go_at_call 34; ((with_reducible refine (hri.out _).mono ?_); rintro e w3 ⟨rfl, hb3⟩)))
  go_ret
  exact ⟨rfl, below_next HB2.out hb3⟩
theorem strideof_calls (z : Int) (v : Value) (l : List UInt8) (w : World) (es : List Addr) (he : Errs w es) (hv : Row eU8 w v l) (hl : l.length ≤ 9223372036854775807) :
    Calls Tryd.prog 9 #[v, .int .i64 z] w fun e w' => e = .returned (.bool true) ∧ Below w.heap.size w w' := by
  have hr0 := hv
  have he0 := he
  have hr := hv
  obtain ⟨A, ca, rfl, hca, hma, hra⟩ := hv.parts
  have HE := Lib.hid he
  have HV := Lib.hid hr
  clear he hr hv hca hma hra
  by_cases h500 : 500 < l.length
  · go_enter Tryd.func9, Tryd.ntmps9
    go_wp2_with (go_at_call 31; ((with_reducible refine (alive_calls _).mono ?_); rintro e w0 ⟨rfl, hb0⟩))
    go_ret
    exact ⟨rfl, hb0⟩
  · cases h : sizedB z with
    | false => exact strideof_no z _ l w es he0 hr0 hl h500 h
    | true => exact strideof_yes z _ l w es he0 hr0 hl h500 h
theorem strideof_row (W : World) (es : List Addr) (el : es.length = 18) (en : es.Nodup) (eh : ∀ (k g : Nat) (a : Addr), gl[k]? = some g → es[k]? = some a → Holds W g a) (v : Value) (l : List UInt8) (hv : Row eU8 W v l) (n : Int) (hn : (Lit.int .i64 n).wf = true) :
    Calls Tryd.prog 9 #[v, .int .i64 n] W fun e W' => e = .returned (.bool true) ∧ Below W.heap.size W W' :=
  strideof_calls n v l W es (errs_of W es el en eh) hv (by obtain ⟨A, c, rfl, h1, h2, _⟩ := hv; unfold maxLen at h2; omega)
end Go.Proofs.YtmpdcdfnbkfabaaDoor.Stride
