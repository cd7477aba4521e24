/- The law FrameFeeds. -/
import Derived.Test.YtmpdcdfnbkfabaaDoorFrameF2
import Derived.Test.YtmpdcdfnbkfabaaDoorOpen
import Derived.OpenShut
namespace Go.Proofs.YtmpdcdfnbkfabaaDoor.Frame
open Go.RowKit Go.Proofs.YtmpdcdfnbkfabaaDoor.Mem Go.Proofs.YtmpdcdfnbkfabaaDoor.Num Go.Proofs.YtmpdcdfnbkfabaaDoor.Err Go.Proofs.YtmpdcdfnbkfabaaDoor.Clone
set_option linter.unusedVariables false
set_option linter.unusedSimpArgs false
set_option maxRecDepth 100000
attribute [-go_sem] Builtin.append_
open Go.Proofs.YtmpdcdfnbkfabaaDoor.Open Go.WideShapes in
def IsParts (W : World) (v : Value) : Prop := ∃ xs : List Pt, Row ePt W v xs ∧ ∀ (i : Nat) (hi : i < xs.length), PtOk W xs[i]
open Go.Proofs.YtmpdcdfnbkfabaaDoor.Open Go.WideShapes in
theorem isParts {H : Type} {enc : TypeId × Value → H} {W : World} {base : Nat} {sp : Nat → Bool} {held : Bool} {v : Value} {d : DataW H} {ps : List MemPlace} (hv : Value.okWide Tryd.prog W .any base 42 v) (h : DataW.Trod enc Tryd.prog W 0 sp held 42 v d ps) : IsParts W v := by
  have hcs : Tryd.prog.cellsOf 27 = ePt.sz := by kernel_rfl
  have hcu : Tryd.prog.cellsOf 5 = eU8.sz := by kernel_rfl
  obtain ⟨a, n, c, rfl⟩ := okWide_slice Tryd.underlying42 hv
  obtain ⟨u, xs, hu, hrow, hq⟩ := (Rd.of h).row (E := ePt) (Q := PtOk W) Tryd.underlying42 hcs (fun ds hd => by
    obtain ⟨v, l, hv, hr, _⟩ := hd.row (E := eU8) (Q := fun _ => True) Tryd.underlying27 hcu (fun ds h => by obtain ⟨x, hx⟩ := h.u8 Tryd.underlying5; exact ⟨x, hx, trivial⟩)
    obtain ⟨A, c, rfl, h2, h3, h4, h5⟩ := hr
    exact ⟨(A, l.length, c), hv, l, A, c, rfl, h2, h3, h4, h5⟩)
  cases hu
  exact ⟨xs, hrow, hq⟩
theorem two_len {r : Bool} {A : Option Addr} {c b : Nat} {n : Int} {w : World} {m : Nat} {k : Nat} (h : Box b #[.slice A k c, .bool r, .int .i64 n] w) (hk : k = m) : Box b #[.slice A m c, .bool r, .int .i64 n] w := hk ▸ h
set_option maxHeartbeats 8000000 in
theorem feeds_calls (A : Option Addr) (c : Nat) (xs : List Pt) (w : World) (es : List Addr) (he : Errs w es) (hv : Row ePt w (.slice A xs.length c) xs) (hq : ∀ (i : Nat) (hi : i < xs.length), PtOk w xs[i]) (hlen : xs.length ≤ 9223372036854775807) :
    Calls Tryd.prog 5 #[.slice A xs.length c] w fun e w' => e = .returned (.bool true) ∧ Below w.heap.size w w' := by
  have HE := Lib.hid he
  have HV := Lib.hid hv
  have HQ := Lib.hid hq
  clear he hv hq
  by_cases h30 : 30 < xs.length
  · go_enter Tryd.func5, Tryd.ntmps5
    go_wp2_with (go_at_call 16; ((with_reducible refine (alive_calls _ es HE.out).mono ?_); rintro e w0 ⟨rfl, hb0⟩))
    go_ret
    exact ⟨rfl, hb0⟩
  · go_enter Tryd.func5, Tryd.ntmps5
    go_wp2_with (first
      | (go_at_call 16; ((with_reducible refine (alive_calls _ es HE.out).mono ?_); rintro e w0 ⟨rfl, hb0⟩; have HB0 := Lib.hid hb0; clear hb0))
      | (go_at_call 24; ((with_reducible refine (new_calls _).mono ?_); rintro e w1 ⟨rfl, rfl⟩)))
    obtain ⟨b, hb⟩ : ∃ b, w0.heap.size = b := ⟨_, rfl⟩
    have HS := Lib.hid (FInv.start w w0 HB0.out b hb)
    rw [hb]
    clear hb HB0
    go_loopw [4, 5, 28] (fun av gv iv W => ∃ (k : Nat) (wv : Value) (l : List UInt8), k ≤ xs.length ∧ iv = .int .i64 (k : Int) ∧ l.length ≤ 1500 * k ∧ Hid (FInv w b l (cutF l).1 wv av gv W)) (fun _ _ iv _ => xs.length - (intOf iv).toNat)
    case atStart => exact ⟨0, _, [], Nat.zero_le _, rfl, Nat.zero_le _, Lib.hid (by rw [show cutF [] = ([], 0, false) from cutF_few (by simp)]; exact HS.out)⟩
    case round =>
      obtain ⟨k, wv, l, hk, rfl, hll, HI⟩ := hrel
      by_cases hlt : k < xs.length
      · obtain ⟨ad, rfl, hcx⟩ := (HV.out.below HI.out.below).at1 hlt
        obtain ⟨p, hrow⟩ := HQ.out k hlt
        generalize xs[k] = x at hcx hrow
        obtain ⟨xa, xn, xc⟩ := x
        replace hrow : Row eU8 w (.slice xa xn xc) p := hrow
        have hxl := hrow.len
        have hxc := hrow.cap
        have hxm : xc ≤ 9223372036854775807 := by have := hxc.2.1; unfold maxLen at this; omega
        have hxn : xn ≤ xc := by have := hxc.1; omega
        have HR := Lib.hid hrow
        have HXL := Lib.hid hxl
        have hcx' : wr.cell? (ad.add k) = some (.slice xa xn xc) := hcx
        have hk30 : k ≤ 30 := by omega
        clear hrow hxl hcx hxc
        by_cases h15 : 1500 < xn
        · go_wp2
          go_ret
          exact ⟨rfl, HI.out.below⟩
        · have hpl : p.length ≤ 1500 := by have := HXL.out; omega
          have KR1 := Lib.hid (fun W v hv => refcut_calls v l W hv (by omega))
          cases hbr : (cutF l).2.2 with
          | true =>
            rw [hbr] at KR1
            have HBR := Lib.hid hbr
            clear hbr
            go_wp2_with (first
              | (go_at_call 19; ((with_reducible refine (KR1.out _ _ HI.out.all.row).mono ?_); rintro e w1 ⟨⟨v1, rfl, hF1⟩, hb1⟩; have HI1 := Lib.hid (HI.out.keep hb1); have HG1 : Hid (Holds w1 15 _) := Lib.hid ((HE.out.below HI1.out.below).2.2 14 (by have := HE.out.1; omega)); have HX1 := Lib.hid (HBR.out ▸ HI1.out.box); clear hF1 hb1))
              | (go_at_call 25; ((with_reducible refine (feed_no b _ _ _ _ _ HX1.out HG1.out).mono ?_); rintro e w2 ⟨rfl, k2, rfl⟩; have HE2 := Lib.hid (HE.out.below (below_drewN HI1.out.below k2)); have KN := Lib.hid (Err.num_calls (w1.drewN k2) es HE2.out 14 (by have := HE.out.1; omega))))
              | (go_at_call 22; ((with_reducible refine KN.out.mono ?_); rintro e w3 ⟨rfl, hb3⟩; have hb3' := below_next (below_drewN (Below.refl w1.heap.size w1) k2) hb3; have HI3 := Lib.hid (HI1.out.keep hb3'); have HX3 := Lib.hid (HBR.out ▸ HI3.out.box); clear hb3 hb3'))
              | (go_at_call 26; ((with_reducible refine (broken_calls b _ _ _ _ HX3.out).mono ?_); rintro e w4 ⟨rfl, rfl⟩)))
            exact ⟨⟨k + 1, wv, l, by omega, rfl, by omega, HI3⟩, by simp [intOf]; omega⟩
          | false =>
            rw [hbr] at KR1
            have HBR := Lib.hid hbr
            clear hbr
            have HAP := Lib.hid (cutF_app l p HBR.out)
            have hrl := restF_len l
            have hcl := cutF_left l
            have hcn := cutF_len l
            have HLL := Lib.hid (show (cutF (l ++ p)).1 = (cutF l).1 ++ (cutF (restF l ++ p)).1 by rw [HAP.out])
            have HBB := Lib.hid (show (cutF (l ++ p)).2.2 = (cutF (restF l ++ p)).2.2 by rw [HAP.out])
            have HNN := Lib.hid (show (restF (restF l ++ p)).length = (cutF (l ++ p)).2.1 by rw [restF_len, HAP.out])
            have hal : (l ++ p).length ≤ 1500 * (k + 1) := by rw [List.length_append]; omega
            have HAL := Lib.hid hal
            have KR2 := Lib.hid (fun W v hv => refcut_calls v (l ++ p) W hv (by omega))
            have KB := Lib.hid (cutF_left (l ++ p))
            cases hb2 : (cutF (restF l ++ p)).2.2
            all_goals
              have HB2 := Lib.hid hb2
              rw [HBB.out, hb2] at KR2
              clear hb2
              go_wp2_with (first
                | (go_at_call 19; ((with_reducible refine (KR1.out _ _ HI.out.all.row).mono ?_); rintro e w1 ⟨⟨v1, rfl, hF1⟩, hb1⟩; have HI1 := Lib.hid (HI.out.keep hb1); have HX1 := Lib.hid (HBR.out ▸ HI1.out.box); clear hF1 hb1))
                | (go_at_call 25; ((with_reducible refine (feed_calls b wv _ (restF l) p (cutF l).1.length w.heap.size w1 w es HE.out HI1.out.below HX1.out HI1.out.wait HI1.out.offw HI1.out.lb (Nat.le_refl _) HI1.out.below.size (HR.out.below HI1.out.below) (by omega) (by omega)).mono ?_); rintro e w2 ⟨⟨v2, u2, wv2, rfl, hF2, hu2, hx2, hw2⟩, ha2⟩; rw [HB2.out] at hu2 hx2; (first | (obtain rfl := errIs_nil hu2) | (obtain ⟨ek, rfl⟩ := errIs_some hu2)); have HF2 := Lib.hid hF2; have HU2 := Lib.hid hu2; have HX2 := Lib.hid hx2; have HW2 := Lib.hid hw2; have HA2 := Lib.hid ha2; have HO2 := Lib.hid (HI1.out.all.alt ha2 (fun j hj e => by rcases e with e | e; exact HI1.out.offa j hj e; exact HI1.out.apart j hj e)); have HBW := Lib.hid (below_alt HI1.out.below ha2 HI1.out.below.size (fun j e => by rcases e with e | e; exact e ▸ HI1.out.lb; exact (HI1.out.wait.block j e).1)); clear hF2 hu2 hx2 hw2 ha2))
                | (at_builtin; (refine wp_append (E := eU8) w.heap.size rfl (.tmp 61) (.tmp 62) 27 5 _ 1 rfl Tryd.underlying27 infoU8 rfl (by decide) _ _ l p rfl rfl HO2.out (HR.out.below HBW.out) HBW.out.size (by omega) ?_; intro v3 w3 ho3 hg3 hat3; obtain ⟨hI3, hC3⟩ := HI1.out.step1 HBR.out HA2.out HF2.out (by rw [HB2.out]; exact HX2.out) HW2.out ho3 hg3 hat3; obtain ⟨ys, f1, f2, f3, f4⟩ := hC3; have HI3 := Lib.hid hI3; have HF1 := Lib.hid f1; have HF2' := Lib.hid f2; have HF3 := Lib.hid f3; have HF4 := Lib.hid f4; clear ho3 hg3 hat3 hI3 f1 f2 f3 f4))
                | (go_at_call 21; ((with_reducible refine (of2_calls _ ys _ HF1.out.row (by have := HF2'.out; have := cutF_len (restF l ++ p); rw [List.length_append] at this; omega)).mono ?_); rintro e w4 ⟨⟨v4, rfl, ho4⟩, hb4⟩; have HI4 := Lib.hid (HI3.out.keep hb4); have HO4 := Lib.hid ho4; have HB4 := Lib.hid hb4; obtain ⟨XS, g1, g2, g3, g4, g5⟩ := HI4.out.got; have HG1 := Lib.hid g1; have HG2 := Lib.hid g2; have HG3 := Lib.hid g3; have HG4 := Lib.hid g4; have HG5 := Lib.hid g5; have hyl := cutF_len (restF l ++ p); rw [List.length_append] at hyl; have hxy : (XS.length + ys.length) * 32 ≤ 140737488355328 := (by have := HF2'.out; omega); clear ho4 hb4 g1 g2 g3 g4 g5 hyl))
                | (at_builtin; (refine wp_append (E := eFr) w.heap.size rfl (.tmp 64) (.tmp 66) 34 86 _ 32 rfl Tryd.underlying34 infoRFr rfl (by decide) _ _ XS ys rfl rfl HG1.out HO4.out.row HI4.out.below.size hxy ?_; intro v5 w5 ho5 hg5 hat5; have hI5 := HI4.out.step2 HB4.out HG1.out HG2.out HG3.out HG4.out HG5.out HF2'.out HF3.out HF4.out ho5 hg5 hat5; rw [← HLL.out] at hI5; have HI5 := Lib.hid hI5; clear ho5 hg5 hat5 hI5))
                | (go_at_call 19; ((with_reducible refine (KR2.out _ _ HI5.out.all.row).mono ?_); rintro e w6 ⟨⟨v6, rfl, hF6⟩, hb6⟩; have HI6 := Lib.hid (HI5.out.keep hb6); have HF6 := Lib.hid hF6.rd; obtain ⟨zs, z1, z2, z3⟩ := hF6.rd; obtain ⟨A6, c6, rfl, hc6, hm6, _⟩ := z1.parts; obtain ⟨A7, c7, e7, _⟩ := HI6.out.wait.row; have hx6 := HI6.out.box; rw [HBB.out, HB2.out, ← z2, e7] at hx6; have HX6 := Lib.hid (two_len hx6 (restF_len (l ++ p))); clear hF6 hb6 z1 z2 z3 hc6 e7 hx6))
                | (go_at_call 20; ((with_reducible refine (same_calls _ _ _ _ HI6.out.got.frs.rd HF6.out).mono ?_); rintro e w7 ⟨rfl, k7, rfl⟩; have HX7 := Lib.hid (HX6.out.below (below_drewN (Below.refl _ _) k7)); have HE7 := Lib.hid (HE.out.below (below_drewN HI6.out.below k7))))
                | (go_at_call 27; ((with_reducible refine (waits_calls b _ _ _ _ _ _ HX7.out).mono ?_); rintro e w8 ⟨rfl, rfl⟩))
                | (go_at_call 26; ((with_reducible refine (broken_calls b _ _ _ _ HX7.out).mono ?_); rintro e w8 ⟨rfl, rfl⟩))
                | (go_at_call 28; ((with_reducible refine (count_calls b _ _ _ _ HX7.out).mono ?_); rintro e w8 ⟨rfl, rfl⟩))
                | (go_at_call 22; ((with_reducible refine (numU _ es HE7.out _ _ HU2.out).mono ?_); rintro e w9 ⟨rfl, hb9⟩; have HI9 := Lib.hid (HI6.out.keep (below_next (below_drewN (Below.refl _ _) k7) hb9)))))
              exact ⟨⟨k + 1, wv2, l ++ p, by omega, rfl, HAL.out, HI9⟩, by simp [intOf]; omega⟩
      · go_wp2
        go_ret
        exact ⟨rfl, HI.out.below⟩
open Go.Proofs.YtmpdcdfnbkfabaaDoor.Open in
theorem feeds_row (W : World) (es : List Addr) (el : es.length = 18) (en : es.Nodup) (eh : ∀ (k g : Nat) (a : Addr), gl[k]? = some g → es[k]? = some a → Holds W g a) (v : Value) (hv : IsParts W v) :
    Calls Tryd.prog 5 #[v] W fun e W' => e = .returned (.bool true) ∧ Below W.heap.size W W' := by
  obtain ⟨xs, hr, hq⟩ := hv
  obtain ⟨A, c, rfl, h1, h2, hr'⟩ := hr.parts
  exact feeds_calls A c xs W es (errs_of W es el en eh) hr' hq (by omega)
end Go.Proofs.YtmpdcdfnbkfabaaDoor.Frame
