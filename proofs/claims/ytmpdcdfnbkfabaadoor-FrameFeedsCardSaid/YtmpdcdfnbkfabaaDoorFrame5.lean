/- The law FrameCuts. -/
import Derived.Test.YtmpdcdfnbkfabaaDoorFrame4
namespace Go.Proofs.YtmpdcdfnbkfabaaDoor.Frame
open Go.RowKit Go.Proofs.YtmpdcdfnbkfabaaDoor.Mem Go.Proofs.YtmpdcdfnbkfabaaDoor.Num Go.Proofs.YtmpdcdfnbkfabaaDoor.Err
set_option linter.unusedVariables false
set_option linter.unusedSimpArgs false
set_option maxRecDepth 100000
attribute [-go_sem] Builtin.append_
theorem below_allocd {w w1 : World} {o : Obj} (h : Below (w.alloc o).heap.size (w.alloc o) w1) : Below w.heap.size w w1 := ((Below.refl _ _).alloc (Nat.le_refl _) o).trans (h.mono (size_alloc_le (Below.refl _ _) o))
theorem errIs_nil {es : List Addr} {u : Value} (h : ErrIs es 0 u) : u = .nilIface := by
  rcases h with ⟨_, h⟩ | ⟨k, _, h0, _⟩
  · exact h
  · omega
/-- One frame: its cells. -/
theorem RdFrs.one {w : World} {v : Value} {f : UInt8 × List UInt8} (h : RdFrs w v [f]) : ∃ (ad : Addr) (c : Nat) (xa : Option Addr) (xn xc : Nat), v = .slice (some ad) 1 c ∧ w.cell? ad = some (.int .i64 (f.1.toNat : Int)) ∧ w.cell? ⟨ad.block, ad.off + 1, none⟩ = some (.slice xa xn xc) ∧ Row eU8 w (.slice xa xn xc) f.2 := by
  obtain ⟨xs, hr, hl, hall⟩ := h
  match xs, hl with
  | [x], _ =>
    obtain ⟨A, c, rfl, h1, h2, h3, h4⟩ := hr
    cases A with
    | none => simp [h3 rfl] at h1
    | some ad =>
      have c0 := h4 ad rfl 0 (.int .i64 (x.1.toNat : Int)) rfl
      have c1 := h4 ad rfl 1 (.slice x.2.1 x.2.2.1 x.2.2.2) rfl
      obtain ⟨hk, hb⟩ := hall 0 (by simp) (by simp)
      exact ⟨ad, c, x.2.1, x.2.2.1, x.2.2.2, rfl, by rw [show f.1 = x.1 from hk.symm]; simpa [Addr.add] using c0, c1, hb⟩
theorem cutF_alive : cutF [0, 2, 7, 9] = ([(7, [9])], 0, false) := by
  rw [cutF_one (by decide) (by decide) (by decide)]
  rw [show ([0, 2, 7, 9] : List UInt8).drop (2 + frLen [0, 2, 7, 9]) = [] from by decide, cutF_few (by decide)]
  decide
set_option maxHeartbeats 4000000 in
theorem alive_calls (w : World) (es : List Addr) (he : Errs w es) : Calls Tryd.prog 16 #[] w fun e w' => e = .returned (.bool true) ∧ Below w.heap.size w w' := by
  have hc := fun W he hv => cut_calls (.slice (some ⟨w.heap.size, 0, none⟩) 4 4) [0, 2, 7, 9] W es he hv (by simp)
  rw [cutF_alive] at hc
  have HC := Lib.hid hc
  have HE := Lib.hid he
  clear hc he
  go_enter Tryd.func16, Tryd.ntmps16
  go_wp2_with (go_at_call 18; ((with_reducible refine (HC.out _ (HE.out.below ((Below.refl _ _).alloc (Nat.le_refl _) _)) (Own.lit w 0 eU8 5 [0, 2, 7, 9] 4 rfl #[.int .u8 0, .int .u8 2, .int .u8 7, .int .u8 9] rfl (Nat.zero_le _) (by simp)).row).mono ?_); rintro e w1 ⟨⟨v', u, rfl, hF, hu⟩, hB⟩; have HB1 := Lib.hid hB; obtain rfl := errIs_nil hu; obtain ⟨ad, c1, xa, xn, xc, rfl, hc0, hc1, hrow⟩ := hF.rd.one; have hcv := hrow.conv' Tryd.underlying27 Tryd.underlying5 Tryd.underlying9; clear hF hB hrow))
  go_ret
  exact ⟨rfl, below_allocd HB1.out⟩
set_option maxHeartbeats 4000000 in
theorem cuts_calls (v : Value) (l : List UInt8) (w : World) (es : List Addr) (he : Errs w es) (hv : Row eU8 w v l) (hl : l.length ≤ 9223372036854775807) :
    Calls Tryd.prog 4 #[v] w fun e w' => e = .returned (.bool true) ∧ Below w.heap.size w w' := by
  have hr := hv
  obtain ⟨A, ca, rfl, hca, hma, hra⟩ := hv.parts
  have HE := Lib.hid he
  have HV := Lib.hid hr
  clear he hr hv hca hma hra
  by_cases h4 : 4000 < l.length
  · go_enter Tryd.func4, Tryd.ntmps4
    go_wp2_with (go_at_call 16; ((with_reducible refine (alive_calls _ es HE.out).mono ?_); rintro e w0 ⟨rfl, hb0⟩))
    go_ret
    exact ⟨rfl, hb0⟩
  · have hln := cutF_len l
    have KB := Lib.hid (fun W hv => bytes_calls (.slice A l.length ca) l W hv (by omega))
    have KC := Lib.hid (fun W v he hv => cut_calls v l W es he hv (by omega))
    have KR := Lib.hid (fun W hv => refcut_calls (.slice A l.length ca) l W hv (by omega))
    have KO := Lib.hid (fun W v hv => of_calls v (cutF l).1 W hv (by omega))
    have KS := Lib.hid (fun W v u hv hu => same_calls v u (cutF l).1 W hv hu)
    clear hln
    generalize (cutF l).1 = fs at KC KR KO KS
    generalize (cutF l).2.1 = n at KC KR
    cases hb : (cutF l).2.2
    all_goals
      rw [hb] at KC KR
      clear hb
      go_enter Tryd.func4, Tryd.ntmps4
      go_wp2_with (first
        | (go_at_call 16; ((with_reducible refine (alive_calls _ es HE.out).mono ?_); rintro e w0 ⟨rfl, hb0⟩; have HB0 := Lib.hid hb0; clear hb0))
        | (go_at_call 17; ((with_reducible refine (KB.out _ (HV.out.below HB0.out)).mono ?_); rintro e w1 ⟨u1, rfl, hM1, hb1⟩; have HB1 := Lib.hid (below_next HB0.out hb1); have HM1 := Lib.hid hM1; clear hM1 hb1))
        | (go_at_call 18; ((with_reducible refine (KC.out _ _ (HE.out.below HB1.out) (HM1.out.row (by omega))).mono ?_); rintro e w2 ⟨⟨v2, u2, rfl, hF2, hu2⟩, hb2⟩; have HB2 := Lib.hid (below_next HB1.out hb2); have HM2 := Lib.hid (HM1.out.below hb2); have HF2 := Lib.hid hF2.rd; have HU2 := Lib.hid hu2; clear hF2 hu2 hb2))
        | (go_at_call 19; ((with_reducible refine (KR.out _ (HV.out.below HB2.out)).mono ?_); rintro e w3 ⟨⟨v3, rfl, hF3⟩, hb3⟩; have HB3 := Lib.hid (below_next HB2.out hb3); have HM3 := Lib.hid (HM2.out.below hb3); have HF3 := Lib.hid hF3.rd; have HG3 := Lib.hid (HF2.out.below hb3); clear hF3 hb3))
        | (go_at_call 21; ((with_reducible refine (KO.out _ _ HG3.out).mono ?_); rintro e w4 ⟨⟨v4, rfl, hF4⟩, hb4⟩; have HB4 := Lib.hid (below_next HB3.out hb4); have HM4 := Lib.hid (HM3.out.below hb4); have HF4 := Lib.hid hF4; have HG4 := Lib.hid (HF3.out.below hb4); clear hF4 hb4))
        | (go_at_call 20; ((with_reducible refine (KS.out _ _ _ HF4.out HG4.out).mono ?_); rintro e w5 ⟨rfl, k5, rfl⟩; have KN := Lib.hid (fun m => numU (w4.drewN m) es (HE.out.below (below_drewN HB4.out m)) _ _ HU2.out)))
        | (go_at_call 22; ((with_reducible refine (KN.out _).mono ?_); rintro e w6 ⟨rfl, hb6⟩; have HB6 := Lib.hid (below_next (below_drewN HB4.out _) hb6); have HM6 := Lib.hid ((show Marked _ (w4.drewN _) _ _ from HM4.out).below hb6); clear hb6))
        | (go_at_call 23; ((with_reducible refine (kept_calls _ _ _ l _ HM6.out (HV.out.below HB6.out) (by omega)).mono ?_); rintro e w7 ⟨rfl, k7, rfl⟩)))
      go_ret
      exact ⟨rfl, below_drewN HB6.out _⟩
theorem cuts_row (W : World) (es : List Addr) (el : es.length = 18) (en : es.Nodup) (eh : ∀ (k g : Nat) (a : Addr), gl[k]? = some g → es[k]? = some a → Holds W g a) (v : Value) (l : List UInt8) (hv : Row eU8 W v l) :
    Calls Tryd.prog 4 #[v] W fun e W' => e = .returned (.bool true) ∧ Below W.heap.size W W' :=
  cuts_calls v l W es (errs_of W es el en eh) hv (by obtain ⟨A, c, rfl, h1, h2, _⟩ := hv; unfold maxLen at h2; omega)
end Go.Proofs.YtmpdcdfnbkfabaaDoor.Frame
