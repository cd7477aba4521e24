/- The law StridePlaces. -/
import Derived.Test.YtmpdcdfnbkfabaaDoorStride5
namespace Go.Proofs.YtmpdcdfnbkfabaaDoor.Stride
open Go.RowKit Go.Proofs.YtmpdcdfnbkfabaaDoor.Mem Go.Proofs.YtmpdcdfnbkfabaaDoor.Num Go.Proofs.YtmpdcdfnbkfabaaDoor.Prime Go.Proofs.YtmpdcdfnbkfabaaDoor.PrimeP Go.Proofs.YtmpdcdfnbkfabaaDoor.Mix Go.Proofs.YtmpdcdfnbkfabaaDoor.Hash Go.Proofs.YtmpdcdfnbkfabaaDoor.Err
set_option linter.unusedVariables false
set_option linter.unusedSimpArgs false
theorem refright_calls (z o k : Int) (w : World) : Calls Tryd.prog 32 #[.int .i64 z, .int .i64 o, .int .i64 k] w fun e w' => e = .returned (.bool (rightB z o k)) ∧ w = w' := by
  have hsz := fun W => refsized_calls z W
  cases h0 : sizedB z with
  | false =>
    rw [h0] at hsz
    have HS := Lib.hid hsz
    have hr : rightB z o k = false := by unfold rightB; rw [h0, Bool.false_and]
    rw [hr]
    clear hsz h0 hr
    go_enter Tryd.func32, Tryd.ntmps32
    go_wp2_with (go_at_call 43; ((with_reducible refine (HS.out _).mono ?_); rintro e w' ⟨rfl, rfl⟩))
    go_ret
    exact ⟨rfl, rfl⟩
  | true =>
    rw [h0] at hsz
    have HS := Lib.hid hsz
    have hr : rightB z o k = (decide (0 ≤ o) && (decide (o < z) && (decide (1 ≤ k) && decide (k < z)))) := by unfold rightB; rw [h0, Bool.true_and]
    rw [hr]
    clear hsz h0 hr
    by_cases h1 : 0 ≤ o
    · by_cases h2 : o < z
      · by_cases h3 : 1 ≤ k
        · by_cases h4 : k < z
          · rw [decide_eq_true h1, decide_eq_true h2, decide_eq_true h3, decide_eq_true h4]
            go_enter Tryd.func32, Tryd.ntmps32
            go_wp2_with (go_at_call 43; ((with_reducible refine (HS.out _).mono ?_); rintro e w' ⟨rfl, rfl⟩))
            go_ret
            exact ⟨rfl, rfl⟩
          · rw [decide_eq_true h1, decide_eq_true h2, decide_eq_true h3, decide_eq_false h4]
            go_enter Tryd.func32, Tryd.ntmps32
            go_wp2_with (go_at_call 43; ((with_reducible refine (HS.out _).mono ?_); rintro e w' ⟨rfl, rfl⟩))
            go_ret
            exact ⟨by simp [h4], rfl⟩
        · rw [decide_eq_true h1, decide_eq_true h2, decide_eq_false h3]
          go_enter Tryd.func32, Tryd.ntmps32
          go_wp2_with (go_at_call 43; ((with_reducible refine (HS.out _).mono ?_); rintro e w' ⟨rfl, rfl⟩))
          go_ret
          exact ⟨rfl, rfl⟩
      · rw [decide_eq_true h1, decide_eq_false h2]
        go_enter Tryd.func32, Tryd.ntmps32
        go_wp2_with (go_at_call 43; ((with_reducible refine (HS.out _).mono ?_); rintro e w' ⟨rfl, rfl⟩))
        go_ret
        exact ⟨rfl, rfl⟩
    · rw [decide_eq_false h1]
      go_enter Tryd.func32, Tryd.ntmps32
      go_wp2_with (go_at_call 43; ((with_reducible refine (HS.out _).mono ?_); rintro e w' ⟨rfl, rfl⟩))
      go_ret
      exact ⟨rfl, rfl⟩
set_option maxRecDepth 100000 in
theorem refall_calls (z o k : Int) (w : World) (h : rightB z o k = true) : Calls Tryd.prog 40 #[.int .i64 z, .int .i64 o, .int .i64 k] w fun e w' => (∃ v, e = .returned v ∧ Mem.Own eInt 3 w.heap.size w' v (walkZ z k z.toNat o)) ∧ Below w.heap.size w w' := by
  obtain ⟨hz, ho0, ho1, hk0, hk1⟩ := right_parts h
  obtain ⟨hz2, hz251, _⟩ := sized_le hz
  clear h hz
  go_enter Tryd.func40, Tryd.ntmps40
  go_wp2
  go_loopw [7, 8] (fun ov av W => ∃ n : Nat, n ≤ z.toNat ∧ av = .int .i64 (stepN z k n o) ∧ Hid (Mem.Own eInt 3 w.heap.size W ov (walkZ z k n o)) ∧ Hid (Below w.heap.size w W) ∧ ∃ A c, ov = .slice A n c) (fun ov _ _ => z.toNat - (match ov with | .slice _ n _ => n | _ => 0))
  case atStart => exact ⟨0, by omega, rfl, Lib.hid (Mem.Own.lit w w.heap.size eInt 3 [] 0 rfl _ rfl (Nat.le_refl _) (by simp)), Lib.hid ((Below.refl _ w).alloc (Nat.le_refl _) _), _, _, rfl⟩
  case round =>
    obtain ⟨n, hn, rfl, HO, HB, A, c, rfl⟩ := hrel
    have hcap := HO.out.row.cap
    have hlen := HO.out.row.len
    rw [walkZ_length] at hlen hcap
    by_cases hlt : n < z.toNat
    · have hrng := stepN_range (k := k) hz2 ho0 ho1 n
      have hs : stepN z k (n + 1) o = (stepN z k n o + k) % z := stepN_succ z k n o
      have hw : walkZ z k (n + 1) o = walkZ z k n o ++ [stepN z k n o] := walkZ_succ z k n o
      have hwl : (walkZ z k n o).length = n := walkZ_length z k n o
      generalize walkZ z k n o = L at HO hw hwl
      generalize hW2 : walkZ z k (n + 1) o = L2 at hw
      generalize stepN z k n o = p at hrng hs hw ⊢
      generalize hS : stepN z k (n + 1) o = S at hs
      have HW := Lib.hid hw
      have HS := Lib.hid hS
      have HW2 := Lib.hid hW2
      clear hw hS hW2
      by_cases hge : z ≤ p + k
      · have hS2 : S = p + k - z := by rw [hs, show p + k = (p + k - z) + z by omega, Int.add_emod_right, Int.emod_eq_of_lt (by omega) (by omega)]; omega
        clear hs
        go_wp2_with (at_builtin; refine wp_append (E := eInt) w.heap.size rfl (.tmp 15) (.tmp 17) 60 3 _ 8 rfl Tryd.underlying60 infoInt rfl (by decide) _ _ L [p] rfl rfl (HO.out.alloc _) (Own.lit _ 0 eInt 3 [p] 1 rfl _ rfl (Nat.zero_le _) (by simp)).row (by have := HB.out.size; simp; omega) (by rw [hwl]; simp; omega) ?_; intro v1 w4 ho1 hg1 hat1; obtain ⟨A1, c1, rfl, hc1, hm1, hr1⟩ := ho1.row.parts)
        exact ⟨⟨n + 1, by omega, by rw [HS.out, hS2], Lib.hid (by rw [HW2.out, HW.out]; have h := ho1; rw [List.length_append, hwl] at h; exact h), Lib.hid (below_app (HB.out.alloc HB.out.size _) (by have := HB.out.size; simp; omega) (HO.out.alloc _) hg1), _, _, rfl⟩, by show z.toNat - (n + 1) < z.toNat - n; omega⟩
      · have hS2 : S = p + k := by rw [hs, Int.emod_eq_of_lt (by omega) (by omega)]
        clear hs
        go_wp2_with (at_builtin; refine wp_append (E := eInt) w.heap.size rfl (.tmp 15) (.tmp 17) 60 3 _ 8 rfl Tryd.underlying60 infoInt rfl (by decide) _ _ L [p] rfl rfl (HO.out.alloc _) (Own.lit _ 0 eInt 3 [p] 1 rfl _ rfl (Nat.zero_le _) (by simp)).row (by have := HB.out.size; simp; omega) (by rw [hwl]; simp; omega) ?_; intro v1 w4 ho1 hg1 hat1; obtain ⟨A1, c1, rfl, hc1, hm1, hr1⟩ := ho1.row.parts)
        exact ⟨⟨n + 1, by omega, by rw [HS.out, hS2], Lib.hid (by rw [HW2.out, HW.out]; have h := ho1; rw [List.length_append, hwl] at h; exact h), Lib.hid (below_app (HB.out.alloc HB.out.size _) (by have := HB.out.size; simp; omega) (HO.out.alloc _) hg1), _, _, rfl⟩, by show z.toNat - (n + 1) < z.toNat - n; omega⟩
    · have hnz : n = z.toNat := by omega
      subst hnz
      go_wp2
      go_ret
      exact ⟨⟨_, rfl, HO.out⟩, HB.out⟩
theorem done_calls (w : World) (c : Nat) (d : Int) (hd0 : w.cell? ⟨c, 3, none⟩ = some (.int .i64 d)) : Calls Tryd.prog 39 #[.pointer (some ⟨c, 0, none⟩)] w fun e w' => e = .returned (.int .i64 d) ∧ w = w' := by
  go_enter Tryd.func39, Tryd.ntmps39
  go_wp2
  go_ret
  exact ⟨rfl, rfl⟩
/-! The cursor of a stride that isn't right. -/
structure CurNo (w : World) (c : Nat) (d : Int) : Prop where
  d0 : w.cell? ⟨c, 3, none⟩ = some (.int .i64 d)
  f0 : w.cell? ⟨c, 4, none⟩ = some (.func (.func 66) #[] #[])
  nf : w.frozen? ⟨c, 3, none⟩ = false
theorem CurNo.below {w w1 : World} {c : Nat} {d : Int} (h : CurNo w c d) (hb : Below w.heap.size w w1) : CurNo w1 c d :=
  ⟨cell_below hb h.d0, cell_below hb h.f0, (frozen_below hb h.d0).trans h.nf⟩
theorem cursor_no (z o k : Int) (w : World) (h : rightB z o k = false) : Calls Tryd.prog 33 #[sv z o k] w fun e w' => (∃ c : Nat, e = .returned (.pointer (some ⟨c, 0, none⟩)) ∧ CurNo w' c 0 ∧ w.heap.size ≤ c) ∧ Below w.heap.size w w' := by
  have HP := Lib.hid (fun W => place_no z o k 0 W h)
  have HR := Lib.hid (fun W => h ▸ right_calls z o k W)
  clear h
  go_enter Tryd.func33, Tryd.ntmps33
  go_wp2_with (first
    | (go_at_call 35; ((with_reducible refine (HP.out _).mono ?_); rintro e w1 ⟨rfl, hB⟩; have HB := Lib.hid (below_next ((Below.refl _ w).alloc (Nat.le_refl _) (.cells #[.int .i64 z, .int .i64 o, .int .i64 k] 55)) hB); have hC1 := Lib.hid (box3_below hB); have hx := ((Below.refl _ w1).alloc (Nat.le_refl _) (.cells #[.int .i64 (-1)] 3)); have hd0 := cell_below hx hC1.out.1; have hd1 := cell_below hx hC1.out.2.1; have hd2 := cell_below hx hC1.out.2.2; clear hB))
    | (go_at_call 34; ((with_reducible refine (HR.out _).mono ?_); rintro e w2 ⟨rfl, hB2⟩; have he0 := cell_below hB2 hd0; have he1 := cell_below hB2 hd1; have he2 := cell_below hB2 hd2)))
  go_ret
  have hal := fun (o : Obj) => (Below.refl w2.heap.size w2).alloc (Nat.le_refl _) o
  have hb2 := below_next HB.out (below_allocd hB2)
  exact ⟨⟨w2.heap.size, rfl, ⟨(cellN _ _ _ 3).1, (cellN _ _ _ 4).1, (cellN _ _ _ 3).2⟩, hb2.size⟩, below_next hb2 (hal _)⟩
theorem nextno_calls (w : World) (c : Nat) (d : Int) (hd : 0 ≤ d) (hd' : d ≤ 1000000) (hc : CurNo w c d) :
    Calls Tryd.prog 38 #[.pointer (some ⟨c, 0, none⟩)] w fun e w' => e = .returned (.int .i64 (-1)) ∧ w' = w.setCell ⟨c, 3, none⟩ (.int .i64 (d + 1)) := by
  have hd0 := hc.d0
  have hf0 := hc.f0
  have hnf := hc.nf
  clear hc
  go_enter Tryd.func38, Tryd.ntmps38
  go_wp2
  go_ret
  exact ⟨rfl, rfl⟩
end Go.Proofs.YtmpdcdfnbkfabaaDoor.Stride
