/- Package frame: Cut. -/
import Derived.Test.YtmpdcdfnbkfabaaDoorFrame
import Derived.Test.YtmpdcdfnbkfabaaDoorMemR
import Derived.ScopeJumps
import Derived.WalkMore
namespace Go.Proofs.YtmpdcdfnbkfabaaDoor.Frame
open Go.RowKit Go.Proofs.YtmpdcdfnbkfabaaDoor.Mem Go.Proofs.YtmpdcdfnbkfabaaDoor.Num Go.Proofs.YtmpdcdfnbkfabaaDoor.Err
set_option linter.unusedVariables false
set_option linter.unusedSimpArgs false
set_option maxRecDepth 100000
/-! Frames in memory. -/
abbrev Fe := UInt8 × Option Addr × Nat × Nat
def eFr : Enc Fe := ⟨fun x => [.int .i64 (x.1.toNat : Int), .slice x.2.1 x.2.2.1 x.2.2.2], 2, fun _ => rfl, fun x u hu => by
  simp only [List.mem_cons, List.not_mem_nil, or_false] at hu
  rcases hu with rfl | rfl <;> rfl, by omega⟩
abbrev Fe.body (x : Fe) : Value := .slice x.2.1 x.2.2.1 x.2.2.2
def FrOk (base : Nat) (w : World) (r : Option Nat) (x : Fe) (f : UInt8 × List UInt8) : Prop := x.1 = f.1 ∧ Own eU8 5 base w x.body f.2 ∧ (x.body.ownBlock = none ∨ x.body.ownBlock ≠ r)
/-- v is a slice of frames of the call's own. -/
def Frs (t : TypeId) (base : Nat) (w : World) (v : Value) (fs : List (UInt8 × List UInt8)) : Prop :=
  ∃ xs : List Fe, Own eFr t base w v xs ∧ xs.length = fs.length ∧ ∀ (k : Nat) (h : k < xs.length) (h' : k < fs.length), FrOk base w v.ownBlock xs[k] fs[k]
theorem Frs.nil (t : TypeId) (base : Nat) (w : World) : Frs t base w (.slice none 0 0) [] := ⟨[], Own.nil _ _ _ _, rfl, fun k h => by simp at h⟩
theorem infoFr : (Tryd.prog.info? 50).map (fun i => (i.zero, i.size, i.bytes)) = some (some (.agg #[.int .i64 0, .slice none 0 0]), 2, 32) := by kernel_rfl
theorem Frs.below {t : TypeId} {base : Nat} {w w1 : World} {v : Value} {fs : List (UInt8 × List UInt8)} (h : Frs t base w v fs) (hb : Below w.heap.size w w1) : Frs t base w1 v fs := by
  obtain ⟨xs, ho, hl, hall⟩ := h
  exact ⟨xs, ho.below hb, hl, fun k h h' => ⟨(hall k h h').1, (hall k h h').2.1.below hb, (hall k h h').2.2⟩⟩
/-- One frame more. -/
theorem Frs.push {t : TypeId} {base : Nat} {w w1 : World} {v v1 : Value} {fs : List (UInt8 × List UInt8)} {xs : List Fe} {x : Fe} {f : UInt8 × List UInt8} (hl : xs.length = fs.length)
    (hall : ∀ (k : Nat) (h : k < xs.length) (h' : k < fs.length), FrOk base w v.ownBlock xs[k] fs[k]) (hx : FrOk base w v.ownBlock x f) (ho1 : Own eFr t base w1 v1 (xs ++ [x])) (hg : w.grownBy w1 v.ownBlock) (hat : v1.ownBlock = v.ownBlock ∨ v1.ownBlock = some w.heap.size) : Frs t base w1 v1 (fs ++ [f]) := by
  have key : ∀ (y : Fe) (g : UInt8 × List UInt8), FrOk base w v.ownBlock y g → FrOk base w1 v1.ownBlock y g := by
    intro y g ⟨h1, h2, h3⟩
    refine ⟨h1, h2.kept hg h3, ?_⟩
    rcases hat with e | e
    · rw [e]; exact h3
    · rw [e]
      cases hb : y.body.ownBlock with
      | none => exact .inl rfl
      | some b =>
        right
        have := (h2.block b hb).2
        intro he
        cases he
        omega
  refine ⟨xs ++ [x], ho1, by simp [hl], fun k h h' => ?_⟩
  by_cases hk : k < xs.length
  · rw [List.getElem_append_left hk, List.getElem_append_left (by omega)]
    exact key _ _ (hall k hk (by omega))
  · have hk' : k = xs.length := by simp at h; omega
    subst hk'
    rw [List.getElem_append_right (Nat.le_refl _), List.getElem_append_right (by omega)]
    simp only [Nat.sub_self, hl, List.getElem_singleton]
    exact key _ _ hx
theorem cutF_few {r : List UInt8} (h : r.length < 2) : cutF r = ([], r.length, false) := by rw [cutF, if_pos h]
theorem cutF_bad {r : List UInt8} (h : ¬ r.length < 2) (h2 : frLen r = 0 ∨ 1200 < frLen r) : cutF r = ([], 0, true) := by rw [cutF, if_neg h, if_pos h2]
theorem cutF_short {r : List UInt8} (h : ¬ r.length < 2) (h2 : ¬ (frLen r = 0 ∨ 1200 < frLen r)) (h3 : r.length < 2 + frLen r) : cutF r = ([], r.length, false) := by rw [cutF, if_neg h, if_neg h2, if_pos h3]
theorem cutF_one {r : List UInt8} (h : ¬ r.length < 2) (h2 : ¬ (frLen r = 0 ∨ 1200 < frLen r)) (h3 : ¬ r.length < 2 + frLen r) : cutF r = ((frKind r, frBody r) :: (cutF (r.drop (2 + frLen r))).1, (cutF (r.drop (2 + frLen r))).2) := by
  rw [cutF, if_neg h, if_neg h2, if_neg h3]
theorem FrOk.below {base : Nat} {w w1 : World} {r : Option Nat} {x : Fe} {f : UInt8 × List UInt8} (h : FrOk base w r x f) (hb : Below w.heap.size w w1) : FrOk base w1 r x f := ⟨h.1, h.2.1.below hb, h.2.2⟩
theorem FrOk.new {base : Nat} {w' w3 : World} {ov : Value} {x : Fe} {f : UInt8 × List UInt8} (hov : ∀ k, ov.ownBlock = some k → base ≤ k ∧ k < w'.heap.size) (h1 : x.1 = f.1) (h : Own eU8 5 w'.heap.size w3 x.body f.2) (hb : base ≤ w'.heap.size) : FrOk base w3 ov.ownBlock x f := by
  refine ⟨h1, h.lower hb, ?_⟩
  cases hv : x.body.ownBlock with
  | none => exact .inl rfl
  | some b =>
    right
    intro he
    have h2 := (h.block b hv).1
    have h3 := (hov b he.symm).2
    omega
theorem cutF_len (l : List UInt8) : (cutF l).1.length ≤ l.length := by
  induction l using cutF.induct with
  | case1 r h => rw [cutF_few h]; simp
  | case2 r h h2 => rw [cutF_bad h h2]; simp
  | case3 r h h2 h3 => rw [cutF_short h h2 h3]; simp
  | case4 r h h2 h3 ih => rw [cutF_one h h2 h3]; simp at ih ⊢; omega
theorem frBody_eq (r : List UInt8) : ((r.take (2 + frLen r)).drop 2).drop 1 = frBody r := by unfold frBody; rw [List.drop_drop]
theorem frKind_eq (r : List UInt8) (h : 2 < r.length) (h2 : 1 ≤ frLen r) (hh : 0 < ((r.take (2 + frLen r)).drop 2).length) : ((r.take (2 + frLen r)).drop 2)[0] = frKind r := by
  unfold frKind
  rw [List.getElem_drop, List.getElem_take, List.getD_eq_getElem?_getD, List.getElem?_eq_getElem (by omega)]
  rfl
set_option maxHeartbeats 8000000 in
theorem cut_calls (v : Value) (l : List UInt8) (w : World) (es : List Addr) (he : Errs w es) (hv : Row eU8 w v l) (hl : l.length ≤ 1000000) :
    Calls Tryd.prog 18 #[v] w fun e w' => (∃ v' u, e = .returned (.tuple #[v', .int .i64 ((cutF l).2.1 : Int), u]) ∧ Frs 50 w.heap.size w' v' (cutF l).1 ∧ ErrIs es (if (cutF l).2.2 then 4 else 0) u) ∧ Below w.heap.size w w' := by
  obtain ⟨A, c, rfl, hc, hm, hr⟩ := hv.parts
  have HR0 := Lib.hid hr
  have HE := Lib.hid he
  clear hv hr he
  go_enter Tryd.func18, Tryd.ntmps18
  go_wp2
  refine wp_scope_jumps 0 (fun a' w' => ∃ (r : List UInt8) (A' : Option Addr) (c' : Nat) (ov : Value) (acc : List (UInt8 × List UInt8)) (u6 u7 u8 u9 u10 u11 u12 u13 u14 u15 u16 u17 u18 u19 u20 u21 u22 u23 u24 u25 u26 u27 u28 u29 u30 u31 u32 u33 u34 u35 u36 u37 u38 u39 u40 u41 u42 u43 u44 u45 u46 u47 u48 u49 u50 : Value), a' = { tmps := #[.slice A' r.length c', undef, .slice none 0 0, .int .i64 0, .nilIface, ov, u6, u7, u8, u9, u10, u11, u12, u13, u14, u15, u16, u17, u18, u19, u20, u21, u22, u23, u24, u25, u26, u27, u28, u29, u30, u31, u32, u33, u34, u35, u36, u37, u38, u39, u40, u41, u42, u43, u44, u45, u46, u47, u48, u49, u50], defers := [] } ∧ r.length ≤ l.length ∧ Hid (Row eU8 w (.slice A' r.length c') r) ∧ Hid (Frs 50 w.heap.size w' ov acc) ∧ Hid (cutF l = (acc ++ (cutF r).1, (cutF r).2)) ∧ Hid (Below w.heap.size w w')) (fun a' _ => match a'.tmps.getD 0 undef with | .slice _ n _ => n | _ => 0) rfl ?_ ?_
  · have HB := Lib.hid (Below.refl w.heap.size w)
    have HF := Lib.hid (Frs.nil 50 w.heap.size w)
    have HC := Lib.hid (show cutF l = ([] ++ (cutF l).1, (cutF l).2) by simp)
    go_wp2
    go_step3
    have hcap := HR0.out.cap
    have hcm : c ≤ 9223372036854775807 := by have := hcap.2.1; unfold maxLen at this; omega
    have hcl := hcap.1
    by_cases h2 : l.length < 2
    · have hcut := Lib.hid ((HC.out).trans (by rw [cutF_few h2, List.append_nil]))
      have hlt : (l.length : Int) < 2 := by omega
      go_wp2
      (try simp only [Exit.jump])
      go_ret3
      rw [hcut.out]
      exact ⟨⟨_, _, rfl, HF.out, .inl ⟨rfl, rfl⟩⟩, HB.out⟩
    · have KL := Lib.hid (long_calls _ l _ HR0.out (by omega))
      by_cases hbad : frLen l = 0 ∨ 1200 < frLen l
      · have hcut := Lib.hid ((HC.out).trans (by rw [cutF_bad h2 hbad, List.append_nil]))
        have hc3 : w.cell? ⟨1, 0, none⟩ = some (.iface 131 (.pointer (some (es[3]'(by have := HE.out.1; omega))))) := ((HE.out.below HB.out).2.2 3 (by have := HE.out.1; omega)).1
        have hdec : decide (¬ (frLen l = 0 ∨ 1200 < frLen l)) = false := decide_eq_false (fun h => h hbad)
        rw [hdec] at KL
        have HBAD := Lib.hid hbad
        clear hbad hdec
        generalize hfl : frLen l = n at KL
        clear hfl
        go_wp2_with (go_at_call 61; ((with_reducible refine KL.out.mono ?_); rintro e w2 ⟨rfl, k2, rfl⟩))
        go_quiet (fail)
        go_wp2
        (try simp only [Exit.jump])
        go_ret3
        rw [hcut.out]
        exact ⟨⟨_, _, rfl, HF.out, .inr ⟨3, by have := HE.out.1; omega, rfl, rfl⟩⟩, below_drewN HB.out _⟩
      · have hdec : decide (¬ (frLen l = 0 ∨ 1200 < frLen l)) = true := decide_eq_true hbad
        rw [hdec] at KL
        have hn1 : 1 ≤ frLen l := by omega
        have hn2 : frLen l ≤ 1200 := by omega
        by_cases h3 : l.length < 2 + frLen l
        · have hcut := Lib.hid ((HC.out).trans (by rw [cutF_short h2 hbad h3, List.append_nil]))
          clear hbad hdec
          generalize hfl : frLen l = n at KL hn1 hn2 h3
          clear hfl
          have hlt : (l.length : Int) < 2 + (n : Int) := by omega
          go_wp2_with (go_at_call 61; ((with_reducible refine KL.out.mono ?_); rintro e w2 ⟨rfl, k2, rfl⟩))
          (try simp only [Exit.jump])
          go_ret3
          rw [hcut.out]
          exact ⟨⟨_, _, rfl, HF.out, .inl ⟨rfl, rfl⟩⟩, below_drewN HB.out _⟩
        · have hcut := Lib.hid ((HC.out).trans (by rw [cutF_one h2 hbad h3]))
          have hbe := frBody_eq l
          have hke := frKind_eq l (by omega) hn1 (by simp; omega)
          obtain ⟨A1, hr1, _, _, hrow1⟩ := Row.cut (P := Tryd.prog) 27 5 Tryd.underlying27 infoU8 HR0.out 2 (2 + frLen l) (by omega) (by omega)
          have HB1 := hrow1 w (fun _ _ h => h)
          have hlen1 : ((l.take (2 + frLen l)).drop 2).length = frLen l := by rw [List.length_drop, List.length_take]; omega
          obtain ⟨A2, _, _, hr2, hrow2⟩ := Row.cut (P := Tryd.prog) 27 5 Tryd.underlying27 infoU8 HB1 1 (frLen l) (by omega) (by omega)
          have HB2 := hrow2 w (fun _ _ h => h)
          rw [List.take_of_length_le (by omega), hbe] at HB2
          obtain ⟨ad1, rfl, hcell⟩ := HB1.atU8 (k := 0) (by omega)
          rw [hke] at hcell
          have hcell0 : w.cell? ad1 = some (.int .u8 ((frKind l).toNat : Int)) := by simpa [Addr.add] using hcell
          obtain ⟨A3, _, _, hr3, hrow3⟩ := Row.cut (P := Tryd.prog) 27 5 Tryd.underlying27 infoU8 HR0.out (2 + frLen l) l.length (by omega) (Nat.le_refl _)
          have hrow3' := hrow3 w (fun _ _ h => h)
          rw [List.take_of_length_le (Nat.le_refl _)] at hrow3'
          have hlen3 : (l.drop (2 + frLen l)).length = l.length - (2 + frLen l) := by rw [List.length_drop]
          clear hbad hdec hbe hke hcell hrow1 hrow2 hrow3 hlen1 HB1
          have s1 : ∀ W, (Instr.slice 27 (.slice A l.length c) (some (.int .i64 2)) (some (.int .i64 (2 + (frLen l : Int)))) none).run Tryd.prog W = .ok (.slice (some ad1) (frLen l) (c - 2)) W := fun W => by
            have := hr1 W .i64 .i64
            rw [Nat.add_sub_cancel_left] at this
            exact this
          have s2 : ∀ W, (Instr.slice 27 (.slice (some ad1) (frLen l) (c - 2)) (some (.int .i64 1)) none none).run Tryd.prog W = .ok (.slice A2 (frLen l - 1) (c - 2 - 1)) W := fun W => by
            have := hr2 (by omega) W .i64
            rw [Nat.add_sub_cancel_left] at this
            exact this
          have s3 : ∀ W, (Instr.slice 27 (.slice A l.length c) (some (.int .i64 (2 + (frLen l : Int)))) none none).run Tryd.prog W = .ok (.slice A3 (l.drop (2 + frLen l)).length (c - (2 + frLen l))) W := fun W => by
            have := hr3 rfl W .i64
            rw [hlen3]
            exact this
          rw [← hlen3] at hrow3'
          have HB3 := HB2
          clear hr1 hr2 hr3 HB2
          have hbl : (frBody l).length = frLen l - 1 := HB3.len.symm
          generalize frLen l = n at KL hn1 hn2 h3 s1 s2 s3 HB3 hrow3' hcut hlen3 hbl
          generalize l.drop (2 + n) = rest at s3 hrow3' hcut hlen3
          generalize frKind l = kd at hcell0 hcut
          generalize frBody l = bd at HB3 hcut hbl
          have HROW := Lib.hid HB3
          have HREST := Lib.hid hrow3'
          have HCL := Lib.hid (fun W h => Clone.clone_calls (.slice A2 (n - 1) (c - 2 - 1)) bd W h (by omega))
          have hn0 : 0 < n := by omega
          have hni : (0 : Int) < (n : Int) := by omega
          have hr2' : 2 + (n : Int) ≤ (l.length : Int) := by omega
          obtain ⟨xs, hox, hlx, hallx⟩ := HF.out
          have HOX := Lib.hid hox
          have HALL := Lib.hid hallx
          have HBL := Lib.hid hbl
          have HLEN := Lib.hid hlen3
          clear HB3 hrow3' hox hallx hbl hlen3
          go_wp2_with (go_at_call 61; ((with_reducible refine KL.out.mono ?_); rintro e w2 ⟨rfl, k2, rfl⟩))
          have hwk : IntKind.i64.wrap (kd.toNat : Int) = (kd.toNat : Int) := by have := kd.toNat_lt; rw [IntKind.wrap_i64]; omega
          have hacc : ([] : List Fe).length ≤ 1000000 := by simp
          go_region_law (first
            | (refine step_append (E := eFr) w.heap.size rfl (.tmp 36) (.tmp 45) 29 50 _ 32 rfl Tryd.underlying29 infoFr rfl (by decide) _ _ xs [(kd, A4, bd.length, c4)] rfl rfl (HO3.out.alloc _) (Own.lit w3 0 eFr 50 [(kd, A4, bd.length, c4)] 1 rfl #[.int .i64 (kd.toNat : Int), .slice A4 bd.length c4] rfl (Nat.zero_le _) (by simp)).row (Nat.le_trans HB3.out.size (by simp)) (by simp; omega) ?_; intro v4 w4 ho4 hg4 hat4)
            | (go_simp; go_at_call 62; ((with_reducible refine (HCL.out _ (HROW.out.drewN _)).mono ?_); rintro e w3 ⟨⟨bv, rfl, hO3⟩, hB3⟩; have hBw := (below_drewN (Below.refl w.heap.size w) _).trans hB3; have hcell3 := cell_below hBw hcell0; obtain ⟨A4, c4, rfl, _, _, _⟩ := hO3.row.parts; have HBD := Lib.hid (hO3 : Own eU8 5 w.heap.size w3 (.slice A4 bd.length c4) bd); have HO3 := Lib.hid (HOX.out.below hBw); have HBW := Lib.hid hBw; have HB3 := Lib.hid (HB.out.trans (hBw.mono HB.out.size)); clear hO3 hB3 hBw)))
          all_goals go_wp2
          all_goals go_step3
          all_goals refine ⟨rfl, rest, A3, c - (2 + n), v4, [] ++ [(kd, bd)], _, _, _, _, _, _, _, _, _, _, _, _, _, _, _, _, _, _, _, _, _, _, _, _, _, _, _, _, _, _, _, _, _, _, _, _, _, _, _, _, _, _, _, _, _, rfl, by have := HLEN.out; omega, HREST, Lib.hid ?_, Lib.hid ?_, Lib.hid ?_⟩
          all_goals first
            | exact Frs.push hlx (fun k h h' => ((HALL.out k h h').below HBW.out).below ((Below.refl _ _).alloc (Nat.le_refl _) _)) ((FrOk.new (x := (kd, A4, bd.length, c4)) (f := (kd, bd)) HOX.out.block rfl HBD.out HB.out.size).below ((Below.refl _ _).alloc (Nat.le_refl _) _)) ho4 hg4 hat4
            | (rw [hcut.out]; simp; done)
            | exact below_app (HB3.out.alloc HB3.out.size _) (Nat.le_trans HB3.out.size (by simp)) (HO3.out.alloc _) hg4
  · rintro a' w' ⟨r, A', c', ov, acc, u6, u7, u8, u9, u10, u11, u12, u13, u14, u15, u16, u17, u18, u19, u20, u21, u22, u23, u24, u25, u26, u27, u28, u29, u30, u31, u32, u33, u34, u35, u36, u37, u38, u39, u40, u41, u42, u43, u44, u45, u46, u47, u48, u49, u50, rfl, hrl, HRw, HF, HC, HB⟩
    have HR := Lib.hid (HRw.out.below HB.out)
    have hcap := HR.out.cap
    have hcm : c' ≤ 9223372036854775807 := by have := hcap.2.1; unfold maxLen at this; omega
    have hcl := hcap.1
    by_cases h2 : r.length < 2
    · have hcut := Lib.hid ((HC.out).trans (by rw [cutF_few h2, List.append_nil]))
      have hlt : (r.length : Int) < 2 := by omega
      go_wp2
      simp only [Exit.jump]
      go_ret3
      rw [hcut.out]
      exact ⟨⟨_, _, rfl, HF.out, .inl ⟨rfl, rfl⟩⟩, HB.out⟩
    · have KL := Lib.hid (long_calls _ r _ HR.out (by omega))
      by_cases hbad : frLen r = 0 ∨ 1200 < frLen r
      · have hcut := Lib.hid ((HC.out).trans (by rw [cutF_bad h2 hbad, List.append_nil]))
        have hc3 : w'.cell? ⟨1, 0, none⟩ = some (.iface 131 (.pointer (some (es[3]'(by have := HE.out.1; omega))))) := ((HE.out.below HB.out).2.2 3 (by have := HE.out.1; omega)).1
        have hdec : decide (¬ (frLen r = 0 ∨ 1200 < frLen r)) = false := decide_eq_false (fun h => h hbad)
        rw [hdec] at KL
        have HBAD := Lib.hid hbad
        clear hbad hdec
        generalize hfl : frLen r = n at KL
        clear hfl
        go_wp2_with (go_at_call 61; ((with_reducible refine KL.out.mono ?_); rintro e w2 ⟨rfl, k2, rfl⟩))
        go_quiet (fail)
        go_wp2
        simp only [Exit.jump]
        go_ret3
        rw [hcut.out]
        exact ⟨⟨_, _, rfl, HF.out, .inr ⟨3, by have := HE.out.1; omega, rfl, rfl⟩⟩, below_drewN HB.out _⟩
      · have hdec : decide (¬ (frLen r = 0 ∨ 1200 < frLen r)) = true := decide_eq_true hbad
        rw [hdec] at KL
        have hn1 : 1 ≤ frLen r := by omega
        have hn2 : frLen r ≤ 1200 := by omega
        by_cases h3 : r.length < 2 + frLen r
        · have hcut := Lib.hid ((HC.out).trans (by rw [cutF_short h2 hbad h3, List.append_nil]))
          clear hbad hdec
          generalize hfl : frLen r = n at KL hn1 hn2 h3
          clear hfl
          have hlt : (r.length : Int) < 2 + (n : Int) := by omega
          go_wp2_with (go_at_call 61; ((with_reducible refine KL.out.mono ?_); rintro e w2 ⟨rfl, k2, rfl⟩))
          simp only [Exit.jump]
          go_ret3
          rw [hcut.out]
          exact ⟨⟨_, _, rfl, HF.out, .inl ⟨rfl, rfl⟩⟩, below_drewN HB.out _⟩
        · have hcut := Lib.hid ((HC.out).trans (by rw [cutF_one h2 hbad h3]))
          have hbe := frBody_eq r
          have hke := frKind_eq r (by omega) hn1 (by simp; omega)
          obtain ⟨A1, hr1, _, _, hrow1⟩ := Row.cut (P := Tryd.prog) 27 5 Tryd.underlying27 infoU8 HR.out 2 (2 + frLen r) (by omega) (by omega)
          have HB1 := hrow1 w' (fun _ _ h => h)
          have hlen1 : ((r.take (2 + frLen r)).drop 2).length = frLen r := by rw [List.length_drop, List.length_take]; omega
          obtain ⟨A2, _, _, hr2, hrow2⟩ := Row.cut (P := Tryd.prog) 27 5 Tryd.underlying27 infoU8 HB1 1 (frLen r) (by omega) (by omega)
          have HB2 := hrow2 w' (fun _ _ h => h)
          rw [List.take_of_length_le (by omega), hbe] at HB2
          obtain ⟨ad1, rfl, hcell⟩ := HB1.atU8 (k := 0) (by omega)
          rw [hke] at hcell
          have hcell0 : w'.cell? ad1 = some (.int .u8 ((frKind r).toNat : Int)) := by simpa [Addr.add] using hcell
          obtain ⟨A3, _, _, hr3, hrow3⟩ := Row.cut (P := Tryd.prog) 27 5 Tryd.underlying27 infoU8 HRw.out (2 + frLen r) r.length (by omega) (Nat.le_refl _)
          have hrow3' := hrow3 w (fun _ _ h => h)
          rw [List.take_of_length_le (Nat.le_refl _)] at hrow3'
          have hlen3 : (r.drop (2 + frLen r)).length = r.length - (2 + frLen r) := by rw [List.length_drop]
          clear hbad hdec hbe hke hcell hrow1 hrow2 hrow3 hlen1 HB1
          have s1 : ∀ W, (Instr.slice 27 (.slice A' r.length c') (some (.int .i64 2)) (some (.int .i64 (2 + (frLen r : Int)))) none).run Tryd.prog W = .ok (.slice (some ad1) (frLen r) (c' - 2)) W := fun W => by
            have := hr1 W .i64 .i64
            rw [Nat.add_sub_cancel_left] at this
            exact this
          have s2 : ∀ W, (Instr.slice 27 (.slice (some ad1) (frLen r) (c' - 2)) (some (.int .i64 1)) none none).run Tryd.prog W = .ok (.slice A2 (frLen r - 1) (c' - 2 - 1)) W := fun W => by
            have := hr2 (by omega) W .i64
            rw [Nat.add_sub_cancel_left] at this
            exact this
          have s3 : ∀ W, (Instr.slice 27 (.slice A' r.length c') (some (.int .i64 (2 + (frLen r : Int)))) none none).run Tryd.prog W = .ok (.slice A3 (r.drop (2 + frLen r)).length (c' - (2 + frLen r))) W := fun W => by
            have := hr3 rfl W .i64
            rw [hlen3]
            exact this
          rw [← hlen3] at hrow3'
          have HB3 := HB2
          clear hr1 hr2 hr3 HB2
          have hbl : (frBody r).length = frLen r - 1 := HB3.len.symm
          generalize frLen r = n at KL hn1 hn2 h3 s1 s2 s3 HB3 hrow3' hcut hlen3 hbl
          generalize r.drop (2 + n) = rest at s3 hrow3' hcut hlen3
          generalize frKind r = kd at hcell0 hcut
          generalize frBody r = bd at HB3 hcut hbl
          have HROW := Lib.hid HB3
          have HREST := Lib.hid hrow3'
          have HCL := Lib.hid (fun W h => Clone.clone_calls (.slice A2 (n - 1) (c' - 2 - 1)) bd W h (by omega))
          have hn0 : 0 < n := by omega
          have hni : (0 : Int) < (n : Int) := by omega
          have hr2' : 2 + (n : Int) ≤ (r.length : Int) := by omega
          obtain ⟨xs, hox, hlx, hallx⟩ := HF.out
          have HOX := Lib.hid hox
          have HALL := Lib.hid hallx
          have HBL := Lib.hid hbl
          have HLEN := Lib.hid hlen3
          clear HB3 hrow3' hox hallx hbl hlen3
          go_wp2_with (go_at_call 61; ((with_reducible refine KL.out.mono ?_); rintro e w2 ⟨rfl, k2, rfl⟩))
          have hwk : IntKind.i64.wrap (kd.toNat : Int) = (kd.toNat : Int) := by have := kd.toNat_lt; rw [IntKind.wrap_i64]; omega
          have hacc : acc.length ≤ 1000000 := by
            have h1 := cutF_len l
            rw [HC.out] at h1
            simp at h1
            omega
          go_region_law (first
            | (refine step_append (E := eFr) w.heap.size rfl (.tmp 36) (.tmp 45) 29 50 _ 32 rfl Tryd.underlying29 infoFr rfl (by decide) _ _ xs [(kd, A4, bd.length, c4)] rfl rfl (HO3.out.alloc _) (Own.lit w3 0 eFr 50 [(kd, A4, bd.length, c4)] 1 rfl #[.int .i64 (kd.toNat : Int), .slice A4 bd.length c4] rfl (Nat.zero_le _) (by simp)).row (Nat.le_trans HB3.out.size (by simp)) (by simp; omega) ?_; intro v4 w4 ho4 hg4 hat4)
            | (go_simp; go_at_call 62; ((with_reducible refine (HCL.out _ (HROW.out.drewN _)).mono ?_); rintro e w3 ⟨⟨bv, rfl, hO3⟩, hB3⟩; have hBw := (below_drewN (Below.refl w'.heap.size w') _).trans hB3; have hcell3 := cell_below hBw hcell0; obtain ⟨A4, c4, rfl, _, _, _⟩ := hO3.row.parts; have HBD := Lib.hid (hO3 : Own eU8 5 w'.heap.size w3 (.slice A4 bd.length c4) bd); have HO3 := Lib.hid (HOX.out.below hBw); have HBW := Lib.hid hBw; have HB3 := Lib.hid (HB.out.trans (hBw.mono HB.out.size)); clear hO3 hB3 hBw)))
          all_goals go_wp2
          all_goals go_step3
          all_goals refine ⟨rfl, ⟨rest, A3, c' - (2 + n), v4, acc ++ [(kd, bd)], _, _, _, _, _, _, _, _, _, _, _, _, _, _, _, _, _, _, _, _, _, _, _, _, _, _, _, _, _, _, _, _, _, _, _, _, _, _, _, _, _, _, _, _, _, rfl, by have := HLEN.out; omega, HREST, Lib.hid ?_, Lib.hid ?_, Lib.hid ?_⟩, ?_⟩
          all_goals first
            | exact Frs.push hlx (fun k h h' => ((HALL.out k h h').below HBW.out).below ((Below.refl _ _).alloc (Nat.le_refl _) _)) ((FrOk.new (x := (kd, A4, bd.length, c4)) (f := (kd, bd)) HOX.out.block rfl HBD.out HB.out.size).below ((Below.refl _ _).alloc (Nat.le_refl _) _)) ho4 hg4 hat4
            | (rw [hcut.out]; simp; done)
            | exact below_app (HB3.out.alloc HB3.out.size _) (Nat.le_trans HB3.out.size (by simp)) (HO3.out.alloc _) hg4
            | (show rest.length < r.length; have := HLEN.out; omega)
end Go.Proofs.YtmpdcdfnbkfabaaDoor.Frame
