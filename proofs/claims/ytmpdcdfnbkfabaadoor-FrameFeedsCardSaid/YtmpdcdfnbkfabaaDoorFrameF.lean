/- frame.Stream: Feed and what it tells of itself. -/
import Derived.Test.YtmpdcdfnbkfabaaDoorFrame5
import Derived.Test.YtmpdcdfnbkfabaaDoorAlt
namespace Go.Proofs.YtmpdcdfnbkfabaaDoor.Frame
open Go.RowKit Go.Proofs.YtmpdcdfnbkfabaaDoor.Mem Go.Proofs.YtmpdcdfnbkfabaaDoor.Num Go.Proofs.YtmpdcdfnbkfabaaDoor.Err Go.Proofs.YtmpdcdfnbkfabaaDoor.Clone
set_option linter.unusedVariables false
set_option linter.unusedSimpArgs false
set_option maxRecDepth 100000
attribute [-go_sem] Builtin.append_
/-! The plain law. -/
theorem cutF_left (l : List UInt8) : (cutF l).2.1 ≤ l.length := by
  induction l using cutF.induct with
  | case1 r h => rw [cutF_few h]; simp
  | case2 r h h2 => rw [cutF_bad h h2]; simp
  | case3 r h h2 h3 => rw [cutF_short h h2 h3]; simp
  | case4 r h h2 h3 ih => rw [cutF_one h h2 h3]; simp at ih ⊢; omega
/-- What waits. -/
def restF (l : List UInt8) : List UInt8 := l.drop (l.length - (cutF l).2.1)
theorem restF_len (l : List UInt8) : (restF l).length = (cutF l).2.1 := by
  have := cutF_left l
  unfold restF; rw [List.length_drop]; omega
theorem frLen_app {r b : List UInt8} (h : ¬ r.length < 2) : frLen (r ++ b) = frLen r := by
  unfold frLen
  rw [List.getD_eq_getElem?_getD, List.getD_eq_getElem?_getD, List.getD_eq_getElem?_getD, List.getD_eq_getElem?_getD, List.getElem?_append_left (by omega), List.getElem?_append_left (by omega)]
theorem cutF_app (l b : List UInt8) (h : (cutF l).2.2 = false) : cutF (l ++ b) = ((cutF l).1 ++ (cutF (restF l ++ b)).1, (cutF (restF l ++ b)).2) := by
  induction l using cutF.induct with
  | case1 r h1 =>
    have : restF r = r := by unfold restF; rw [cutF_few h1]; simp
    rw [this, cutF_few h1]; simp
  | case2 r h1 h2 => rw [cutF_bad h1 h2] at h; simp at h
  | case3 r h1 h2 h3 =>
    have : restF r = r := by unfold restF; rw [cutF_short h1 h2 h3]; simp
    rw [this, cutF_short h1 h2 h3]; simp
  | case4 r h1 h2 h3 ih =>
    have hl := cutF_left (r.drop (2 + frLen r))
    rw [List.length_drop] at hl
    have hrest : restF r = restF (r.drop (2 + frLen r)) := by
      unfold restF
      rw [cutF_one h1 h2 h3, List.drop_drop, List.length_drop]
      congr 1; simp only []; omega
    rw [cutF_one h1 h2 h3] at h
    have hi := ih h
    have e1 := frLen_app (b := b) h1
    have hk : frKind (r ++ b) = frKind r := by
      unfold frKind
      rw [List.getD_eq_getElem?_getD, List.getD_eq_getElem?_getD, List.getElem?_append_left (by omega)]
    have hb : frBody (r ++ b) = frBody r := by
      unfold frBody
      rw [e1, List.take_append_of_le_length (by omega)]
    rw [hrest, cutF_one (by rw [List.length_append]; omega) (by rw [e1]; exact h2) (by rw [e1, List.length_append]; omega), e1, hk, hb, List.drop_append_of_le_length (by omega), hi, cutF_one h1 h2 h3]
    rfl
theorem restF_app (l b : List UInt8) (h : (cutF l).2.2 = false) : restF (l ++ b) = restF (restF l ++ b) := by
  have h1 := cutF_left (restF l ++ b)
  have h2 := cutF_left l
  have hl := restF_len l
  have e : (cutF (l ++ b)).2.1 = (cutF (restF l ++ b)).2.1 := by rw [cutF_app l b h]
  rw [List.length_append] at h1
  have hd : restF l ++ b = (l ++ b).drop (l.length - (cutF l).2.1) := by
    rw [List.drop_append_of_le_length (by omega)]; rfl
  show (l ++ b).drop ((l ++ b).length - (cutF (l ++ b)).2.1) = (restF l ++ b).drop ((restF l ++ b).length - (cutF (restF l ++ b)).2.1)
  rw [e]
  generalize (cutF (restF l ++ b)).2.1 = m at h1
  rw [hd, List.drop_drop]
  congr 1
  rw [List.length_drop, List.length_append]
  omega
/-! The stream. -/
theorem new_calls (w : World) : Calls Tryd.prog 24 #[] w fun e w' => e = .returned (.pointer (some ⟨w.heap.size, 0, none⟩)) ∧ w' = w.alloc (.cells #[.slice none 0 0, .bool false, .int .i64 0] 90) := by
  go_enter Tryd.func24, Tryd.ntmps24
  go_wp2
  go_ret
  exact ⟨rfl, rfl⟩
theorem waits_calls (b : Nat) (A : Option Addr) (k c : Nat) (br : Bool) (n : Int) (w : World) (h : Box b #[.slice A k c, .bool br, .int .i64 n] w) : Calls Tryd.prog 27 #[.pointer (some ⟨b, 0, none⟩)] w fun e w' => e = .returned (.int .i64 (k : Int)) ∧ w = w' := by
  obtain ⟨c0, c1, c2⟩ := h.c3
  clear h
  go_enter Tryd.func27, Tryd.ntmps27
  go_wp2
  go_ret
  exact ⟨rfl, rfl⟩
theorem broken_calls (b : Nat) (v : Value) (br : Bool) (n : Int) (w : World) (h : Box b #[v, .bool br, .int .i64 n] w) : Calls Tryd.prog 26 #[.pointer (some ⟨b, 0, none⟩)] w fun e w' => e = .returned (.bool br) ∧ w = w' := by
  obtain ⟨c0, c1, c2⟩ := h.c3
  clear h
  go_enter Tryd.func26, Tryd.ntmps26
  go_wp2
  go_ret
  exact ⟨rfl, rfl⟩
theorem count_calls (b : Nat) (v : Value) (br : Bool) (n : Int) (w : World) (h : Box b #[v, .bool br, .int .i64 n] w) : Calls Tryd.prog 28 #[.pointer (some ⟨b, 0, none⟩)] w fun e w' => e = .returned (.int .i64 n) ∧ w = w' := by
  obtain ⟨c0, c1, c2⟩ := h.c3
  clear h
  go_enter Tryd.func28, Tryd.ntmps28
  go_wp2
  go_ret
  exact ⟨rfl, rfl⟩
theorem feed_no (b : Nat) (v bv : Value) (n : Int) (w : World) (e0 : Addr) (h : Box b #[v, .bool true, .int .i64 n] w) (he : Holds w 15 e0) :
    Calls Tryd.prog 25 #[.pointer (some ⟨b, 0, none⟩), bv] w fun e w' => e = .returned (.tuple #[.slice none 0 0, .iface 131 (.pointer (some e0))]) ∧ ∃ k, w' = w.drewN k := by
  obtain ⟨c0, c1, c2⟩ := h.c3
  have hc : w.cell? ⟨15, 0, none⟩ = some (.iface 131 (.pointer (some e0))) := he.1
  clear h he
  go_enter Tryd.func25, Tryd.ntmps25
  go_wp2
  go_quiet (fail)
  go_wp2
  go_ret2
  exact ⟨rfl, _, rfl⟩
/-- Frames, none of whose blocks is one of R. -/
def FrsR (R : Nat → Prop) (t : TypeId) (base : Nat) (w : World) (v : Value) (fs : List (UInt8 × List UInt8)) : Prop :=
  ∃ xs : List Fe, Own eFr t base w v xs ∧ xs.length = fs.length ∧ (∀ (k : Nat) (h : k < xs.length) (h' : k < fs.length), FrOk base w v.ownBlock xs[k] fs[k]) ∧ (∀ k, v.ownBlock = some k → ¬ R k) ∧ ∀ x ∈ xs, ∀ k, x.body.ownBlock = some k → ¬ R k
theorem FrsR.alt {R : Nat → Prop} {t : TypeId} {base : Nat} {w w1 : World} {v : Value} {fs : List (UInt8 × List UInt8)} (h : FrsR R t base w v fs) (ha : Alt R w w1) : FrsR R t base w1 v fs := by
  obtain ⟨xs, ho, hl, hall, h1, h2⟩ := h
  exact ⟨xs, ho.alt ha h1, hl, fun k hk hk' => ⟨(hall k hk hk').1, (hall k hk hk').2.1.alt ha (h2 _ (List.getElem_mem hk)), (hall k hk hk').2.2⟩, h1, h2⟩
theorem Frs.r {R : Nat → Prop} {t : TypeId} {base : Nat} {w : World} {v : Value} {fs : List (UInt8 × List UInt8)} (h : Frs t base w v fs) (hR : ∀ k, R k → k < base) : FrsR R t base w v fs := by
  obtain ⟨xs, ho, hl, hall⟩ := h
  refine ⟨xs, ho, hl, hall, fun k hk hr => ?_, fun x hx k hk hr => ?_⟩
  · have := (ho.block k hk).1; have := hR k hr; omega
  · obtain ⟨i, hi, rfl⟩ := List.mem_iff_getElem.1 hx
    have := ((hall i hi (by omega)).2.1.block k hk).1; have := hR k hr; omega
theorem FrsR.frs {R : Nat → Prop} {t : TypeId} {base : Nat} {w : World} {v : Value} {fs : List (UInt8 × List UInt8)} (h : FrsR R t base w v fs) : Frs t base w v fs := by
  obtain ⟨xs, ho, hl, hall, _⟩ := h
  exact ⟨xs, ho, hl, hall⟩
theorem Frs.alt {R : Nat → Prop} {t : TypeId} {base : Nat} {w w1 : World} {v : Value} {fs : List (UInt8 × List UInt8)} (h : Frs t base w v fs) (ha : Alt R w w1) (hR : ∀ k, R k → k < base) : Frs t base w1 v fs := ((h.r hR).alt ha).frs
theorem Frs.lower {t : TypeId} {base base' : Nat} {w : World} {v : Value} {fs : List (UInt8 × List UInt8)} (h : Frs t base w v fs) (hb : base' ≤ base) : Frs t base' w v fs := by
  obtain ⟨xs, ho, hl, hall⟩ := h
  exact ⟨xs, ho.lower hb, hl, fun k h h' => ⟨(hall k h h').1, (hall k h h').2.1.lower hb, (hall k h h').2.2⟩⟩
theorem FrsR.lower {R : Nat → Prop} {t : TypeId} {base base' : Nat} {w : World} {v : Value} {fs : List (UInt8 × List UInt8)} (h : FrsR R t base w v fs) (hb : base' ≤ base) : FrsR R t base' w v fs := by
  obtain ⟨xs, ho, hl, hall, h1, h2⟩ := h
  exact ⟨xs, ho.lower hb, hl, fun k h h' => ⟨(hall k h h').1, (hall k h h').2.1.lower hb, (hall k h h').2.2⟩, h1, h2⟩
/-- Blocks that are made later are none of them. -/
theorem Frs.old {R : Nat → Prop} {t : TypeId} {base : Nat} {w : World} {v : Value} {fs : List (UInt8 × List UInt8)} (h : Frs t base w v fs) (hR : ∀ k, R k → w.heap.size ≤ k) : FrsR R t base w v fs := by
  obtain ⟨xs, ho, hl, hall⟩ := h
  refine ⟨xs, ho, hl, hall, fun k hk hr => ?_, fun x hx k hk hr => ?_⟩
  · have := (ho.block k hk).2; have := hR k hr; omega
  · obtain ⟨i, hi, rfl⟩ := List.mem_iff_getElem.1 hx
    have := ((hall i hi (by omega)).2.1.block k hk).2; have := hR k hr; omega
theorem FrsR.alt2 {R S : Nat → Prop} {t : TypeId} {base : Nat} {w w1 : World} {v : Value} {fs : List (UInt8 × List UInt8)} (h : FrsR R t base w v fs) (ha : Alt S w w1) (hS : ∀ k, S k → k < base) : FrsR R t base w1 v fs := by
  obtain ⟨xs, ho, hl, hall, h1, h2⟩ := h
  refine ⟨xs, ho.alt ha (fun k hk hs => ?_), hl, fun k hk hk' => ⟨(hall k hk hk').1, (hall k hk hk').2.1.alt ha (fun j hj hs => ?_), (hall k hk hk').2.2⟩, h1, h2⟩
  · have := (ho.block k hk).1; have := hS k hs; omega
  · have := ((hall k hk hk').2.1.block j hj).1; have := hS j hs; omega
theorem errIs_some {es : List Addr} {k : Nat} {u : Value} (h : ErrIs es (k + 1) u) : ∃ a, u = .iface 131 (.pointer (some a)) := by
  rcases h with ⟨h, _⟩ | ⟨j, hj, _, h⟩
  · omega
  · exact ⟨_, h⟩
/-- What Feed answers, and what the stream is behind it. -/
def Fed (es : List Addr) (b base : Nat) (n : Nat) (q : List UInt8) (w' : World) (e : Ending) : Prop :=
  ∃ v u wv', e = .returned (.tuple #[v, u]) ∧ FrsR (fun k => wv'.ownBlock = some k) 50 base w' v (cutF q).1 ∧ ErrIs es (if (cutF q).2.2 then 4 else 0) u ∧
        Box b #[wv', .bool (cutF q).2.2, .int .i64 ((n + (cutF q).1.length : Nat) : Int)] w' ∧ Own eU8 5 base w' wv' (restF q)
theorem fed_mk {es : List Addr} {b base : Nat} {n : Nat} {q : List UInt8} {w' : World} {e : Ending} {fs : List (UInt8 × List UInt8)} {rest : List UInt8} {br : Bool} {m : Nat} (h1 : (cutF q).1 = fs) (h2 : (cutF q).2.2 = br) (h3 : restF q = rest)
    (h4 : m = fs.length) {v u wv' : Value} (h5 : e = .returned (.tuple #[v, u])) (h6 : FrsR (fun k => wv'.ownBlock = some k) 50 base w' v fs) (h7 : ErrIs es (if br then 4 else 0) u) (h8 : Box b #[wv', .bool br, .int .i64 ((n : Int) + (m : Int))] w') (h9 : Own eU8 5 base w' wv' rest) : Fed es b base n q w' e := by
  subst h1 h2 h3 h4
  exact ⟨v, u, wv', h5, h6, h7, by rw [Int.natCast_add]; exact h8, h9⟩
set_option maxHeartbeats 4000000 in
theorem feed_calls (b : Nat) (wv bv : Value) (r l : List UInt8) (n base : Nat) (w w0 : World) (es : List Addr) (he : Errs w0 es) (hB : Below w0.heap.size w0 w) (hbx : Box b #[wv, .bool false, .int .i64 (n : Int)] w) (hw : Own eU8 5 base w wv r) (hoff : ∀ k, wv.ownBlock = some k → k ≠ b)
    (hbb : w0.heap.size ≤ b) (hbase : w0.heap.size ≤ base) (hbs : base ≤ w.heap.size) (hv : Row eU8 w bv l) (hn : n ≤ 1000000) (hl : r.length + l.length ≤ 100000) :
    Calls Tryd.prog 25 #[.pointer (some ⟨b, 0, none⟩), bv] w fun e w' =>
      Fed es b w.heap.size n (r ++ l) w' e ∧ Alt (fun k => k = b ∨ wv.ownBlock = some k) w w' := by
  obtain ⟨c0, c1, c2⟩ := hbx.c3
  obtain ⟨f0, f1, f2, _⟩ := hbx.f4
  have HE := Lib.hid he
  have HB := Lib.hid hB
  have HX := Lib.hid hbx
  have HW := Lib.hid hw
  have HO := Lib.hid hoff
  have HV := Lib.hid hv
  have hlen : (r ++ l).length ≤ 100000 := by rw [List.length_append]; exact hl
  obtain ⟨q, hq⟩ : ∃ q, q = r ++ l := ⟨_, rfl⟩
  rw [← hq] at hlen ⊢
  have HQ := Lib.hid hq
  clear hq
  have hcl := cutF_left q
  have hcn := cutF_len q
  have HRL := Lib.hid (restF_len q)
  have HRE := Lib.hid (show (q.take q.length).drop (q.length - (cutF q).2.1) = restF q by rw [List.take_length]; rfl)
  have KC := Lib.hid (fun W v he hv => cut_calls v q W es he hv (by omega))
  clear he hB hbx hw hoff hv
  generalize hfs : (cutF q).1 = fs at hcn KC
  generalize hle : (cutF q).2.1 = left at hcl KC HRE HRL
  generalize hre : restF q = rest at HRE HRL
  have HFS := Lib.hid hfs
  have HRS := Lib.hid hre
  have hel : (q.length : Int) - (left : Int) = ((q.length - left : Nat) : Int) := by omega
  have HEL := Lib.hid hel
  clear hel hfs hle hre
  cases hbr : (cutF q).2.2
  all_goals
    rw [hbr] at KC
    have HBR := Lib.hid hbr
    clear hbr
    go_enter Tryd.func25, Tryd.ntmps25
    go_wp2_with (first
      | (at_builtin; (refine wp_append (E := eU8) base rfl (.tmp 18) (.tmp 19) 27 5 _ 1 rfl Tryd.underlying27 infoU8 rfl (by decide) _ _ r l rfl rfl HW.out HV.out hbs (by omega) ?_; intro v1 w1 ho1 hg1 hat1; rw [← HQ.out] at ho1; obtain ⟨A1, cc1, rfl, hc1, hm1, hr1⟩ := ho1.row.parts; have HA1 := Lib.hid (Alt.of_grown (R := fun k => k = b ∨ wv.ownBlock = some k) hg1 (fun k hk => .inr hk)); have HX1 := Lib.hid (HX.out.alt (R := fun k => wv.ownBlock = some k) (Alt.of_grown hg1 (fun k hk => hk)) (fun h => HO.out b h rfl)); have HB1 := Lib.hid (HB.out.grown hg1 (Nat.le_trans hbase hbs) (fun k hk => Nat.le_trans hbase (HW.out.block k hk).1)); have HR1 := Lib.hid hr1; clear ho1 hg1 hat1 hr1))
      | (go_at_call 18; ((with_reducible refine (KC.out _ _ (HE.out.below HB1.out) HR1.out).mono ?_); rintro e w2 ⟨⟨v2, u2, rfl, hF2, hu2⟩, hb2⟩; obtain ⟨xs2, hox2, hlx2, _⟩ := id hF2; obtain ⟨A2, cc2, rfl, hc2, hm2, _⟩ := hox2.row.parts; have HLX := Lib.hid hlx2; have hnx : xs2.length ≤ 1000000 := (by omega); clear hox2 hlx2 hc2 hm2; have HF2 := Lib.hid hF2; have HU2 := Lib.hid hu2; (first | (obtain rfl := errIs_nil hu2) | (obtain ⟨ek, rfl⟩ := errIs_some hu2)); have HX2 := Lib.hid (HX1.out.below hb2); have HR2 := Lib.hid (HR1.out.below hb2); have HA2 := Lib.hid (HA1.out.trans (Alt.of_below hb2)); obtain ⟨A3, _, _, hs3, hrow3⟩ := HR2.out.cut (P := Tryd.prog) 27 5 Tryd.underlying27 infoU8 (q.length - left) q.length (by omega) (Nat.le_refl _); have HS3 := Lib.hid (HRE.out ▸ hrow3 w2 (fun _ _ h => h)); have hsl : ∀ W, (Instr.slice 27 (.slice A1 q.length cc1) (some (.int .i64 ((q.length : Int) - (left : Int)))) none none).run Tryd.prog W = .ok (.slice A3 (q.length - (q.length - left)) (cc1 - (q.length - left))) W := (fun W => by rw [HEL.out]; exact hs3 rfl W .i64); clear hF2 hu2 hb2 hs3 hrow3))
      | (go_at_call 62; ((with_reducible refine (clone_calls _ rest _ HS3.out (by rw [HRL.out]; omega)).mono ?_); rintro e w3 ⟨⟨v3, rfl, ho3⟩, hb3⟩; obtain ⟨A4, cc4, rfl, hc4, hm4, _⟩ := ho3.row.parts; clear hc4 hm4; have HG3 := Lib.hid ((HF2.out.old (R := fun k => (Value.slice A4 rest.length cc4).ownBlock = some k) (fun k hk => (ho3.block k hk).1)).alt (Alt.of_below hb3)); have HO3 := Lib.hid ho3; have HX3 := Lib.hid (HX2.out.below hb3); have HA3 := Lib.hid (HA2.out.trans (Alt.of_below hb3)); obtain ⟨d0, d1, d2⟩ := HX3.out.c3; obtain ⟨g0, g1, g2, _⟩ := HX3.out.f4; clear ho3 hb3)))
    go_ret2
    have hA := fun (x : Value) => (((HA3.out.trans (Alt.set (a := ⟨b, 0, none⟩) (.slice A4 rest.length cc4) (.inl rfl))).trans (Alt.set (a := ⟨b, 1, none⟩) x (.inl rfl))).trans (Alt.set (a := ⟨b, 2, none⟩) (.int .i64 ((n : Int) + (xs2.length : Int))) (.inl rfl)))
    have hS := fun (x : Value) => (((Alt.set (R := fun k => k = b) (w := w3) (a := ⟨b, 0, none⟩) (.slice A4 rest.length cc4) rfl).trans (Alt.set (a := ⟨b, 1, none⟩) x rfl)).trans (Alt.set (a := ⟨b, 2, none⟩) (.int .i64 ((n : Int) + (xs2.length : Int))) rfl))
    have hlt := HX.out.lt
    have hs1 := HA1.out.size
    have hs2 := HA2.out.size
    exact ⟨fed_mk HFS.out HBR.out HRS.out HLX.out rfl ((HG3.out.lower hs1).alt2 (hS _) (fun k hk => hk ▸ hlt)) HU2.out (HX3.out.set3 _ _ _) ((HO3.out.lower hs2).alt (hS _) (fun k hk hb => by have := (HO3.out.block k hk).1; omega)), hA _⟩
end Go.Proofs.YtmpdcdfnbkfabaaDoor.Frame
