/- The law FrameFeeds. -/
import Derived.Test.YtmpdcdfnbkfabaaDoorFrameF
namespace Go.Proofs.YtmpdcdfnbkfabaaDoor.Frame
open Go.RowKit Go.Proofs.YtmpdcdfnbkfabaaDoor.Mem Go.Proofs.YtmpdcdfnbkfabaaDoor.Num Go.Proofs.YtmpdcdfnbkfabaaDoor.Err Go.Proofs.YtmpdcdfnbkfabaaDoor.Clone
set_option linter.unusedVariables false
set_option linter.unusedSimpArgs false
set_option maxRecDepth 100000
attribute [-go_sem] Builtin.append_
set_option maxHeartbeats 4000000 in
theorem of2_calls (v : Value) (xs : List Fe) (w : World) (hrx : Row eFr w v xs) (hxl : xs.length ≤ 1000000) :
    Calls Tryd.prog 21 #[v] w fun e w' => (∃ v', e = .returned v' ∧ Own eFr 86 w.heap.size w' v' xs) ∧ Below w.heap.size w w' := by
  obtain ⟨A, ca, rfl, hca, hma, hra⟩ := hrx.parts
  have HA := Lib.hid hra
  clear hrx hra
  go_enter Tryd.func21, Tryd.ntmps21
  go_wp2
  go_loopw [3, 9] (fun ov iv W => ∃ k : Nat, k ≤ xs.length ∧ iv = .int .i64 (k : Int) ∧ Hid (Own eFr 86 w.heap.size W ov (xs.take k)) ∧ Hid (Below w.heap.size w W)) (fun _ iv _ => xs.length - (intOf iv).toNat)
  case atStart => exact ⟨0, Nat.zero_le _, rfl, Lib.hid (Own.lit w w.heap.size eFr 86 [] 0 rfl _ rfl (Nat.le_refl _) (by simp)), Lib.hid ((Below.refl _ w).alloc (Nat.le_refl _) _)⟩
  case round =>
    obtain ⟨k, hk, rfl, HO, HB⟩ := hrel
    by_cases hlt : k < xs.length
    · obtain ⟨ad, rfl, hca2⟩ := (HA.out.below HB.out).at hlt
      have ha0 := hca2 0 (by decide)
      have ha1 := hca2 1 (by decide)
      clear hca2
      have htk := List.take_succ_eq_append_getElem hlt
      generalize xs[k] = x at ha0 ha1 htk
      obtain ⟨xk, xa, xn, xc⟩ := x
      have HT := Lib.hid htk
      have ca0 : wr.cell? (ad.add (k * 2)) = some (.int .i64 (xk.toNat : Int)) := ha0
      have ca1 : wr.cell? (ad.add (k * 2 + 1)) = some (.slice xa xn xc) := ha1
      have ca1' : wr.cell? ⟨(ad.add (k * 2)).block, (ad.add (k * 2)).off + 1, none⟩ = some (.slice xa xn xc) := by rw [← add_add] at ca1; exact ca1
      have hsz := HB.out.size
      have hlk : (xs.take k).length = k := by rw [List.length_take]; omega
      have HLK := Lib.hid hlk
      clear ha0 ha1 htk hlk
      generalize xs.take k = L at HO HT HLK
      go_wp2_with (at_builtin; (refine wp_append (E := eFr) w.heap.size rfl (.tmp 13) (.tmp 19) 34 86 _ 32 rfl Tryd.underlying34 infoRFr rfl (by decide) _ _ L [(xk, xa, xn, xc)] rfl rfl ((HO.out.alloc _).alloc _) (Own.lit' (wr.alloc (.cells #[.int .i64 (xk.toNat : Int), .slice xa xn xc] 50)) (wr.heap.size + 1) (by simp) 0 eFr 86 [(xk, xa, xn, xc)] 1 rfl #[.int .i64 (xk.toNat : Int), .slice xa xn xc] rfl (Nat.zero_le _) (by simp)).row (by simp; omega) (by have := HLK.out; simp; omega) ?_; intro v4 w4 ho4 hg4 hat4))
      go_roundw
      case rel => exact ⟨k + 1, by omega, rfl, Lib.hid (by rw [HT.out]; exact ho4), Lib.hid (below_app ((HB.out.alloc hsz _).alloc (by simp; omega) _) (by simp; omega) ((HO.out.alloc _).alloc _) hg4)⟩
      case measure => simp [intOf]; omega
    · have hkx : k = xs.length := by omega
      subst hkx
      rw [List.take_length] at HO
      go_wp2
      go_ret
      exact ⟨⟨_, rfl, HO.out⟩, HB.out⟩
/-- Blocks of the stream, of what waits, of all bytes. -/
def Mine (b : Nat) (wv av : Value) (k : Nat) : Prop := k = b ∨ wv.ownBlock = some k ∨ av.ownBlock = some k
/-- What stands at the head of each round: l: all bytes. -/
structure FInv (w0 : World) (b : Nat) (l : List UInt8) (fs : List (UInt8 × List UInt8)) (wv av gv : Value) (W : World) : Prop where
  below : Below w0.heap.size w0 W
  lb : w0.heap.size ≤ b
  box : Box b #[wv, .bool (cutF l).2.2, .int .i64 ((cutF l).1.length : Int)] W
  wait : Own eU8 5 w0.heap.size W wv (restF l)
  all : Own eU8 5 w0.heap.size W av l
  got : FrsR (Mine b wv av) 86 w0.heap.size W gv fs
  offw : ∀ k, wv.ownBlock = some k → k ≠ b
  offa : ∀ k, av.ownBlock = some k → k ≠ b
  apart : ∀ k, av.ownBlock = some k → wv.ownBlock ≠ some k
theorem FInv.keep {w0 : World} {b : Nat} {l : List UInt8} {fs : List (UInt8 × List UInt8)} {wv av gv : Value} {W W1 : World} (h : FInv w0 b l fs wv av gv W) (hb : Below W.heap.size W W1) : FInv w0 b l fs wv av gv W1 :=
  ⟨h.below.trans (hb.mono h.below.size), h.lb, h.box.below hb, h.wait.below hb, h.all.below hb, h.got.alt (Alt.of_below hb), h.offw, h.offa, h.apart⟩
/-- Frames behind frames. -/
theorem FrsR.app {R : Nat → Prop} {t : TypeId} {base : Nat} {w w1 : World} {v v1 : Value} {fs gs : List (UInt8 × List UInt8)} {xs ys : List Fe} (hx : xs.length = fs.length) (hy : ys.length = gs.length)
    (hfx : ∀ (k : Nat) (h : k < xs.length) (h' : k < fs.length), FrOk base w v.ownBlock xs[k] fs[k]) (hfy : ∀ (k : Nat) (h : k < ys.length) (h' : k < gs.length), FrOk base w v.ownBlock ys[k] gs[k])
    (hrv : ∀ k, v.ownBlock = some k → ¬ R k) (hrx : ∀ x ∈ xs, ∀ k, x.body.ownBlock = some k → ¬ R k) (hry : ∀ x ∈ ys, ∀ k, x.body.ownBlock = some k → ¬ R k) (hR : ∀ k, R k → k < w.heap.size)
    (ho1 : Own eFr t base w1 v1 (xs ++ ys)) (hg : w.grownBy w1 v.ownBlock) (hat : v1.ownBlock = v.ownBlock ∨ v1.ownBlock = some w.heap.size) : FrsR R t base w1 v1 (fs ++ gs) := by
  have key : ∀ (y : Fe) (g : UInt8 × List UInt8), FrOk base w v.ownBlock y g → FrOk base w1 v1.ownBlock y g := by
    intro y g ⟨h1, h2, h3⟩
    refine ⟨h1, h2.kept hg h3, ?_⟩
    rcases hat with e | e
    · rw [e]; exact h3
    · rw [e]
      cases hb : y.body.ownBlock with
      | none => exact .inl rfl
      | some b =>
        right
        have := (h2.block b hb).2
        intro he
        cases he
        omega
  refine ⟨xs ++ ys, ho1, by simp [hx, hy], fun k h h' => ?_, fun k hk => ?_, fun x hm => ?_⟩
  · by_cases hk : k < xs.length
    · rw [List.getElem_append_left hk, List.getElem_append_left (by omega)]
      exact key _ _ (hfx k hk (by omega))
    · rw [List.getElem_append_right (by omega), List.getElem_append_right (by omega)]
      have e : k - xs.length = k - fs.length := by omega
      simp only [← e]
      have h2 : k - xs.length < ys.length := by simp at h; omega
      exact key _ _ (hfy (k - xs.length) h2 (by omega))
  · rcases hat with e | e
    · rw [e] at hk; exact hrv k hk
    · rw [e] at hk; cases hk
      exact fun hr => absurd (hR _ hr) (by omega)
  · rcases List.mem_append.1 hm with h | h
    · exact hrx x h
    · exact hry x h
/-- The frames that came, of which none lies where the stream or all bytes lie. -/
def Came (b : Nat) (wv av gv : Value) (base B : Nat) (W : World) (v : Value) (fs : List (UInt8 × List UInt8)) : Prop :=
  ∃ xs : List Fe, Own eFr 50 B W v xs ∧ xs.length = fs.length ∧ (∀ (k : Nat) (h : k < xs.length) (h' : k < fs.length), FrOk base W gv.ownBlock xs[k] fs[k]) ∧ ∀ x ∈ xs, ∀ k, x.body.ownBlock = some k → ¬ Mine b wv av k
theorem FInv.step1 {w0 : World} {b : Nat} {l p : List UInt8} {wv av gv wv' av' v : Value} {W1 W2 W3 : World} (h : FInv w0 b l (cutF l).1 wv av gv W1) (hbr : (cutF l).2.2 = false) (ha : Alt (fun k => k = b ∨ wv.ownBlock = some k) W1 W2)
    (hf : FrsR (fun k => wv'.ownBlock = some k) 50 W1.heap.size W2 v (cutF (restF l ++ p)).1)
    (hx : Box b #[wv', .bool (cutF (restF l ++ p)).2.2, .int .i64 (((cutF l).1.length + (cutF (restF l ++ p)).1.length : Nat) : Int)] W2) (ho : Own eU8 5 W1.heap.size W2 wv' (restF (restF l ++ p)))
    (hA : Own eU8 5 w0.heap.size W3 av' (l ++ p)) (hg : W2.grownBy W3 av.ownBlock) (hat : av'.ownBlock = av.ownBlock ∨ av'.ownBlock = some W2.heap.size) :
    FInv w0 b (l ++ p) (cutF l).1 wv' av' gv W3 ∧ Came b wv' av' gv w0.heap.size W1.heap.size W3 v (cutF (restF l ++ p)).1 := by
  have hs1 := h.below.size
  have hs2 := ha.size
  have hbl := h.box.lt
  have hav := h.all.block
  have hwv := h.wait.block
  have hwv' := ho.block
  have a2 : Alt (fun k => av.ownBlock = some k) W2 W3 := Alt.of_grown hg (fun k hk => hk)
  have hb2 : Below w0.heap.size w0 W2 := below_alt h.below ha hs1 (fun k hk => by rcases hk with rfl | hk; exact h.lb; exact (hwv k hk).1)
  have hn1 : ∀ k, av.ownBlock = some k → k < W1.heap.size := fun k hk => (hav k hk).2
  obtain ⟨XS, g1, g2, g3, g4, g5⟩ := h.got
  have gnew : ∀ k, k < W1.heap.size → ¬ Mine b wv av k → ¬ Mine b wv' av' k := by
    rintro k hk hn (rfl | hm | hm)
    · exact hn (.inl rfl)
    · have := (hwv' k hm).1; omega
    · rcases hat with e | e
      · exact hn (.inr (.inr (e ▸ hm)))
      · rw [e] at hm; cases hm; omega
  have hmine : ∀ k, ¬ Mine b wv av k → ¬ (k = b ∨ wv.ownBlock = some k) := fun k hn hm => hn (by rcases hm with e | e; exact .inl e; exact .inr (.inl e))
  have hmine2 : ∀ k, ¬ Mine b wv av k → ¬ av.ownBlock = some k := fun k hn hm => hn (.inr (.inr hm))
  refine ⟨⟨below_alt hb2 a2 (by omega) (fun k hk => (hav k hk).1), h.lb, ?_, ?_, hA, ⟨XS, (g1.alt ha (fun k hk => hmine k (g4 k hk))).alt a2 (fun k hk => hmine2 k (g4 k hk)), g2, fun k hk hk' => ⟨(g3 k hk hk').1, ((g3 k hk hk').2.1.alt ha (fun j hj => hmine j (g5 _ (List.getElem_mem hk) j hj))).alt a2 (fun j hj => hmine2 j (g5 _ (List.getElem_mem hk) j hj)), (g3 k hk hk').2.2⟩,
      fun k hk => gnew k (g1.block k hk).2 (g4 k hk), fun x hx k hk => ?_⟩, fun k hk e => ?_, fun k hk e => ?_, fun k hk e => ?_⟩, ?_⟩
  · have hx3 := hx.alt a2 (fun e => h.offa b e rfl)
    rw [cutF_app l p hbr, List.length_append]
    exact hx3
  · rw [restF_app l p hbr]
    exact (ho.alt a2 (fun k hk e => by have := (hwv' k hk).1; have := hn1 k e; omega)).lower hs1
  · obtain ⟨i, hi, rfl⟩ := List.mem_iff_getElem.1 hx
    exact gnew k ((g3 i hi (by omega)).2.1.block k hk).2 (g5 _ (List.getElem_mem hi) k hk)
  · have := (hwv' k hk).1; omega
  · rcases hat with e2 | e2
    · exact h.offa k (e2 ▸ hk) e
    · rw [e2] at hk; cases hk; omega
  · have h1 := (hwv' k e)
    rcases hat with e2 | e2
    · have := hn1 k (e2 ▸ hk); omega
    · rw [e2] at hk; cases hk; omega
  · obtain ⟨xs, f1, f2, f3, f4, f5⟩ := hf
    refine ⟨xs, f1.alt a2 (fun k hk e => by have := (f1.block k hk).1; have := hn1 k e; omega), f2, fun k hk hk' => ?_, fun x hx k hk hm => ?_⟩
    · obtain ⟨q1, q2, q3⟩ := f3 k hk hk'
      refine ⟨q1, (q2.alt a2 (fun j hj e => by have := (q2.block j hj).1; have := hn1 j e; omega)).lower hs1, ?_⟩
      cases hbo : (xs[k]).body.ownBlock with
      | none => exact .inl rfl
      | some j => exact .inr fun e => by have := (q2.block j hbo).1; have := (g1.block j e.symm).2; omega
    · obtain ⟨i, hi, rfl⟩ := List.mem_iff_getElem.1 hx
      have hb := (f3 i hi (by omega)).2.1.block k hk
      rcases hm with rfl | hm | hm
      · omega
      · exact f5 _ (List.getElem_mem hi) k hk hm
      · rcases hat with e2 | e2
        · have := hn1 k (e2 ▸ hm); omega
        · rw [e2] at hm; cases hm; omega
theorem FInv.step2 {w0 : World} {b : Nat} {l : List UInt8} {gs fs : List (UInt8 × List UInt8)} {wv av gv gv1 : Value} {W3 W4 W5 : World} {XS xs : List Fe} (h : FInv w0 b l gs wv av gv W4) (hb : Below W3.heap.size W3 W4)
    (g1 : Own eFr 86 w0.heap.size W4 gv XS) (g2 : XS.length = gs.length) (g3 : ∀ (k : Nat) (h : k < XS.length) (h' : k < gs.length), FrOk w0.heap.size W4 gv.ownBlock XS[k] gs[k]) (g4 : ∀ k, gv.ownBlock = some k → ¬ Mine b wv av k) (g5 : ∀ x ∈ XS, ∀ k, x.body.ownBlock = some k → ¬ Mine b wv av k)
    (f2 : xs.length = fs.length) (f3 : ∀ (k : Nat) (h : k < xs.length) (h' : k < fs.length), FrOk w0.heap.size W3 gv.ownBlock xs[k] fs[k]) (f4 : ∀ x ∈ xs, ∀ k, x.body.ownBlock = some k → ¬ Mine b wv av k)
    (ho1 : Own eFr 86 w0.heap.size W5 gv1 (XS ++ xs)) (hg : W4.grownBy W5 gv.ownBlock) (hat : gv1.ownBlock = gv.ownBlock ∨ gv1.ownBlock = some W4.heap.size) : FInv w0 b l (gs ++ fs) wv av gv1 W5 := by
  have a : Alt (fun k => gv.ownBlock = some k) W4 W5 := Alt.of_grown hg (fun k hk => hk)
  have hm : ∀ k, Mine b wv av k → k < W4.heap.size := by
    rintro k (rfl | hk | hk)
    · exact h.box.lt
    · exact (h.wait.block k hk).2
    · exact (h.all.block k hk).2
  exact ⟨below_alt h.below a h.below.size (fun k hk => (g1.block k hk).1), h.lb, h.box.alt a (fun e => g4 b e (.inl rfl)), h.wait.alt a (fun k hk e => g4 k e (.inr (.inl hk))), h.all.alt a (fun k hk e => g4 k e (.inr (.inr hk))),
    FrsR.app g2 f2 g3 (fun k hk hk' => (f3 k hk hk').below hb) g4 g5 f4 hm ho1 hg hat, h.offw, h.offa, h.apart⟩
theorem FInv.start (w w1 : World) (hb : Below w.heap.size w w1) (b : Nat) (hbs : w1.heap.size = b) :
    FInv w b [] [] (.slice none 0 0) (.slice (some ⟨b + 1, 0, none⟩) 0 0) (.slice (some ⟨b + 1 + 1, 0, none⟩) 0 0) (((w1.alloc (.cells #[.slice none 0 0, .bool false, .int .i64 0] 90)).alloc (.cells #[] 5)).alloc (.cells #[] 86)) := by
  have h0 : cutF [] = ([], 0, false) := cutF_few (by simp)
  have hs := hb.size
  subst hbs
  have o1 : Own eU8 5 w.heap.size ((w1.alloc (.cells #[.slice none 0 0, .bool false, .int .i64 0] 90)).alloc (.cells #[] 5)) (.slice (some ⟨w1.heap.size + 1, 0, none⟩) 0 0) [] := Own.lit' _ _ (by simp) _ eU8 5 [] 0 rfl #[] rfl (by simp; omega) (by simp)
  have o2 : Own eFr 86 w.heap.size (((w1.alloc (.cells #[.slice none 0 0, .bool false, .int .i64 0] 90)).alloc (.cells #[] 5)).alloc (.cells #[] 86)) (.slice (some ⟨w1.heap.size + 1 + 1, 0, none⟩) 0 0) [] := Own.lit' _ _ (by simp) _ eFr 86 [] 0 rfl #[] rfl (by simp; omega) (by simp)
  refine ⟨((hb.alloc hs _).alloc (by simp; omega) _).alloc (by simp; omega) _, hs, ?_, ?_, o1.alloc _, ⟨[], o2, rfl, by simp, ?_, by simp⟩, ?_, ?_, ?_⟩
  · rw [h0]; exact ((Box.new w1 _ 90 _ rfl).alloc _).alloc _
  · have : restF [] = [] := by unfold restF; simp
    rw [this]; exact Own.nil _ _ _ _
  · intro k hk; cases hk
    rintro (e | e | e)
    · change w1.heap.size + 1 + 1 = w1.heap.size at e; omega
    · cases e
    · simp only [Value.ownBlock, Option.some.injEq] at e; omega
  · intro k hk; cases hk
  · intro k hk; cases hk; simp
  · intro k hk; simp [Value.ownBlock]
/-- The parts of a stream. -/
abbrev Pt := Option Addr × Nat × Nat
def ePt : Enc Pt := .one1 (fun x => .slice x.1 x.2.1 x.2.2) (fun _ => rfl)
def PtOk (w : World) (x : Pt) : Prop := ∃ l, Row eU8 w (.slice x.1 x.2.1 x.2.2) l
end Go.Proofs.YtmpdcdfnbkfabaaDoor.Frame
