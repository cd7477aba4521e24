/- The law FrameBytes. -/
import Derived.Test.YtmpdcdfnbkfabaaDoorFrameB
import Derived.RangeFuncRecord
import Derived.Deep.RegionHeld3
namespace Go.Proofs.YtmpdcdfnbkfabaaDoor.Frame
open Go.RowKit Go.Proofs.YtmpdcdfnbkfabaaDoor.Mem Go.Proofs.YtmpdcdfnbkfabaaDoor.Num Go.Proofs.YtmpdcdfnbkfabaaDoor.Err
set_option linter.unusedVariables false
set_option linter.unusedSimpArgs false
set_option maxRecDepth 100000
attribute [-go_sem] Builtin.append_
theorem rowDrew {α : Type} {E : Enc α} {w : World} {v : Value} {xs : List α} (h : Row E w v xs) : Row E w.drew v xs := h
/-- Two boxes behind each other: their cells. -/
theorem boxes (w w1 : World) (a b c d : Value) (t : TypeId) (h : Below ((w.alloc (.cells #[a, b] t)).alloc (.cells #[c, d] t)).heap.size ((w.alloc (.cells #[a, b] t)).alloc (.cells #[c, d] t)) w1) :
    w1.cell? ⟨w.heap.size, 0, none⟩ = some a ∧ w1.cell? ⟨w.heap.size, 1, none⟩ = some b ∧ w1.cell? ⟨w.heap.size + 1, 0, none⟩ = some c ∧ w1.cell? ⟨w.heap.size + 1, 1, none⟩ = some d := by
  have hs : (w.alloc (.cells #[a, b] t)).heap.size = w.heap.size + 1 := by simp
  have hx := World.alloc_heap_new w (.cells #[a, b] t)
  have hy := World.alloc_heap_new (w.alloc (.cells #[a, b] t)) (.cells #[c, d] t)
  rw [hs] at hy
  have h1 : (w.alloc (.cells #[a, b] t)).cell? ⟨w.heap.size, 0, none⟩ = some a := by unfold World.cell?; rw [hx]; rfl
  have h2 : (w.alloc (.cells #[a, b] t)).cell? ⟨w.heap.size, 1, none⟩ = some b := by unfold World.cell?; rw [hx]; rfl
  have h3 : ((w.alloc (.cells #[a, b] t)).alloc (.cells #[c, d] t)).cell? ⟨w.heap.size + 1, 0, none⟩ = some c := by unfold World.cell?; rw [hy]; rfl
  have h4 : ((w.alloc (.cells #[a, b] t)).alloc (.cells #[c, d] t)).cell? ⟨w.heap.size + 1, 1, none⟩ = some d := by unfold World.cell?; rw [hy]; rfl
  have al := (Below.refl (w.alloc (.cells #[a, b] t)).heap.size (w.alloc (.cells #[a, b] t))).alloc (Nat.le_refl _) (.cells #[c, d] t)
  exact ⟨cell_below h (cell_below al h1), cell_below h (cell_below al h2), cell_below h h3, cell_below h h4⟩
set_option maxHeartbeats 8000000 in
theorem framebytes_calls (k1 k2 : Int) (A B : Option Addr) (n1 c1 n2 c2 : Nat) (l m : List UInt8) (w : World) (es : List Addr) (he : Errs w es) (hv : Row eU8 w (.slice A n1 c1) l) (hu : Row eU8 w (.slice B n2 c2) m) :
    Calls Tryd.prog 6 #[frV k1 A n1 c1, frV k2 B n2 c2] w fun e w' => e = .returned (.bool true) ∧ Below w.heap.size w w' := by
  have HE := Lib.hid he
  have HV := Lib.hid hv
  have HU := Lib.hid hu
  have HBX := Lib.hid (fun w1 h => boxes w w1 (.int .i64 k1) (.slice A n1 c1) (.int .i64 k2) (.slice B n2 c2) 50 h)
  have hnl := hv.len
  have hml := hu.len
  have hnm : n1 ≤ 9223372036854775807 := by have := hv.cap; unfold maxLen at this; omega
  have hmm : n2 ≤ 9223372036854775807 := by have := hu.cap; unfold maxLen at this; omega
  have HNL := Lib.hid hnl
  have HML := Lib.hid hml
  clear he hv hu hnl hml
  unfold frV
  by_cases h1 : 2000 < n1
  · go_enter Tryd.func6, Tryd.ntmps6
    go_wp2_with (first
      | (go_at_call 16; ((with_reducible refine (alive_calls _ es (HE.out.below (((Below.refl _ _).alloc (Nat.le_refl _) _).alloc (by simp) _))).mono ?_); rintro e w0 ⟨rfl, hb0⟩; obtain ⟨x0, x1, x2, x3⟩ := HBX.out _ hb0; have HE0 := Lib.hid ((HE.out.below (((Below.refl _ _).alloc (Nat.le_refl _) _).alloc (by simp) _)).below hb0); have HG0 : Hid (Holds w0 2 _) := Lib.hid (HE0.out.2.2 0 (by have := HE.out.1; omega)); have HG2 : Hid (Holds w0 4 _) := Lib.hid (HE0.out.2.2 2 (by have := HE.out.1; omega)); have HB0 := Lib.hid hb0; clear hb0)))
    go_ret
    exact ⟨rfl, below_allocd (below_allocd HB0.out)⟩
  · by_cases h2 : 2000 < n2
    · go_enter Tryd.func6, Tryd.ntmps6
      go_wp2_with (first
        | (go_at_call 16; ((with_reducible refine (alive_calls _ es (HE.out.below (((Below.refl _ _).alloc (Nat.le_refl _) _).alloc (by simp) _))).mono ?_); rintro e w0 ⟨rfl, hb0⟩; obtain ⟨x0, x1, x2, x3⟩ := HBX.out _ hb0; have HE0 := Lib.hid ((HE.out.below (((Below.refl _ _).alloc (Nat.le_refl _) _).alloc (by simp) _)).below hb0); have HG0 : Hid (Holds w0 2 _) := Lib.hid (HE0.out.2.2 0 (by have := HE.out.1; omega)); have HG2 : Hid (Holds w0 4 _) := Lib.hid (HE0.out.2.2 2 (by have := HE.out.1; omega)); have HB0 := Lib.hid hb0; clear hb0)))
      go_ret
      exact ⟨rfl, below_allocd (below_allocd HB0.out)⟩
    · by_cases h3 : k1 < 0 ∨ 255 < k1
      · have KB := Lib.hid (fun W e0 he => frbytes_range k1 A n1 c1 W e0 h3 (by omega) he)
        unfold frV at KB
        by_cases h4 : k1 < 0
        · clear h3
          go_enter Tryd.func6, Tryd.ntmps6
          go_wp2_with (first
            | (go_at_call 16; ((with_reducible refine (alive_calls _ es (HE.out.below (((Below.refl _ _).alloc (Nat.le_refl _) _).alloc (by simp) _))).mono ?_); rintro e w0 ⟨rfl, hb0⟩; obtain ⟨x0, x1, x2, x3⟩ := HBX.out _ hb0; have HE0 := Lib.hid ((HE.out.below (((Below.refl _ _).alloc (Nat.le_refl _) _).alloc (by simp) _)).below hb0); have HG0 : Hid (Holds w0 2 _) := Lib.hid (HE0.out.2.2 0 (by have := HE.out.1; omega)); have HG2 : Hid (Holds w0 4 _) := Lib.hid (HE0.out.2.2 2 (by have := HE.out.1; omega)); have HB0 := Lib.hid hb0; clear hb0))
            | (go_at_call 29; ((with_reducible refine (KB.out _ _ HG0.out).mono ?_); rintro e w1 ⟨rfl, hb1⟩; have HB1 := Lib.hid (HB0.out.trans (hb1.mono HB0.out.size)); have KN := Lib.hid (Err.num_calls w1 es (HE0.out.below hb1) 0 (by have := HE.out.1; omega)); obtain ⟨y0, y1, y2, y3⟩ := HBX.out _ HB1.out; clear hb1))
            | (go_at_call 22; ((with_reducible refine KN.out.mono ?_); rintro e w9 ⟨rfl, hb9⟩)))
          go_ret
          exact ⟨rfl, below_allocd (below_allocd (HB1.out.trans (hb9.mono HB1.out.size)))⟩
        · have h5 : 255 < k1 := by omega
          clear h3
          go_enter Tryd.func6, Tryd.ntmps6
          go_wp2_with (first
            | (go_at_call 16; ((with_reducible refine (alive_calls _ es (HE.out.below (((Below.refl _ _).alloc (Nat.le_refl _) _).alloc (by simp) _))).mono ?_); rintro e w0 ⟨rfl, hb0⟩; obtain ⟨x0, x1, x2, x3⟩ := HBX.out _ hb0; have HE0 := Lib.hid ((HE.out.below (((Below.refl _ _).alloc (Nat.le_refl _) _).alloc (by simp) _)).below hb0); have HG0 : Hid (Holds w0 2 _) := Lib.hid (HE0.out.2.2 0 (by have := HE.out.1; omega)); have HG2 : Hid (Holds w0 4 _) := Lib.hid (HE0.out.2.2 2 (by have := HE.out.1; omega)); have HB0 := Lib.hid hb0; clear hb0))
            | (go_at_call 29; ((with_reducible refine (KB.out _ _ HG0.out).mono ?_); rintro e w1 ⟨rfl, hb1⟩; have HB1 := Lib.hid (HB0.out.trans (hb1.mono HB0.out.size)); have KN := Lib.hid (Err.num_calls w1 es (HE0.out.below hb1) 0 (by have := HE.out.1; omega)); obtain ⟨y0, y1, y2, y3⟩ := HBX.out _ HB1.out; clear hb1))
            | (go_at_call 22; ((with_reducible refine KN.out.mono ?_); rintro e w9 ⟨rfl, hb9⟩)))
          go_ret
          exact ⟨rfl, below_allocd (below_allocd (HB1.out.trans (hb9.mono HB1.out.size)))⟩
      · have h5 : 0 ≤ k1 := by omega
        have h6 : k1 ≤ 255 := by omega
        by_cases h4 : 1199 < n1
        · have KB := Lib.hid (fun W e0 he => frbytes_long k1 A n1 c1 W e0 h5 h6 (by omega) h4 he)
          unfold frV at KB
          clear h3
          go_enter Tryd.func6, Tryd.ntmps6
          go_wp2_with (first
            | (go_at_call 16; ((with_reducible refine (alive_calls _ es (HE.out.below (((Below.refl _ _).alloc (Nat.le_refl _) _).alloc (by simp) _))).mono ?_); rintro e w0 ⟨rfl, hb0⟩; obtain ⟨x0, x1, x2, x3⟩ := HBX.out _ hb0; have HE0 := Lib.hid ((HE.out.below (((Below.refl _ _).alloc (Nat.le_refl _) _).alloc (by simp) _)).below hb0); have HG0 : Hid (Holds w0 2 _) := Lib.hid (HE0.out.2.2 0 (by have := HE.out.1; omega)); have HG2 : Hid (Holds w0 4 _) := Lib.hid (HE0.out.2.2 2 (by have := HE.out.1; omega)); have HB0 := Lib.hid hb0; clear hb0))
            | (go_at_call 29; ((with_reducible refine (KB.out _ _ HG2.out).mono ?_); rintro e w1 ⟨rfl, hb1⟩; have HB1 := Lib.hid (HB0.out.trans (hb1.mono HB0.out.size)); have KN := Lib.hid (Err.num_calls w1 es (HE0.out.below hb1) 2 (by have := HE.out.1; omega)); obtain ⟨y0, y1, y2, y3⟩ := HBX.out _ HB1.out; clear hb1))
            | (go_at_call 22; ((with_reducible refine KN.out.mono ?_); rintro e w9 ⟨rfl, hb9⟩)))
          go_ret
          exact ⟨rfl, below_allocd (below_allocd (HB1.out.trans (hb9.mono HB1.out.size)))⟩
        · obtain ⟨kk, hkk⟩ : ∃ kk : UInt8, k1 = (kk.toNat : Int) := ⟨UInt8.ofNat k1.toNat, by rw [UInt8.toNat_ofNat_of_lt' (by show k1.toNat < 256; omega)]; omega⟩
          subst hkk
          have hle := encF_len kk l
          have hce := cutF_enc kk l (by have := HNL.out; omega)
          have KB := Lib.hid (fun W h => frbytes_ok kk A n1 c1 l W (by omega) h)
          have KC := Lib.hid (fun W v he hv => cut_calls v (encF kk l) W es he hv (by have := HNL.out; omega))
          rw [hce] at KC
          have KS := Lib.hid (fun W xa xn xc hx hv => (show decide ((kk.toNat : Int) = (kk.toNat : Int) ∧ l = l) = true by simp) ▸ same_fr_calls (kk.toNat : Int) (kk.toNat : Int) xa A xn xc n1 c1 l l W hx hv)
          have KT := Lib.hid (fun W hv hu => same_fr_calls (kk.toNat : Int) k2 A B n1 c1 n2 c2 l m W hv hu)
          have HWV := Lib.hid (fun w1 h => (HV.out.below (below_allocd (below_allocd (show Below ((w.alloc (.cells #[.int .i64 (kk.toNat : Int), .slice A n1 c1] 50)).alloc (.cells #[.int .i64 k2, .slice B n2 c2] 50)).heap.size ((w.alloc (.cells #[.int .i64 (kk.toNat : Int), .slice A n1 c1] 50)).alloc (.cells #[.int .i64 k2, .slice B n2 c2] 50)) w1 from h)))))
          have HWU := Lib.hid (fun w1 h => (HU.out.below (below_allocd (below_allocd (show Below ((w.alloc (.cells #[.int .i64 (kk.toNat : Int), .slice A n1 c1] 50)).alloc (.cells #[.int .i64 k2, .slice B n2 c2] 50)).heap.size ((w.alloc (.cells #[.int .i64 (kk.toNat : Int), .slice A n1 c1] 50)).alloc (.cells #[.int .i64 k2, .slice B n2 c2] 50)) w1 from h)))))
          unfold frV at KB KS KT
          clear hle hce h3
          have hmx : Tryd.prog.follows .mixedOrders = true := by kernel_rfl
          by_cases hk : (kk.toNat : Int) = k2
          · subst hk
            by_cases hm : l = m
            · subst hm
              have hd : decide ((kk.toNat : Int) = (kk.toNat : Int) ∧ l = l) = true := by simp
              rw [hd] at KT
              clear hd
              go_enter Tryd.func6, Tryd.ntmps6
              go_wp2_with (first
                | (go_at_call 16; ((with_reducible refine (alive_calls _ es (HE.out.below (((Below.refl _ _).alloc (Nat.le_refl _) _).alloc (by simp) _))).mono ?_); rintro e w0 ⟨rfl, hb0⟩; obtain ⟨x0, x1, x2, x3⟩ := HBX.out _ hb0; have HE0 := Lib.hid ((HE.out.below (((Below.refl _ _).alloc (Nat.le_refl _) _).alloc (by simp) _)).below hb0); have HG0 : Hid (Holds w0 2 _) := Lib.hid (HE0.out.2.2 0 (by have := HE.out.1; omega)); have HG2 : Hid (Holds w0 4 _) := Lib.hid (HE0.out.2.2 2 (by have := HE.out.1; omega)); have HB0 := Lib.hid hb0; clear hb0))
                | (go_at_call 29; ((with_reducible refine (KB.out _ (HWV.out _ HB0.out)).mono ?_); rintro e w1 ⟨⟨bv, rfl, hO1⟩, hb1⟩; have HB1 := Lib.hid (HB0.out.trans (hb1.mono HB0.out.size)); have HE1 := Lib.hid (HE0.out.below hb1); have HR1 := Lib.hid hO1.row; obtain ⟨y0, y1, y2, y3⟩ := HBX.out _ HB1.out; clear hb1 hO1))
                | (go_at_call 18; ((with_reducible refine (KC.out _ _ HE1.out HR1.out).mono ?_); rintro e w2 ⟨⟨v2, u2, rfl, hF2, hu2⟩, hb2⟩; obtain rfl := errIs_nil hu2; have HB2 := Lib.hid (HB1.out.trans (hb2.mono HB1.out.size)); obtain ⟨z0, z1, z2, z3⟩ := HBX.out _ HB2.out; obtain ⟨ad, cc, xa, xn, xc, rfl, hc0, hc1, hrow⟩ := hF2.rd.one; have HX2 := Lib.hid hrow; have cva := (HWV.out _ HB2.out).conv' Tryd.underlying27 Tryd.underlying5 Tryd.underlying9; have cvb := (HWU.out _ HB2.out).conv' Tryd.underlying27 Tryd.underlying5 Tryd.underlying9; clear hF2 hu2 hb2 hrow)))
              go_region_held3 (fun W : World => W.cell? ⟨w.heap.size, 0, none⟩ = some (.int .i64 (kk.toNat : Int)) ∧ W.cell? ⟨w.heap.size, 1, none⟩ = some (.slice A n1 c1) ∧ W.cell? ⟨w.heap.size + 1, 0, none⟩ = some (.int .i64 (kk.toNat : Int)) ∧ W.cell? ⟨w.heap.size + 1, 1, none⟩ = some (.slice B n2 c2) ∧ W.cell? ad = some (.int .i64 (kk.toNat : Int)) ∧ W.cell? ⟨ad.block, ad.off + 1, none⟩ = some (.slice xa xn xc)) (first | exact ⟨z0, z1, z2, z3, hc0, hc1⟩ | exact ⟨q0, q1, q2, q3, q4, q5⟩ | exact ⟨r0, r1, r2, r3, r4, r5⟩) (first
                | (go_at_call 30; ((with_reducible refine (KS.out _ _ _ _ (rowDrew HX2.out) (rowDrew (HWV.out _ HB2.out))).mono ?_); rintro e w3 ⟨rfl, hb3⟩; have HB3 := Lib.hid (HB2.out.drew.trans (hb3.mono HB2.out.size)); obtain ⟨q0, q1, q2, q3⟩ := HBX.out _ HB3.out; have q4 := cell_below hb3 hc0; have q5 := cell_below hb3 hc1; clear hb3))
                | (go_at_call 30; ((with_reducible refine (KT.out _ (HWV.out _ HB3.out) (HWU.out _ HB3.out)).mono ?_); rintro e w4 ⟨rfl, hb4⟩; have HB4 := Lib.hid (HB3.out.trans (hb4.mono HB3.out.size)); obtain ⟨r0, r1, r2, r3⟩ := HBX.out _ HB4.out; have r4 := cell_below hb4 q4; have r5 := cell_below hb4 q5; clear hb4)))
              all_goals go_wp2
              go_ret
              exact ⟨by simp [Act.put], below_allocd (below_allocd HB4.out)⟩
            · have hb : (l == m) = false := beq_eq_false_iff_ne.mpr hm
              have hd : decide ((kk.toNat : Int) = (kk.toNat : Int) ∧ l = m) = false := decide_eq_false fun h => hm h.2
              rw [hd] at KT
              clear hd
              go_enter Tryd.func6, Tryd.ntmps6
              go_wp2_with (first
                | (go_at_call 16; ((with_reducible refine (alive_calls _ es (HE.out.below (((Below.refl _ _).alloc (Nat.le_refl _) _).alloc (by simp) _))).mono ?_); rintro e w0 ⟨rfl, hb0⟩; obtain ⟨x0, x1, x2, x3⟩ := HBX.out _ hb0; have HE0 := Lib.hid ((HE.out.below (((Below.refl _ _).alloc (Nat.le_refl _) _).alloc (by simp) _)).below hb0); have HG0 : Hid (Holds w0 2 _) := Lib.hid (HE0.out.2.2 0 (by have := HE.out.1; omega)); have HG2 : Hid (Holds w0 4 _) := Lib.hid (HE0.out.2.2 2 (by have := HE.out.1; omega)); have HB0 := Lib.hid hb0; clear hb0))
                | (go_at_call 29; ((with_reducible refine (KB.out _ (HWV.out _ HB0.out)).mono ?_); rintro e w1 ⟨⟨bv, rfl, hO1⟩, hb1⟩; have HB1 := Lib.hid (HB0.out.trans (hb1.mono HB0.out.size)); have HE1 := Lib.hid (HE0.out.below hb1); have HR1 := Lib.hid hO1.row; obtain ⟨y0, y1, y2, y3⟩ := HBX.out _ HB1.out; clear hb1 hO1))
                | (go_at_call 18; ((with_reducible refine (KC.out _ _ HE1.out HR1.out).mono ?_); rintro e w2 ⟨⟨v2, u2, rfl, hF2, hu2⟩, hb2⟩; obtain rfl := errIs_nil hu2; have HB2 := Lib.hid (HB1.out.trans (hb2.mono HB1.out.size)); obtain ⟨z0, z1, z2, z3⟩ := HBX.out _ HB2.out; obtain ⟨ad, cc, xa, xn, xc, rfl, hc0, hc1, hrow⟩ := hF2.rd.one; have HX2 := Lib.hid hrow; have cva := (HWV.out _ HB2.out).conv' Tryd.underlying27 Tryd.underlying5 Tryd.underlying9; have cvb := (HWU.out _ HB2.out).conv' Tryd.underlying27 Tryd.underlying5 Tryd.underlying9; clear hF2 hu2 hb2 hrow)))
              go_region_held3 (fun W : World => W.cell? ⟨w.heap.size, 0, none⟩ = some (.int .i64 (kk.toNat : Int)) ∧ W.cell? ⟨w.heap.size, 1, none⟩ = some (.slice A n1 c1) ∧ W.cell? ⟨w.heap.size + 1, 0, none⟩ = some (.int .i64 (kk.toNat : Int)) ∧ W.cell? ⟨w.heap.size + 1, 1, none⟩ = some (.slice B n2 c2) ∧ W.cell? ad = some (.int .i64 (kk.toNat : Int)) ∧ W.cell? ⟨ad.block, ad.off + 1, none⟩ = some (.slice xa xn xc)) (first | exact ⟨z0, z1, z2, z3, hc0, hc1⟩ | exact ⟨q0, q1, q2, q3, q4, q5⟩ | exact ⟨r0, r1, r2, r3, r4, r5⟩) (first
                | (go_at_call 30; ((with_reducible refine (KS.out _ _ _ _ (rowDrew HX2.out) (rowDrew (HWV.out _ HB2.out))).mono ?_); rintro e w3 ⟨rfl, hb3⟩; have HB3 := Lib.hid (HB2.out.drew.trans (hb3.mono HB2.out.size)); obtain ⟨q0, q1, q2, q3⟩ := HBX.out _ HB3.out; have q4 := cell_below hb3 hc0; have q5 := cell_below hb3 hc1; clear hb3))
                | (go_at_call 30; ((with_reducible refine (KT.out _ (HWV.out _ HB3.out) (HWU.out _ HB3.out)).mono ?_); rintro e w4 ⟨rfl, hb4⟩; have HB4 := Lib.hid (HB3.out.trans (hb4.mono HB3.out.size)); obtain ⟨r0, r1, r2, r3⟩ := HBX.out _ HB4.out; have r4 := cell_below hb4 q4; have r5 := cell_below hb4 q5; clear hb4)))
              all_goals go_wp2
              go_ret
              exact ⟨by simp [Act.put, hb, hm], below_allocd (below_allocd HB4.out)⟩
          · have hb : ((kk.toNat : Int) == k2) = false := beq_eq_false_iff_ne.mpr hk
            have hd : decide ((kk.toNat : Int) = k2 ∧ l = m) = false := decide_eq_false fun h => hk h.1
            rw [hd] at KT
            clear hd
            go_enter Tryd.func6, Tryd.ntmps6
            go_wp2_with (first
              | (go_at_call 16; ((with_reducible refine (alive_calls _ es (HE.out.below (((Below.refl _ _).alloc (Nat.le_refl _) _).alloc (by simp) _))).mono ?_); rintro e w0 ⟨rfl, hb0⟩; obtain ⟨x0, x1, x2, x3⟩ := HBX.out _ hb0; have HE0 := Lib.hid ((HE.out.below (((Below.refl _ _).alloc (Nat.le_refl _) _).alloc (by simp) _)).below hb0); have HG0 : Hid (Holds w0 2 _) := Lib.hid (HE0.out.2.2 0 (by have := HE.out.1; omega)); have HG2 : Hid (Holds w0 4 _) := Lib.hid (HE0.out.2.2 2 (by have := HE.out.1; omega)); have HB0 := Lib.hid hb0; clear hb0))
              | (go_at_call 29; ((with_reducible refine (KB.out _ (HWV.out _ HB0.out)).mono ?_); rintro e w1 ⟨⟨bv, rfl, hO1⟩, hb1⟩; have HB1 := Lib.hid (HB0.out.trans (hb1.mono HB0.out.size)); have HE1 := Lib.hid (HE0.out.below hb1); have HR1 := Lib.hid hO1.row; obtain ⟨y0, y1, y2, y3⟩ := HBX.out _ HB1.out; clear hb1 hO1))
              | (go_at_call 18; ((with_reducible refine (KC.out _ _ HE1.out HR1.out).mono ?_); rintro e w2 ⟨⟨v2, u2, rfl, hF2, hu2⟩, hb2⟩; obtain rfl := errIs_nil hu2; have HB2 := Lib.hid (HB1.out.trans (hb2.mono HB1.out.size)); obtain ⟨z0, z1, z2, z3⟩ := HBX.out _ HB2.out; obtain ⟨ad, cc, xa, xn, xc, rfl, hc0, hc1, hrow⟩ := hF2.rd.one; have HX2 := Lib.hid hrow; have cva := (HWV.out _ HB2.out).conv' Tryd.underlying27 Tryd.underlying5 Tryd.underlying9; have cvb := (HWU.out _ HB2.out).conv' Tryd.underlying27 Tryd.underlying5 Tryd.underlying9; clear hF2 hu2 hb2 hrow)))
            go_region_held3 (fun W : World => W.cell? ⟨w.heap.size, 0, none⟩ = some (.int .i64 (kk.toNat : Int)) ∧ W.cell? ⟨w.heap.size, 1, none⟩ = some (.slice A n1 c1) ∧ W.cell? ⟨w.heap.size + 1, 0, none⟩ = some (.int .i64 k2) ∧ W.cell? ⟨w.heap.size + 1, 1, none⟩ = some (.slice B n2 c2) ∧ W.cell? ad = some (.int .i64 (kk.toNat : Int)) ∧ W.cell? ⟨ad.block, ad.off + 1, none⟩ = some (.slice xa xn xc)) (first | exact ⟨z0, z1, z2, z3, hc0, hc1⟩ | exact ⟨q0, q1, q2, q3, q4, q5⟩ | exact ⟨r0, r1, r2, r3, r4, r5⟩) (first
              | (go_at_call 30; ((with_reducible refine (KS.out _ _ _ _ (rowDrew HX2.out) (rowDrew (HWV.out _ HB2.out))).mono ?_); rintro e w3 ⟨rfl, hb3⟩; have HB3 := Lib.hid (HB2.out.drew.trans (hb3.mono HB2.out.size)); obtain ⟨q0, q1, q2, q3⟩ := HBX.out _ HB3.out; have q4 := cell_below hb3 hc0; have q5 := cell_below hb3 hc1; clear hb3))
              | (go_at_call 30; ((with_reducible refine (KT.out _ (HWV.out _ HB3.out) (HWU.out _ HB3.out)).mono ?_); rintro e w4 ⟨rfl, hb4⟩; have HB4 := Lib.hid (HB3.out.trans (hb4.mono HB3.out.size)); obtain ⟨r0, r1, r2, r3⟩ := HBX.out _ HB4.out; have r4 := cell_below hb4 q4; have r5 := cell_below hb4 q5; clear hb4)))
            all_goals go_wp2
            go_ret
            exact ⟨by simp [Act.put, hb], below_allocd (below_allocd HB4.out)⟩
end Go.Proofs.YtmpdcdfnbkfabaaDoor.Frame
