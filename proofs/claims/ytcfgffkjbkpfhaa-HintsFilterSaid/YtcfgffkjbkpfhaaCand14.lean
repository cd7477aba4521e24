/- linkboyref18.Same and All. -/
import Derived.Test.YtcfgffkjbkpfhaaCand13
import Derived.Deep.RegionHeld3
namespace Go.Proofs.Ytcfgffkjbkpfhaa.Cand
open Go.RowKit Go.Proofs.Ytcfgffkjbkpfhaa.Mem Go.Proofs.Ytcfgffkjbkpfhaa.Num Go.Proofs.Ytcfgffkjbkpfhaa.Key
open Go.Proofs.Ytcfgffkjbkpfhaa.Addr hiding below_allocd
set_option linter.unusedVariables false
set_option linter.unusedSimpArgs false
set_option maxRecDepth 100000
attribute [-go_sem] Builtin.append_ loadCells loadCellsFrom storeCells run_eql_struct
set_option maxHeartbeats 4000000 in
theorem rsame_calls (x y : Cd) (l r : List ByteArray) (w : World) (hx : Row eStr w (.slice x.A x.n x.c) l) (hy : Row eStr w (.slice y.A y.n y.c) r) :
    Calls Try.prog 29 #[.agg x.cells.toArray, .agg y.cells.toArray] w fun e w' => e = .returned (.bool (sameB x y l r)) ∧ Below w.heap.size w w' := by
  have hsz : (w.alloc (.cells x.cells.toArray 66)).heap.size = w.heap.size + 1 := by simp
  have hB1 : Below (w.alloc (.cells x.cells.toArray 66)).heap.size (w.alloc (.cells x.cells.toArray 66)) ((w.alloc (.cells x.cells.toArray 66)).alloc (.cells y.cells.toArray 66)) := (Below.refl _ _).alloc (Nat.le_refl _) _
  have hB0 : Below w.heap.size w ((w.alloc (.cells x.cells.toArray 66)).alloc (.cells y.cells.toArray 66)) := below_allocd hB1
  obtain ⟨_, c1, c2, c3, c4, c5⟩ := boxed w _ x 66 hB1
  obtain ⟨_, d1, d2, d3, d4, d5⟩ := boxed (w.alloc (.cells x.cells.toArray 66)) _ y 66 (Below.refl _ ((w.alloc (.cells x.cells.toArray 66)).alloc (.cells y.cells.toArray 66)))
  have p1 := boxedPt w _ x 66 hB1
  have p2 := boxedPt (w.alloc (.cells x.cells.toArray 66)) _ y 66 (Below.refl _ ((w.alloc (.cells x.cells.toArray 66)).alloc (.cells y.cells.toArray 66)))
  rw [hsz] at d1 d2 d3 d4 d5 p2
  have he := pt_eql x y
  have hnx := hx.len
  have hny := hy.len
  have KE : Hid (Calls Try.prog 33 #[.slice x.A x.n x.c, .slice y.A y.n y.c] ((w.alloc (.cells x.cells.toArray 66)).alloc (.cells y.cells.toArray 66)) fun e w' => e = .returned (.bool (eqS l r)) ∧ ∃ n, w' = ((w.alloc (.cells x.cells.toArray 66)).alloc (.cells y.cells.toArray 66)).drewN n) := Lib.hid (by rw [hnx] at hx ⊢; rw [hny] at hy ⊢; exact sametexts_calls _ _ _ _ _ _ _ (hx.below hB0) (hy.below hB0))
  have HB0 := Lib.hid hB0
  unfold sameB flagB
  clear hx hy hB0 hB1 hsz hnx hny
  generalize eqS l r = q at KE ⊢
  generalize x.cells.toArray = xa at *
  generalize y.cells.toArray = ya at *
  generalize ptAr x = pa at *
  generalize ptAr y = pb at *
  generalize ptB x y = b0 at he ⊢
  generalize x.loc = x1 at c1 ⊢
  generalize y.loc = y1 at d1 ⊢
  generalize x.rdy = x2 at c2 ⊢
  generalize y.rdy = y2 at d2 ⊢
  generalize x.srv = x3 at c3 ⊢
  generalize y.srv = y3 at d3 ⊢
  generalize x.trm = x4 at c4 ⊢
  generalize y.trm = y4 at d4 ⊢
  have hb : (x1 == y1) = false ∨ ((x1 == y1) = true ∧ (x2 == y2) = false) ∨ ((x1 == y1) = true ∧ (x2 == y2) = true ∧ (x3 == y3) = false) ∨ ((x1 == y1) = true ∧ (x2 == y2) = true ∧ (x3 == y3) = true ∧ (x4 == y4) = false) ∨ ((x1 == y1) = true ∧ (x2 == y2) = true ∧ (x3 == y3) = true ∧ (x4 == y4) = true) := by
    cases x1 <;> cases y1 <;> cases x2 <;> cases y2 <;> cases x3 <;> cases y3 <;> cases x4 <;> cases y4 <;> decide
  rcases hb with h1 | ⟨h1, h2⟩ | ⟨h1, h2, h3⟩ | ⟨h1, h2, h3, h4⟩ | ⟨h1, h2, h3, h4⟩ <;> cases b0
  all_goals
    go_enter Try.func29, Try.ntmps29
    go_wp2_with (go_at_call 33; ((with_reducible refine KE.out.mono ?_); rintro e w1 ⟨rfl, n1, rfl⟩))
    go_ret
    first | exact ⟨by simp [*], HB0.out⟩ | exact ⟨by simp [*], below_drewN HB0.out _⟩
set_option maxHeartbeats 2000000 in
theorem all_calls (v1 v2 : Value) (xs : List Cd) (z : Cd → List ByteArray) (w : World) (h1 : Cands w v1 xs z) (h2 : Cands w v2 xs z) (hl : xs.length ≤ 100000) :
    Calls Try.prog 12 #[v1, v2] w fun e w' => e = .returned (.bool true) ∧ Below w.heap.size w w' := by
  obtain ⟨A, c, rfl, _, _, _⟩ := h1.1.parts
  obtain ⟨B, d, rfl, _, _, _⟩ := h2.1.parts
  have hmx : Try.prog.follows .mixedOrders = true := by kernel_rfl
  have H1 : Hid (∀ W, Below w.heap.size w W → Cands W (.slice A xs.length c) xs z) := Lib.hid (fun W hW => h1.below hW)
  have H2 : Hid (∀ W, Below w.heap.size w W → Cands W (.slice B xs.length d) xs z) := Lib.hid (fun W hW => h2.below hW)
  have KS : Hid (∀ x W, x ∈ xs → Below w.heap.size w W → Calls Try.prog 29 #[.agg x.cells.toArray, .agg x.cells.toArray] W fun e w' => e = .returned (.bool true) ∧ Below W.heap.size W w') := Lib.hid (fun x W hx hW => by have := rsame_calls x x (z x) (z x) W ((h1.2 x hx).below hW) ((h1.2 x hx).below hW); rw [same_refl] at this; exact this)
  have hl2 : xs.length ≤ 9223372036854775807 := by omega
  have hne : ((xs.length : Int) != (xs.length : Int)) = false := by simp
  clear h1 h2 hl
  go_enter Try.func12, Try.ntmps12
  go_wp2
  go_loopw [13] (fun iv wr => ∃ k : Nat, k ≤ xs.length ∧ iv = .int .i64 (k : Int) ∧ Hid (Below w.heap.size w wr)) (fun iv _ => xs.length - (intOf iv).toNat)
  case atStart => exact ⟨0, Nat.zero_le _, rfl, Lib.hid (Below.refl _ _)⟩
  case round =>
    obtain ⟨k, hk, rfl, HW⟩ := hrel
    by_cases hlt : k < xs.length
    · obtain ⟨ad, rfl, _⟩ := (H1.out _ HW.out).1.at hlt
      obtain ⟨bd, rfl, _⟩ := (H2.out _ HW.out).1.at hlt
      have HLD : Hid (∀ W, Below w.heap.size w W → (loadCells (ad.add (k * 23)) 23).run Try.prog W = .ok (xs[k].cells).toArray W ∧ (loadCells (bd.add (k * 23)) 23).run Try.prog W = .ok (xs[k].cells).toArray W) := Lib.hid (fun W hW => ⟨row_load (H1.out _ hW).1 k hlt, row_load (H2.out _ hW).1 k hlt⟩)
      have hki : (k : Int) < (xs.length : Int) := by omega
      have hk0 : (0 : Int) ≤ (k : Int) := by omega
      have HM := Lib.hid (List.getElem_mem hlt)
      generalize xs[k] = x at HLD HM
      have hsz : (x.cells.toArray).size = 23 := Cd.len x
      have KSS := Lib.hid (fun W hW => KS.out x W HM.out hW)
      generalize x.cells.toArray = xa at hsz HLD KSS
      obtain ⟨q1, q2⟩ := HLD.out _ HW.out
      go_wp2
      go_region_held3 (fun W : World => (loadCells (ad.add (k * 23)) 23).run Try.prog W = .ok xa W ∧ (loadCells (bd.add (k * 23)) 23).run Try.prog W = .ok xa W) (first | exact ⟨q1, q2⟩ | exact HLD.out _ (below_drewN HW.out _) | exact HLD.out _ HW.out.drew | exact HLD.out _ HB3.out) (first
        | (go_at_call 29; ((with_reducible refine (KSS.out _ HW.out.drew).mono ?_); rintro e w3 ⟨rfl, hb3⟩; have HB3 := Lib.hid (HW.out.drew.trans (hb3.mono HW.out.size)); clear hb3))
        | (go_at_call 29; ((with_reducible refine (KSS.out _ (below_drewN HW.out _)).mono ?_); rintro e w3 ⟨rfl, hb3⟩; have HB3 := Lib.hid ((below_drewN HW.out _).trans (hb3.mono HW.out.size)); clear hb3)))
      all_goals go_wp2
      go_roundw
      case rel => exact ⟨k + 1, by omega, by go_num, HB3⟩
      case measure => simp [intOf]; omega
    · go_wp2
      go_ret
      exact ⟨rfl, HW.out⟩
end Go.Proofs.Ytcfgffkjbkpfhaa.Cand
