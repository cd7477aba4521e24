/- The lists of those of which something is so: hints.kept, pick.those; Meant; the predicates. -/
import Derived.Test.YtcfgffkjbkpfhaaCand3
namespace Go.Proofs.Ytcfgffkjbkpfhaa.Cand
open Go.RowKit Go.Proofs.Ytcfgffkjbkpfhaa.Mem Go.Proofs.Ytcfgffkjbkpfhaa.Num Go.Proofs.Ytcfgffkjbkpfhaa.Key
open Go.Proofs.Ytcfgffkjbkpfhaa.Addr hiding below_allocd
set_option linter.unusedVariables false
set_option linter.unusedSimpArgs false
set_option maxRecDepth 100000
attribute [-go_sem] Builtin.append_ loadCells loadCellsFrom storeCells run_eql_struct
/-- A parameter's box. -/
theorem boxed (W W' : World) (x : Cd) (t : TypeId) (hb : Below (W.alloc (.cells x.cells.toArray t)).heap.size (W.alloc (.cells x.cells.toArray t)) W') : (loadCells ⟨W.heap.size, 0, none⟩ 23).run Try.prog W' = .ok x.cells.toArray W' ∧ W'.cell? ⟨W.heap.size, 18, none⟩ = some (.bool x.loc) ∧ W'.cell? ⟨W.heap.size, 19, none⟩ = some (.bool x.rdy) ∧ W'.cell? ⟨W.heap.size, 20, none⟩ = some (.bool x.srv) ∧ W'.cell? ⟨W.heap.size, 21, none⟩ = some (.bool x.trm) ∧ W'.cell? ⟨W.heap.size, 22, none⟩ = some (.slice x.A x.n x.c) := by
  have hk : Blk W.heap.size x.cells t W' := (Blk.new W x.cells _ t _ rfl rfl).below hb
  obtain ⟨a, b, c, d, e⟩ := x.at
  exact ⟨hk.load 0 23 x.cells (by rw [List.drop_zero, List.take_of_length_le (by rw [Cd.len]; decide)]) (Cd.len x), hk.cell _ _ a, hk.cell _ _ b, hk.cell _ _ c, hk.cell _ _ d, hk.cell _ _ e⟩
theorem kept1_pred (g : Nat) (lb : Array Value) (p : Cd → Bool) (eg : ∀ args w, (callFunc g args).run Try.prog w = .ok (.enter g args) w) (xs : List Cd) (w0 w : World) (B : Nat) (hb : Below w0.heap.size w0 w) (hB : B < w.heap.size) (hc : w.cell? ⟨B, 0, none⟩ = some (.func (.func g) #[] lb)) (hp : Pred g lb p xs w0) :
    Pred 72 #[.pointer (some ⟨B, 0, none⟩)] (fun x => !p x) xs w := by
  intro x hx W hW
  have hcall := hp x hx
  have hc' : (W.alloc (.cells x.cells.toArray 44)).cell? ⟨B, 0, none⟩ = some (.func (.func g) #[] lb) := cell_below (hW.alloc hW.size _) hc
  have hld := (boxed W _ x 44 (Below.refl _ _)).1
  have hsz : (x.cells.toArray).size = 23 := Cd.len x
  have HC := Lib.hid (hcall (W.alloc (.cells x.cells.toArray 44)) ((hb.trans (hW.mono hb.size)).alloc (by have := hb.size; have := hW.size; omega) _))
  clear hcall hp hc hb
  generalize x.cells.toArray = xa at hc' hld hsz HC ⊢
  show Calls Try.prog 72 #[.agg xa, .pointer (some ⟨B, 0, none⟩)] W _
  go_enter Try.func72, Try.ntmps72
  go_wp2_with (go_at_fn g; refine HC.out.mono ?_; rintro e w3 ⟨rfl, hb3⟩)
  go_ret
  exact ⟨rfl, below_allocd hb3⟩
set_option maxHeartbeats 1000000 in
theorem kept_calls (g : Nat) (lb : Array Value) (p : Cd → Bool) (eg : ∀ args w, (callFunc g args).run Try.prog w = .ok (.enter g args) w) (v : Value) (xs : List Cd) (w0 w : World) (hb : Below w0.heap.size w0 w) (hv : Row eCd w v xs) (hp : Pred g lb p xs w0) (hl : xs.length ≤ 100000) :
    Calls Try.prog 55 #[v, .func (.func g) #[] lb] w fun e w' => (∃ v', e = .returned v' ∧ Row eCd w' v' (xs.filter p)) ∧ Below w.heap.size w w' := by
  have hB : w.heap.size < (w.alloc (.cells #[.func (.func g) #[] lb] 74)).heap.size := by simp
  have hc : (w.alloc (.cells #[.func (.func g) #[] lb] 74)).cell? ⟨w.heap.size, 0, none⟩ = some (.func (.func g) #[] lb) := (Blk.new w [.func (.func g) #[] lb] _ _ _ rfl rfl).cell 0 _ rfl
  have hp1 := kept1_pred g lb p eg xs w0 _ w.heap.size (hb.alloc hb.size _) hB hc hp
  have KC := Lib.hid (clone_calls v xs _ (hv.alloc (.cells #[.func (.func g) #[] lb] 74)) hl)
  have KD := Lib.hid (fun v' W hb ho => delete_calls 72 #[.pointer (some ⟨w.heap.size, 0, none⟩)] (fun x => !p x) (enters_of Try.func72 (by kernel_rfl) rfl) (w.alloc (.cells #[.func (.func g) #[] lb] 74)).heap.size v' xs (w.alloc (.cells #[.func (.func g) #[] lb] 74)) W hb (Nat.le_refl _) ho hp1 hl)
  simp only [Bool.not_not] at KD
  clear hp1 hc hB hp hb hv
  go_enter Try.func55, Try.ntmps55
  go_wp2_with (first
    | (go_at_call 63; ((with_reducible refine KC.out.mono ?_); rintro e w2 ⟨⟨v2, rfl, ho2⟩, hb2⟩; have HO2 := Lib.hid ho2; have HB2 := Lib.hid hb2; clear ho2 hb2))
    | (go_at_call 62; ((with_reducible refine (KD.out _ _ HB2.out HO2.out).mono ?_); rintro e w3 ⟨⟨v3, rfl, hr3⟩, hb3⟩; have HR3 := Lib.hid hr3; have HB3 := Lib.hid hb3; clear hr3 hb3)))
  go_ret
  exact ⟨⟨_, rfl, HR3.out⟩, below_allocd HB3.out⟩
theorem those1_pred (g : Nat) (lb : Array Value) (p : Cd → Bool) (eg : ∀ args w, (callFunc g args).run Try.prog w = .ok (.enter g args) w) (xs : List Cd) (w0 w : World) (B : Nat) (hb : Below w0.heap.size w0 w) (hB : B < w.heap.size) (hc : w.cell? ⟨B, 0, none⟩ = some (.func (.func g) #[] lb)) (hp : Pred g lb p xs w0) :
    Pred 64 #[.pointer (some ⟨B, 0, none⟩)] (fun x => !p x) xs w := by
  intro x hx W hW
  have hcall := hp x hx
  have hc' : (W.alloc (.cells x.cells.toArray 44)).cell? ⟨B, 0, none⟩ = some (.func (.func g) #[] lb) := cell_below (hW.alloc hW.size _) hc
  have hld := (boxed W _ x 44 (Below.refl _ _)).1
  have hsz : (x.cells.toArray).size = 23 := Cd.len x
  have HC := Lib.hid (hcall (W.alloc (.cells x.cells.toArray 44)) ((hb.trans (hW.mono hb.size)).alloc (by have := hb.size; have := hW.size; omega) _))
  clear hcall hp hc hb
  generalize x.cells.toArray = xa at hc' hld hsz HC ⊢
  show Calls Try.prog 64 #[.agg xa, .pointer (some ⟨B, 0, none⟩)] W _
  go_enter Try.func64, Try.ntmps64
  go_wp2_with (go_at_fn g; refine HC.out.mono ?_; rintro e w3 ⟨rfl, hb3⟩)
  go_ret
  exact ⟨rfl, below_allocd hb3⟩
set_option maxHeartbeats 1000000 in
theorem those_calls (g : Nat) (lb : Array Value) (p : Cd → Bool) (eg : ∀ args w, (callFunc g args).run Try.prog w = .ok (.enter g args) w) (v : Value) (xs : List Cd) (w0 w : World) (hb : Below w0.heap.size w0 w) (hv : Row eCd w v xs) (hp : Pred g lb p xs w0) (hl : xs.length ≤ 100000) :
    Calls Try.prog 36 #[v, .func (.func g) #[] lb] w fun e w' => (∃ v', e = .returned v' ∧ Row eCd w' v' (xs.filter p)) ∧ Below w.heap.size w w' := by
  have hB : w.heap.size < (w.alloc (.cells #[.func (.func g) #[] lb] 74)).heap.size := by simp
  have hc : (w.alloc (.cells #[.func (.func g) #[] lb] 74)).cell? ⟨w.heap.size, 0, none⟩ = some (.func (.func g) #[] lb) := (Blk.new w [.func (.func g) #[] lb] _ _ _ rfl rfl).cell 0 _ rfl
  have hp1 := those1_pred g lb p eg xs w0 _ w.heap.size (hb.alloc hb.size _) hB hc hp
  have KC := Lib.hid (clone_calls v xs _ (hv.alloc (.cells #[.func (.func g) #[] lb] 74)) hl)
  have KD := Lib.hid (fun v' W hb ho => delete_calls 64 #[.pointer (some ⟨w.heap.size, 0, none⟩)] (fun x => !p x) (enters_of Try.func64 (by kernel_rfl) rfl) (w.alloc (.cells #[.func (.func g) #[] lb] 74)).heap.size v' xs (w.alloc (.cells #[.func (.func g) #[] lb] 74)) W hb (Nat.le_refl _) ho hp1 hl)
  simp only [Bool.not_not] at KD
  clear hp1 hc hB hp hb hv
  go_enter Try.func36, Try.ntmps36
  go_wp2_with (first
    | (go_at_call 63; ((with_reducible refine KC.out.mono ?_); rintro e w2 ⟨⟨v2, rfl, ho2⟩, hb2⟩; have HO2 := Lib.hid ho2; have HB2 := Lib.hid hb2; clear ho2 hb2))
    | (go_at_call 62; ((with_reducible refine (KD.out _ _ HB2.out HO2.out).mono ?_); rintro e w3 ⟨⟨v3, rfl, hr3⟩, hb3⟩; have HR3 := Lib.hid hr3; have HB3 := Lib.hid hb3; clear hr3 hb3)))
  go_ret
  exact ⟨⟨_, rfl, HR3.out⟩, below_allocd HB3.out⟩
theorem ready1_pred (xs : List Cd) (w : World) : Pred 71 #[] (fun x => x.rdy) xs w := by
  intro x hx W hW
  obtain ⟨_, c1, c2, c3, c4, c5⟩ := boxed W _ x 44 (Below.refl _ _)
  generalize x.cells.toArray = xa at c1 c2 c3 c4 c5 ⊢
  show Calls Try.prog 71 #[.agg xa] W _
  go_enter Try.func71, Try.ntmps71
  go_wp2
  go_ret
  exact ⟨rfl, (Below.refl _ _).alloc (Nat.le_refl _) _⟩
theorem bare_pred (xs : List Cd) (w : World) : Pred 60 #[] (fun x => ((x.n : Int) == 0)) xs w := by
  intro x hx W hW
  obtain ⟨_, c1, c2, c3, c4, c5⟩ := boxed W _ x 44 (Below.refl _ _)
  generalize x.cells.toArray = xa at c1 c2 c3 c4 c5 ⊢
  show Calls Try.prog 60 #[.agg xa] W _
  go_enter Try.func60, Try.ntmps60
  go_wp2
  go_ret
  exact ⟨rfl, (Below.refl _ _).alloc (Nat.le_refl _) _⟩
theorem pready_pred (xs : List Cd) (w : World) : Pred 37 #[] (fun x => x.rdy) xs w := by
  intro x hx W hW
  obtain ⟨_, c1, c2, c3, c4, c5⟩ := boxed W _ x 44 (Below.refl _ _)
  generalize x.cells.toArray = xa at c1 c2 c3 c4 c5 ⊢
  show Calls Try.prog 37 #[.agg xa] W _
  go_enter Try.func37, Try.ntmps37
  go_wp2
  go_ret
  exact ⟨rfl, (Below.refl _ _).alloc (Nat.le_refl _) _⟩
theorem plocal_pred (xs : List Cd) (w : World) : Pred 39 #[] (fun x => x.loc) xs w := by
  intro x hx W hW
  obtain ⟨_, c1, c2, c3, c4, c5⟩ := boxed W _ x 44 (Below.refl _ _)
  generalize x.cells.toArray = xa at c1 c2 c3 c4 c5 ⊢
  show Calls Try.prog 39 #[.agg xa] W _
  go_enter Try.func39, Try.ntmps39
  go_wp2
  go_ret
  exact ⟨rfl, (Below.refl _ _).alloc (Nat.le_refl _) _⟩
end Go.Proofs.Ytcfgffkjbkpfhaa.Cand
