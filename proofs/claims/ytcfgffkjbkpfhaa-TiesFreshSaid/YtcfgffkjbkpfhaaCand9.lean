/- hints.Same and linkboyref18.Same. -/
import Derived.Test.YtcfgffkjbkpfhaaCand8
namespace Go.Proofs.Ytcfgffkjbkpfhaa.Cand
open Go.RowKit Go.Proofs.Ytcfgffkjbkpfhaa.Mem Go.Proofs.Ytcfgffkjbkpfhaa.Num Go.Proofs.Ytcfgffkjbkpfhaa.Key
open Go.Proofs.Ytcfgffkjbkpfhaa.Addr hiding below_allocd
set_option linter.unusedVariables false
set_option linter.unusedSimpArgs false
set_option maxRecDepth 100000
attribute [-go_sem] Builtin.append_ loadCells loadCellsFrom storeCells run_eql_struct
theorem u8L_inj {a b : List UInt8} (h : u8L a = u8L b) : a = b := by
  unfold u8L at h
  induction a generalizing b with
  | nil => cases b with
    | nil => rfl
    | cons y b => cases h
  | cons x a ih => cases b with
    | nil => cases h
    | cons y b =>
      rw [List.map_cons, List.map_cons] at h
      injection h with e1 e2
      injection e1 with _ e1
      rw [ih e2, UInt8.toNat_inj.1 (show x.toNat = y.toNat by omega)]
/-- Do two candidates have one point? -/
def ptB (x y : Cd) : Bool := decide (x.six = y.six ∧ x.b = y.b ∧ x.port = y.port)
theorem ptB_iff (x y : Cd) : ptB x y = true ↔ ptL x.six x.b x.port = ptL y.six y.b y.port := by
  unfold ptB
  rw [decide_eq_true_iff]
  constructor
  · rintro ⟨h1, h2, h3⟩
    rw [h1, h2, h3]
  · intro h
    unfold ptL adL at h
    rw [List.cons_append, List.cons_append] at h
    injection h with e1 e2
    injection e1 with e1
    have hl : (u8L x.b).length = (u8L y.b).length := by unfold u8L; rw [List.length_map, List.length_map, x.hb, y.hb]
    obtain ⟨e3, e4⟩ := List.append_inj e2 hl
    injection e4 with e4 _
    injection e4 with _ e4
    exact ⟨e1, u8L_inj e3, e4⟩
def ptAr (x : Cd) : Array Value := (ptCells x.six x.b x.port).toArray
theorem pt_eql (x y : Cd) (w : World) : (binOp .eql 41 (.agg (ptAr x)) (.agg (ptAr y))).run Try.prog w = .ok (.bool (ptB x y)) w := by
  have hf : ∀ x : Cd, (Value.agg (ptAr x)).formed Try.prog 41 = true := fun x => by
    have hc : Try.prog.cellsOf 41 = 18 := by kernel_rfl
    unfold Value.formed ptAr
    rw [Try.underlying41]
    simp only [hc]
    rw [List.size_toArray, ptCells_len _ _ x.hb]
    rfl
  exact (eql_deep (by kernel_rfl) (ptB x y) (ptB_iff x y) (hf x) (hf y) (key_point 0 x.six x.b x.hb x.port x.hp) (key_point 0 y.six y.b y.hb y.port y.hp) w).1
theorem boxedPt (W W' : World) (x : Cd) (t : TypeId) (hb : Below (W.alloc (.cells x.cells.toArray t)).heap.size (W.alloc (.cells x.cells.toArray t)) W') : (loadCells ⟨W.heap.size, 0, none⟩ 18).run Try.prog W' = .ok (ptAr x) W' := by
  have hk : Blk W.heap.size x.cells t W' := (Blk.new W x.cells _ t _ rfl rfl).below hb
  exact hk.load 0 18 (ptCells x.six x.b x.port) x.pt (ptCells_len _ _ x.hb _)
def flagB (x y : Cd) : Bool := (x.loc == y.loc) && ((x.rdy == y.rdy) && ((x.srv == y.srv) && (x.trm == y.trm)))
def sameB (x y : Cd) (l r : List ByteArray) : Bool := ptB x y && (flagB x y && eqS l r)
set_option maxHeartbeats 4000000 in
theorem same_calls (x y : Cd) (l r : List ByteArray) (w : World) (hx : Row eStr w (.slice x.A x.n x.c) l) (hy : Row eStr w (.slice y.A y.n y.c) r) :
    Calls Try.prog 17 #[.agg x.cells.toArray, .agg y.cells.toArray] w fun e w' => e = .returned (.bool (sameB x y l r)) ∧ Below w.heap.size w w' := by
  have hsz : (w.alloc (.cells x.cells.toArray 44)).heap.size = w.heap.size + 1 := by simp
  have hB1 : Below (w.alloc (.cells x.cells.toArray 44)).heap.size (w.alloc (.cells x.cells.toArray 44)) ((w.alloc (.cells x.cells.toArray 44)).alloc (.cells y.cells.toArray 44)) := (Below.refl _ _).alloc (Nat.le_refl _) _
  have hB0 : Below w.heap.size w ((w.alloc (.cells x.cells.toArray 44)).alloc (.cells y.cells.toArray 44)) := below_allocd hB1
  obtain ⟨_, c1, c2, c3, c4, c5⟩ := boxed w _ x 44 hB1
  obtain ⟨_, d1, d2, d3, d4, d5⟩ := boxed (w.alloc (.cells x.cells.toArray 44)) _ y 44 (Below.refl _ ((w.alloc (.cells x.cells.toArray 44)).alloc (.cells y.cells.toArray 44)))
  have p1 := boxedPt w _ x 44 hB1
  have p2 := boxedPt (w.alloc (.cells x.cells.toArray 44)) _ y 44 (Below.refl _ ((w.alloc (.cells x.cells.toArray 44)).alloc (.cells y.cells.toArray 44)))
  rw [hsz] at d1 d2 d3 d4 d5 p2
  have he := pt_eql x y
  have hnx := hx.len
  have hny := hy.len
  have KE : Hid (Calls Try.prog 41 #[.slice x.A x.n x.c, .slice y.A y.n y.c] ((w.alloc (.cells x.cells.toArray 44)).alloc (.cells y.cells.toArray 44)) fun e w' => e = .returned (.bool (eqS l r)) ∧ ∃ n, w' = ((w.alloc (.cells x.cells.toArray 44)).alloc (.cells y.cells.toArray 44)).drewN n) := Lib.hid (by rw [hnx] at hx ⊢; rw [hny] at hy ⊢; exact equal_calls _ _ _ _ _ _ _ (hx.below hB0) (hy.below hB0))
  have HB0 := Lib.hid hB0
  unfold sameB flagB
  clear hx hy hB0 hB1 hsz hnx hny
  generalize eqS l r = q at KE ⊢
  generalize x.cells.toArray = xa at *
  generalize y.cells.toArray = ya at *
  generalize ptAr x = pa at *
  generalize ptAr y = pb at *
  generalize ptB x y = b0 at he ⊢
  generalize x.loc = x1 at c1 ⊢
  generalize y.loc = y1 at d1 ⊢
  generalize x.rdy = x2 at c2 ⊢
  generalize y.rdy = y2 at d2 ⊢
  generalize x.srv = x3 at c3 ⊢
  generalize y.srv = y3 at d3 ⊢
  generalize x.trm = x4 at c4 ⊢
  generalize y.trm = y4 at d4 ⊢
  have hb : (x1 == y1) = false ∨ ((x1 == y1) = true ∧ (x2 == y2) = false) ∨ ((x1 == y1) = true ∧ (x2 == y2) = true ∧ (x3 == y3) = false) ∨ ((x1 == y1) = true ∧ (x2 == y2) = true ∧ (x3 == y3) = true ∧ (x4 == y4) = false) ∨ ((x1 == y1) = true ∧ (x2 == y2) = true ∧ (x3 == y3) = true ∧ (x4 == y4) = true) := by
    cases x1 <;> cases y1 <;> cases x2 <;> cases y2 <;> cases x3 <;> cases y3 <;> cases x4 <;> cases y4 <;> decide
  rcases hb with h1 | ⟨h1, h2⟩ | ⟨h1, h2, h3⟩ | ⟨h1, h2, h3, h4⟩ | ⟨h1, h2, h3, h4⟩ <;> cases b0
  all_goals
    go_enter Try.func17, Try.ntmps17
    go_wp2_with (go_at_call 41; ((with_reducible refine KE.out.mono ?_); rintro e w1 ⟨rfl, n1, rfl⟩))
    go_ret
    first | exact ⟨by simp [*], HB0.out⟩ | exact ⟨by simp [*], below_drewN HB0.out _⟩
end Go.Proofs.Ytcfgffkjbkpfhaa.Cand
