/- Blocks known whole: structs of many cells, loaded and stored in one piece. -/
import Derived.Test.YtmcgkknpkocgoaaGreatDoorAlt
import Derived.Deep.MidRow
import Derived.Laws.CopyOwn
import Derived.Deep.RegionLaw
namespace Go.Proofs.YtmcgkknpkocgoaaGreatDoor.Mem
open Go.RowKit
set_option linter.unusedVariables false
/-- Block b holds these cells, all of them. -/
def Blk (b : Nat) (cs : List Value) (t : TypeId) (w : World) : Prop := w.heap[b]? = some (.cells cs.toArray t (0, 0))
section
variable {b : Nat} {cs : List Value} {t : TypeId} {w w1 : World}
theorem Blk.lt (h : Blk b cs t w) : b < w.heap.size := (Array.getElem?_eq_some_iff.1 h).1
theorem Blk.below (h : Blk b cs t w) (hb : Below w.heap.size w w1) : Blk b cs t w1 := (hb.block b h.lt).trans h
theorem Blk.alt {R : Nat → Prop} (h : Blk b cs t w) (ha : Alt R w w1) (hn : ¬ R b) : Blk b cs t w1 := (ha.block b h.lt hn).trans h
theorem Blk.alloc (h : Blk b cs t w) (o : Obj) : Blk b cs t (w.alloc o) := h.below (below_own_alloc w o)
theorem Blk.drewN (h : Blk b cs t w) (n : Nat) : Blk b cs t (w.drewN n) := h
theorem Blk.new (w : World) (cs : List Value) (ca : Array Value) (t : TypeId) (b : Nat) (hc : ca = cs.toArray) (hb : w.heap.size = b) : Blk b cs t (w.alloc (.cells ca t)) := by
  subst hb hc
  exact World.alloc_heap_new w _
theorem Blk.cell (h : Blk b cs t w) (i : Nat) (v : Value) (hv : cs[i]? = some v) : w.cell? ⟨b, i, none⟩ = some v := by
  unfold World.cell?
  rw [show w.heap[(⟨b, i, none⟩ : Addr).block]? = _ from h]
  simpa using hv
theorem Blk.free (h : Blk b cs t w) (i : Nat) : w.frozen? ⟨b, i, none⟩ = false := by
  unfold World.frozen?
  rw [show w.heap[(⟨b, i, none⟩ : Addr).block]? = _ from h]
  simp
theorem Blk.there (h : Blk b cs t w) (o n : Nat) (hn : o + n ≤ cs.length) : w.there b o n := fun j hj =>
  ⟨by rw [h.cell (o + j) _ (List.getElem?_eq_getElem (by omega))]; rfl, h.free _⟩
/-- Some of its cells, loaded. -/
theorem Blk.load {P : Program} (h : Blk b cs t w) (k n : Nat) (ds : List Value) (hd : (cs.drop k).take n = ds) (hn : ds.length = n) : (loadCells ⟨b, k, none⟩ n).run P w = .ok ds.toArray w := by
  have := run_loadCells_list (P := P) w ⟨b, k, none⟩ ds (fun j v hv => by
    have hadd : (⟨b, k, none⟩ : Addr).add j = ⟨b, k + j, none⟩ := by unfold Addr.add; split <;> simp_all
    rw [hadd]
    refine h.cell _ _ ?_
    have hj := (List.getElem?_eq_some_iff.1 hv).1
    rw [← hd, List.getElem?_take, if_pos (by omega), List.getElem?_drop] at hv
    exact hv)
  rw [← hn]
  exact this
theorem setCells_heap (vs : List Value) (o : Nat) (h : Blk b cs t w) (hn : o + vs.length ≤ cs.length) : Blk b (splice cs o vs) t (w.setCells b o vs) ∧ Alt (fun k => k = b) w (w.setCells b o vs) := by
  induction vs generalizing o cs w with
  | nil =>
    refine ⟨?_, Alt.refl _ _⟩
    have : splice cs o [] = cs := by simp [splice]
    rw [this]; exact h
  | cons v vs ih =>
    have h1 : Blk b (cs.set o v) t (w.setCell ⟨b, o, none⟩ v) := by
      unfold Blk at h ⊢
      unfold World.setCell
      simp only [Array.getElem?_modify, h]
      simp
    have hl : o + 1 + vs.length ≤ (cs.set o v).length := by simp at hn ⊢; omega
    obtain ⟨h2, h3⟩ := ih (o + 1) h1 hl
    refine ⟨?_, (Alt.set (R := fun k => k = b) (a := ⟨b, o, none⟩) v rfl).trans h3⟩
    have e : splice cs o (v :: vs) = splice (cs.set o v) (o + 1) vs := by
      have ho : o < cs.length := by simp at hn; omega
      unfold splice
      rw [List.take_succ_eq_append_getElem (show o < (cs.set o v).length by simpa using ho), List.take_set, List.set_eq_of_length_le (by rw [List.length_take]; omega), List.drop_set, if_pos (by omega)]
      simp
      congr 1
      omega
    rw [e]; exact h2
end
theorem splice_all {α : Type} (cs vs : List α) (h : cs.length = vs.length) : splice cs 0 vs = vs := by
  unfold splice; rw [List.take_zero, List.nil_append, Nat.zero_add, ← h, List.drop_length, List.append_nil]
section
variable {P : Program} {ops : Array Oper} {rest : List Oper} {o : Oper} {a : Act} {Q : Exit → Act → World → Prop} {K : Act → World → Prop} {E : Prop} {w : World}
theorem run_store_blk (ty : TypeId) {b off : Nat} {cs vs : List Value} {t : TypeId} (hb : Blk b cs t w) (hn : off + vs.length ≤ cs.length) (hi : (P.info? ty).map (·.size) = some vs.length) (h1 : ∀ v ∈ vs, v.oneCell' = true) (hpos : 0 < vs.length) (v : Value) (hv : v.cells = vs.toArray) :
    (Instr.storeAt ty (.pointer (some ⟨b, off, none⟩)) v).run P w = .ok () (w.setCells b off vs) := by
  have hs := run_storeCells_cells (P := P) b off vs 0 w (fun j hj => by simpa using ((hb.there off vs.length hn) j hj).1) (fun j hj => by simpa using ((hb.there off vs.length hn) j hj).2) h1
  rw [Nat.add_zero] at hs
  cases hq : P.info? ty with
  | none => simp [hq] at hi
  | some i =>
    have hz : vs.length = i.size := by simp [hq] at hi; omega
    simp [Instr.storeAt, Instr.sureAddr, storeVar, sizeOf, typeInfo, hq, hv, hz, hs]
/-- '*p = v' into a block known whole. -/
theorem wp_store_blk (hgd : o.guard = none) (ty : TypeId) (x y : Operand) (ho : o.op = .store ty x y) (b off : Nat) (cs vs : List Value) (t : TypeId) (v : Value) (hx : a.eval x = .pointer (some ⟨b, off, none⟩)) (hy : a.eval y = v) (hv : v.cells = vs.toArray)
    (hb : Blk b cs t w) (hn : off + vs.length ≤ cs.length) (hi : (P.info? ty).map (·.size) = some vs.length) (h1 : ∀ v ∈ vs, v.oneCell' = true) (hpos : 0 < vs.length)
    (h : ∀ w', Blk b (splice cs off vs) t w' → Alt (fun k => k = b) w w' → wpList P ops Q rest (a.put o.dst undef) w') : wpList P ops Q (o :: rest) a w := by
  refine wpList_plain hgd fun K' hK => ?_
  have hr := run_store_blk (P := P) ty hb hn hi h1 hpos v hv
  obtain ⟨q1, q2⟩ := setCells_heap vs off hb hn
  unfold Oper.wp execOp
  simp only [ho, hx, hy, Sem.run_bind, hr, Result.andThen_ok, Sem.run_pure]
  exact hK _ _ (h _ q1 q2)
/-- .. as a step of a region that draws its order. -/
theorem step_store_blk (hgd : o.guard = none) (ty : TypeId) (x y : Operand) (ho : o.op = .store ty x y) (b off : Nat) (cs vs : List Value) (t : TypeId) (v : Value) (hx : a.eval x = .pointer (some ⟨b, off, none⟩)) (hy : a.eval y = v) (hv : v.cells = vs.toArray)
    (hb : Blk b cs t w) (hn : off + vs.length ≤ cs.length) (hi : (P.info? ty).map (·.size) = some vs.length) (h1 : ∀ v ∈ vs, v.oneCell' = true) (hpos : 0 < vs.length)
    (h : ∀ w', Blk b (splice cs off vs) t w' → Alt (fun k => k = b) w w' → K (a.put o.dst undef) w') :
    if Region.wanted o (yielded ops a.tmps) = true then Oper.wp P o a w K Q else E := by
  have hw : Region.wanted o (yielded ops a.tmps) = true := by simp [Region.wanted, hgd]
  rw [if_pos hw]
  have hr := run_store_blk (P := P) ty hb hn hi h1 hpos v hv
  obtain ⟨q1, q2⟩ := setCells_heap vs off hb hn
  unfold Oper.wp execOp
  simp only [ho, hx, hy, Sem.run_bind, hr, Result.andThen_ok, Sem.run_pure]
  exact h _ q1 q2
end
end Go.Proofs.YtmcgkknpkocgoaaGreatDoor.Mem
