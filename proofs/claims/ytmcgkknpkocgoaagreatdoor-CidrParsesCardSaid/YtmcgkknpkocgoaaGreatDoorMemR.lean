/- 'append' as a step of a region that draws its order. -/
import Derived.Test.YtmcgkknpkocgoaaGreatDoorMem
import Derived.Deep.AppendLies
import Derived.Deep.RegionLaw
namespace Go.Proofs.YtmcgkknpkocgoaaGreatDoor.Mem
open Go.RowKit
set_option linter.unusedVariables false
theorem Own.lit' {α : Type} (w : World) (g : Nat) (hg : w.heap.size = g) (base : Nat) (E : Enc α) (e : TypeId) (xs : List α) (n : Nat) (hn : n = xs.length) (cs : Array Value) (hcs : cs = (E.all xs).toArray) (hb : base ≤ w.heap.size) (hm : xs.length ≤ 9223372036854775807) :
    Own E e base (w.alloc (.cells cs e)) (.slice (some ⟨g, 0, none⟩) n n) xs := by
  subst hg; exact Own.lit w base E e xs n hn cs hcs hb hm
section
variable {P : Program} {ops : Array Oper} {o : Oper} {a : Act} {K : Act → World → Prop} {Q : Exit → Act → World → Prop} {E' : Prop} {α : Type} {E : Enc α}
theorem step_append (base : Nat) (hgd : o.guard = none) (s x : Operand) (t e : TypeId) (z : Value) (bytes : Nat)
    (ho : o.op = .call { callee := .builtin .append, args := #[s, x], argTypes := #[t, t] })
    (ht : P.underlying t = some (.slice e)) (hinfo : (P.info? e).map (fun i => (i.zero, i.size, i.bytes)) = some (some z, E.sz, bytes)) (hz : z.cells.size = E.sz) (hb0 : 0 < bytes)
    {W : World} (v sv : Value) (xs ys : List α) (hs : a.eval s = v) (hx : a.eval x = sv)
    (HO : Own E e base W v xs) (HS : Row E W sv ys) (hbase : base ≤ W.heap.size) (hl : (xs.length + ys.length) * bytes ≤ 140737488355328)
    (h : ∀ v1 w1, Own E e base w1 v1 (xs ++ ys) → W.grownBy w1 v.ownBlock → (v1.ownBlock = v.ownBlock ∨ v1.ownBlock = some W.heap.size) → K (a.put o.dst v1) w1) :
    if Region.wanted o (yielded ops a.tmps) = true then Oper.wp P o a W K Q else E' := by
  have hw : Region.wanted o (yielded ops a.tmps) = true := by simp [Region.wanted, hgd]
  rw [if_pos hw]
  obtain ⟨v1, w1, hr, h1, h2, h3⟩ := run_append base t o.type e z bytes ht hinfo hz hb0 W v sv xs ys HO HS hbase hl
  unfold Oper.wp execOp
  simp only [ho, resolve, invoke, builtin, Sem.run_bind, Sem.run_pure, Result.andThen_ok, List.map_toArray, List.map_cons, List.map_nil, hs, hx, hr]
  exact h v1 w1 h1 h2 h3
end
end Go.Proofs.YtmcgkknpkocgoaaGreatDoor.Mem
