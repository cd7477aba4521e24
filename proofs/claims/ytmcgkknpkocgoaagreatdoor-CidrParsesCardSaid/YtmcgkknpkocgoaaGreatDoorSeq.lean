/- '==' on two struct values, whatever the program: field by field, by the fields' types and places. -/
import Derived.WalkKit
import Derived.Laws.StructEq
namespace Go.Proofs.YtmcgkknpkocgoaaGreatDoor.Seq
open Go.RowKit
def eqSig (d : Nat) (xs ys : Array Value) : List (Bool × TypeId × Nat) → Sem Bool
  | [] => pure true
  | f :: fs =>
    if f.1 = true then do
      let a ← part f.2.1 xs f.2.2
      let b ← part f.2.1 ys f.2.2
      let r ← Op.equalIn d f.2.1 a b
      if (!r) = true then pure false else eqSig d xs ys fs
    else eqSig d xs ys fs
theorem eqFields_sig (d : Nat) (xs ys : Array Value) (fs : List Field) : Op.eqFields d xs ys fs = eqSig d xs ys (fs.map fun f => (f.name != "_", f.type, f.offset)) := by
  induction fs with
  | nil => rfl
  | cons f fs ih =>
    simp only [Op.eqFields, List.map_cons, eqSig, ih, bne_iff_ne]
theorem equalIn_sig {P : Program} (w : World) (d : Nat) (t : TypeId) (xs ys : Array Value) (sg : List (Bool × TypeId × Nat)) (hu : P.underlying t = some (.struct (P.fieldsOf t))) (hp : P.stoodInHeld t = false) (hf : (P.fieldsOf t).toList.map (fun f => (f.name != "_", f.type, f.offset)) = sg) :
    (Op.equalIn (d + 1) t (.agg xs) (.agg ys)).run P w = (eqSig d xs ys sg).run P w := by
  rw [run_equalIn_agg w d t xs ys hu hp, eqFields_sig, hf]
theorem eql_of {P : Program} (w : World) (t : TypeId) (xs ys : Array Value) (b : Bool) (h : ∀ d, (Op.equalIn (d + 4) t (.agg xs) (.agg ys)).run P w = .ok b w) : (binOp .eql t (.agg xs) (.agg ys)).run P w = .ok (.bool b) w := by
  rw [run_eql_struct, h 9996]; rfl
theorem neq_of {P : Program} (w : World) (t : TypeId) (xs ys : Array Value) (b : Bool) (h : ∀ d, (Op.equalIn (d + 4) t (.agg xs) (.agg ys)).run P w = .ok b w) : (binOp .neq t (.agg xs) (.agg ys)).run P w = .ok (.bool (!b)) w := by
  rw [run_neq_struct, h 9996]; rfl
end Go.Proofs.YtmcgkknpkocgoaaGreatDoor.Seq
