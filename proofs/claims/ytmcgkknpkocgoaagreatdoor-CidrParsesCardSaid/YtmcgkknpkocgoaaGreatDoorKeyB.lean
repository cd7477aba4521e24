/- '==' of struct values by what they read as: the kit's law of keys at any depth. -/
import Derived.Test.YtmcgkknpkocgoaaGreatDoorAddr
import Derived.Test.YtmcgkknpkocgoaaGreatDoorBlk
import Derived.Test.YtmcgkknpkocgoaaGreatDoorSeq
import Derived.DeepKeys
import Derived.KernelRfl
namespace Go.Proofs.YtmcgkknpkocgoaaGreatDoor.Key
open Go.RowKit Go.Proofs.YtmcgkknpkocgoaaGreatDoor.Mem Go.Proofs.YtmcgkknpkocgoaaGreatDoor.Addr
set_option linter.unusedVariables false
set_option linter.unusedSimpArgs false
set_option maxRecDepth 100000
theorem adCells_len (six : Bool) (b : List UInt8) (hb : b.length = 16) : (adCells six b).length = 17 := by simp [adCells, hb]
theorem adCells_one (six : Bool) (b : List UInt8) : ∀ v ∈ adCells six b, v.oneCell' = true := by
  intro v hv
  unfold adCells at hv
  rcases List.mem_cons.1 hv with rfl | h
  · rfl
  · obtain ⟨x, _, rfl⟩ := List.mem_map.1 h; rfl
theorem mapM_some {α β : Type} {f : α → Option β} {g : α → β} : ∀ (l : List α), (∀ i ∈ l, f i = some (g i)) → l.mapM f = some (l.map g)
  | [], _ => rfl
  | a :: l, h => by
    rw [List.mapM_cons, h a (by simp), mapM_some l (fun i hi => h i (by simp [hi]))]
    rfl
def InI64 (n : Int) : Prop := -9223372036854775808 ≤ n ∧ n ≤ 9223372036854775807
theorem wf_i64 {n : Int} (h : InI64 n) : (Lit.int .i64 n).wf = true := by
  obtain ⟨h1, h2⟩ := h
  have e1 : IntKind.i64.min = -9223372036854775808 := rfl
  have e2 : IntKind.i64.max = 9223372036854775807 := rfl
  simp only [Lit.wf, e1, e2, Bool.and_eq_true, decide_eq_true_eq]
  exact ⟨h1, h2⟩
theorem wf_u8 (x : UInt8) : (Lit.int .u8 (x.toNat : Int)).wf = true := by
  have := x.toNat_lt
  have e1 : IntKind.u8.min = 0 := rfl
  have e2 : IntKind.u8.max = 255 := rfl
  simp only [Lit.wf, e1, e2, Bool.and_eq_true, decide_eq_true_eq]
  omega
theorem key_bool (d : Nat) (b : Bool) : Tryz.prog.keyLits (d + 1) 4 [.bool b] = some [.bool b] := by
  unfold Program.keyLits
  rw [Tryz.underlying4]
theorem key_int (d : Nat) (n : Int) (h : InI64 n) : Tryz.prog.keyLits (d + 1) 3 [.int .i64 n] = some [.int .i64 n] := by
  unfold Program.keyLits
  rw [Tryz.underlying3]
  exact if_pos ⟨rfl, wf_i64 h⟩
theorem key_u8 (d : Nat) (x : UInt8) : Tryz.prog.keyLits (d + 1) 5 [.int .u8 (x.toNat : Int)] = some [.int .u8 (x.toNat : Int)] := by
  unfold Program.keyLits
  rw [Tryz.underlying5]
  exact if_pos ⟨rfl, wf_u8 x⟩
def u8L (b : List UInt8) : List Lit := b.map fun x => .int .u8 (x.toNat : Int)
theorem key_b16 (d : Nat) (b : List UInt8) (hb : b.length = 16) : Tryz.prog.keyLits (d + 2) 22 (b.map fun x => .int .u8 (x.toNat : Int)) = some (u8L b) := by
  have hc : Tryz.prog.cellsOf 22 = 16 := by kernel_rfl
  have hc1 : Tryz.prog.cellsOf 5 = 1 := by kernel_rfl
  rw [show d + 2 = (d + 1) + 1 from rfl]
  unfold Program.keyLits
  rw [Tryz.underlying22]
  dsimp only
  rw [if_pos (by rw [List.length_map, hb, hc]), hc1]
  rw [mapM_some (g := fun i => [.int .u8 ((b.getD i 0).toNat : Int)]) (List.range 16) (fun i hi => by
    have hi' : i < 16 := List.mem_range.1 hi
    have e : ((b.map fun x => Value.int .u8 (x.toNat : Int)).drop (i * 1)).take 1 = [.int .u8 ((b.getD i 0).toNat : Int)] := by
      rw [Nat.mul_one, ← List.map_drop, ← List.map_take, List.getD_eq_getElem?_getD, List.getElem?_eq_getElem (by omega), List.take_one, List.head?_drop, List.getElem?_eq_getElem (by omega)]
      rfl
    rw [e]
    exact key_u8 d _)]
  obtain ⟨b0, b1, b2, b3, b4, b5, b6, b7, b8, b9, b10, b11, b12, b13, b14, b15, rfl⟩ := split16 b hb
  rfl
def adL (six : Bool) (b : List UInt8) : List Lit := .bool six :: u8L b
theorem key_addr (d : Nat) (six : Bool) (b : List UInt8) (hb : b.length = 16) : Tryz.prog.keyLits (d + 3) 24 (adCells six b) = some (adL six b) := by
  have hc : Tryz.prog.cellsOf 24 = 17 := by kernel_rfl
  have hc1 : Tryz.prog.cellsOf 4 = 1 := by kernel_rfl
  have hc2 : Tryz.prog.cellsOf 22 = 16 := by kernel_rfl
  rw [show d + 3 = (d + 2) + 1 from rfl]
  unfold Program.keyLits
  rw [Tryz.underlying24]
  dsimp only
  rw [if_pos ⟨by rw [adCells_len _ _ hb, hc], by kernel_rfl⟩]
  have e1 := key_bool (d + 1) six
  have e2 := key_b16 d b hb
  have t1 : (adCells six b).take 1 = [.bool six] := rfl
  have t2 : ((adCells six b).drop 1).take 16 = b.map fun x => .int .u8 (x.toNat : Int) := by
    show (b.map fun x => Value.int .u8 (x.toNat : Int)).take 16 = _
    rw [List.take_of_length_le (by rw [List.length_map]; omega)]
  simp only [List.mapM_cons, List.mapM_nil, hc1, hc2, List.drop_zero, t1, t2, e1, e2, Option.bind_eq_bind, Option.bind_some, Option.pure_def, Option.map_some]
  simp [adL]
def ptL (six : Bool) (b : List UInt8) (n : Int) : List Lit := adL six b ++ [.int .i64 n]
def ptCells (six : Bool) (b : List UInt8) (n : Int) : List Value := adCells six b ++ [.int .i64 n]
theorem ptCells_len (six : Bool) (b : List UInt8) (hb : b.length = 16) (n : Int) : (ptCells six b n).length = 18 := by unfold ptCells; rw [List.length_append, adCells_len _ _ hb]; rfl
theorem key_point (d : Nat) (six : Bool) (b : List UInt8) (hb : b.length = 16) (n : Int) (hn : InI64 n) : Tryz.prog.keyLits (d + 4) 61 (ptCells six b n) = some (ptL six b n) := by
  have hc : Tryz.prog.cellsOf 61 = 18 := by kernel_rfl
  have hc1 : Tryz.prog.cellsOf 24 = 17 := by kernel_rfl
  have hc2 : Tryz.prog.cellsOf 3 = 1 := by kernel_rfl
  rw [show d + 4 = (d + 3) + 1 from rfl]
  unfold Program.keyLits
  rw [Tryz.underlying61]
  dsimp only
  rw [if_pos ⟨by rw [ptCells_len _ _ hb, hc], by kernel_rfl⟩]
  have e1 := key_addr d six b hb
  have e2 := key_int (d + 2) n hn
  have t1 : (ptCells six b n).take 17 = adCells six b := by unfold ptCells; rw [List.take_append_of_le_length (by rw [adCells_len _ _ hb]; decide), List.take_of_length_le (by rw [adCells_len _ _ hb]; decide)]
  have t2 : ((ptCells six b n).drop 17).take 1 = [.int .i64 n] := by
    unfold ptCells
    rw [List.drop_append_of_le_length (by rw [adCells_len _ _ hb]; decide), List.drop_of_length_le (by rw [adCells_len _ _ hb]; decide)]
    rfl
  simp only [List.mapM_cons, List.mapM_nil, hc1, hc2, List.drop_zero, t1, t2, e1, e2, Option.bind_eq_bind, Option.bind_some, Option.pure_def, Option.map_some]
  simp [ptL]
/-- '==' of two values of a type that may be a key. -/
theorem eql_deep {t : TypeId} (hk : Tryz.prog.keyTypeAt 12 t = true) {xs ys : Array Value} {D D' : Nat} {lx ly : List Lit} (q : Bool) (hq : q = true ↔ lx = ly) (fx : (Value.agg xs).formed Tryz.prog t = true) (fy : (Value.agg ys).formed Tryz.prog t = true)
    (hx : Tryz.prog.keyLits D t xs.toList = some lx) (hy : Tryz.prog.keyLits D' t ys.toList = some ly) (w : World) :
    (binOp .eql t (.agg xs) (.agg ys)).run Tryz.prog w = .ok (.bool q) w ∧ (binOp .neq t (.agg xs) (.agg ys)).run Tryz.prog w = .ok (.bool (!q)) w := by
  obtain ⟨r, hr, hi⟩ := run_equalIn_deep (P := Tryz.prog) 9988 12 t hk w D D' (.agg xs) (.agg ys) lx ly fx fy hx hy
  have hr' : (Op.equalIn 10000 t (.agg xs) (.agg ys)).run Tryz.prog w = .ok r w := hr
  have e : r = q := by
    rw [Bool.eq_iff_iff, hi, hq]
  rw [run_eql_struct, run_neq_struct, hr', e]
  exact ⟨rfl, rfl⟩
end Go.Proofs.YtmcgkknpkocgoaaGreatDoor.Key
