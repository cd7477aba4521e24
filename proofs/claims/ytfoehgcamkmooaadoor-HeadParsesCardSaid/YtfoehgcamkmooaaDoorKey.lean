/- '==' of struct values by what they read as: the kit's law of keys at any depth. -/
import Derived.Test.YtfoehgcamkmooaaDoorHeadC
import Derived.Test.YtfoehgcamkmooaaDoorSeq
import Derived.DeepKeys
import Derived.KernelRfl
namespace Go.Proofs.YtfoehgcamkmooaaDoor.Key
open Go.RowKit Go.Proofs.YtfoehgcamkmooaaDoor.Mem Go.Proofs.YtfoehgcamkmooaaDoor.Addr Go.Proofs.YtfoehgcamkmooaaDoor.Head
set_option linter.unusedVariables false
set_option linter.unusedSimpArgs false
set_option maxRecDepth 100000
theorem mapM_some {α β : Type} {f : α → Option β} {g : α → β} : ∀ (l : List α), (∀ i ∈ l, f i = some (g i)) → l.mapM f = some (l.map g)
  | [], _ => rfl
  | a :: l, h => by
    rw [List.mapM_cons, h a (by simp), mapM_some l (fun i hi => h i (by simp [hi]))]
    rfl
def InI64 (n : Int) : Prop := -9223372036854775808 ≤ n ∧ n ≤ 9223372036854775807
theorem wf_i64 {n : Int} (h : InI64 n) : (Lit.int .i64 n).wf = true := by
  obtain ⟨h1, h2⟩ := h
  have e1 : IntKind.i64.min = -9223372036854775808 := rfl
  have e2 : IntKind.i64.max = 9223372036854775807 := rfl
  simp only [Lit.wf, e1, e2, Bool.and_eq_true, decide_eq_true_eq]
  exact ⟨h1, h2⟩
theorem wf_u8 (x : UInt8) : (Lit.int .u8 (x.toNat : Int)).wf = true := by
  have := x.toNat_lt
  have e1 : IntKind.u8.min = 0 := rfl
  have e2 : IntKind.u8.max = 255 := rfl
  simp only [Lit.wf, e1, e2, Bool.and_eq_true, decide_eq_true_eq]
  omega
theorem key_bool (d : Nat) (b : Bool) : Tryd.prog.keyLits (d + 1) 4 [.bool b] = some [.bool b] := by
  unfold Program.keyLits
  rw [Tryd.underlying4]
theorem key_int (d : Nat) (n : Int) (h : InI64 n) : Tryd.prog.keyLits (d + 1) 3 [.int .i64 n] = some [.int .i64 n] := by
  unfold Program.keyLits
  rw [Tryd.underlying3]
  exact if_pos ⟨rfl, wf_i64 h⟩
theorem key_u8 (d : Nat) (x : UInt8) : Tryd.prog.keyLits (d + 1) 5 [.int .u8 (x.toNat : Int)] = some [.int .u8 (x.toNat : Int)] := by
  unfold Program.keyLits
  rw [Tryd.underlying5]
  exact if_pos ⟨rfl, wf_u8 x⟩
def u8L (b : List UInt8) : List Lit := b.map fun x => .int .u8 (x.toNat : Int)
theorem key_b16 (d : Nat) (b : List UInt8) (hb : b.length = 16) : Tryd.prog.keyLits (d + 2) 25 (b.map fun x => .int .u8 (x.toNat : Int)) = some (u8L b) := by
  have hc : Tryd.prog.cellsOf 25 = 16 := by kernel_rfl
  have hc1 : Tryd.prog.cellsOf 5 = 1 := by kernel_rfl
  rw [show d + 2 = (d + 1) + 1 from rfl]
  unfold Program.keyLits
  rw [Tryd.underlying25]
  dsimp only
  rw [if_pos (by rw [List.length_map, hb, hc]), hc1]
  rw [mapM_some (g := fun i => [.int .u8 ((b.getD i 0).toNat : Int)]) (List.range 16) (fun i hi => by
    have hi' : i < 16 := List.mem_range.1 hi
    have e : ((b.map fun x => Value.int .u8 (x.toNat : Int)).drop (i * 1)).take 1 = [.int .u8 ((b.getD i 0).toNat : Int)] := by
      rw [Nat.mul_one, ← List.map_drop, ← List.map_take, List.getD_eq_getElem?_getD, List.getElem?_eq_getElem (by omega), List.take_one, List.head?_drop, List.getElem?_eq_getElem (by omega)]
      rfl
    rw [e]
    exact key_u8 d _)]
  obtain ⟨b0, b1, b2, b3, b4, b5, b6, b7, b8, b9, b10, b11, b12, b13, b14, b15, rfl⟩ := split16 b hb
  rfl
def adL (six : Bool) (b : List UInt8) : List Lit := .bool six :: u8L b
theorem key_addr (d : Nat) (six : Bool) (b : List UInt8) (hb : b.length = 16) : Tryd.prog.keyLits (d + 3) 27 (adCells six b) = some (adL six b) := by
  have hc : Tryd.prog.cellsOf 27 = 17 := by kernel_rfl
  have hc1 : Tryd.prog.cellsOf 4 = 1 := by kernel_rfl
  have hc2 : Tryd.prog.cellsOf 25 = 16 := by kernel_rfl
  rw [show d + 3 = (d + 2) + 1 from rfl]
  unfold Program.keyLits
  rw [Tryd.underlying27]
  dsimp only
  rw [if_pos ⟨by rw [adCells_len _ _ hb, hc], by kernel_rfl⟩]
  have e1 := key_bool (d + 1) six
  have e2 := key_b16 d b hb
  have t1 : (adCells six b).take 1 = [.bool six] := rfl
  have t2 : ((adCells six b).drop 1).take 16 = b.map fun x => .int .u8 (x.toNat : Int) := by
    show (b.map fun x => Value.int .u8 (x.toNat : Int)).take 16 = _
    rw [List.take_of_length_le (by rw [List.length_map]; omega)]
  simp only [List.mapM_cons, List.mapM_nil, hc1, hc2, List.drop_zero, t1, t2, e1, e2, Option.bind_eq_bind, Option.bind_some, Option.pure_def, Option.map_some]
  simp [adL]
def ptL (six : Bool) (b : List UInt8) (n : Int) : List Lit := adL six b ++ [.int .i64 n]
def ptCells (six : Bool) (b : List UInt8) (n : Int) : List Value := adCells six b ++ [.int .i64 n]
theorem ptCells_len (six : Bool) (b : List UInt8) (hb : b.length = 16) (n : Int) : (ptCells six b n).length = 18 := by unfold ptCells; rw [List.length_append, adCells_len _ _ hb]; rfl
theorem key_point (d : Nat) (six : Bool) (b : List UInt8) (hb : b.length = 16) (n : Int) (hn : InI64 n) : Tryd.prog.keyLits (d + 4) 29 (ptCells six b n) = some (ptL six b n) := by
  have hc : Tryd.prog.cellsOf 29 = 18 := by kernel_rfl
  have hc1 : Tryd.prog.cellsOf 27 = 17 := by kernel_rfl
  have hc2 : Tryd.prog.cellsOf 3 = 1 := by kernel_rfl
  rw [show d + 4 = (d + 3) + 1 from rfl]
  unfold Program.keyLits
  rw [Tryd.underlying29]
  dsimp only
  rw [if_pos ⟨by rw [ptCells_len _ _ hb, hc], by kernel_rfl⟩]
  have e1 := key_addr d six b hb
  have e2 := key_int (d + 2) n hn
  have t1 : (ptCells six b n).take 17 = adCells six b := by unfold ptCells; rw [List.take_append_of_le_length (by rw [adCells_len _ _ hb]; decide), List.take_of_length_le (by rw [adCells_len _ _ hb]; decide)]
  have t2 : ((ptCells six b n).drop 17).take 1 = [.int .i64 n] := by
    unfold ptCells
    rw [List.drop_append_of_le_length (by rw [adCells_len _ _ hb]; decide), List.drop_of_length_le (by rw [adCells_len _ _ hb]; decide)]
    rfl
  simp only [List.mapM_cons, List.mapM_nil, hc1, hc2, List.drop_zero, t1, t2, e1, e2, Option.bind_eq_bind, Option.bind_some, Option.pure_def, Option.map_some]
  simp [ptL]
/-- '==' of two values of a type that may be a key. -/
theorem eql_deep {t : TypeId} (hk : Tryd.prog.keyTypeAt 12 t = true) {xs ys : Array Value} {D D' : Nat} {lx ly : List Lit} (q : Bool) (hq : q = true ↔ lx = ly) (fx : (Value.agg xs).formed Tryd.prog t = true) (fy : (Value.agg ys).formed Tryd.prog t = true)
    (hx : Tryd.prog.keyLits D t xs.toList = some lx) (hy : Tryd.prog.keyLits D' t ys.toList = some ly) (w : World) :
    (binOp .eql t (.agg xs) (.agg ys)).run Tryd.prog w = .ok (.bool q) w ∧ (binOp .neq t (.agg xs) (.agg ys)).run Tryd.prog w = .ok (.bool (!q)) w := by
  obtain ⟨r, hr, hi⟩ := run_equalIn_deep (P := Tryd.prog) 9988 12 t hk w D D' (.agg xs) (.agg ys) lx ly fx fy hx hy
  have hr' : (Op.equalIn 10000 t (.agg xs) (.agg ys)).run Tryd.prog w = .ok r w := hr
  have e : r = q := by
    rw [Bool.eq_iff_iff, hi, hq]
  rw [run_eql_struct, run_neq_struct, hr', e]
  exact ⟨rfl, rfl⟩
def Hd.wf (h : Hd) : Prop := InI64 h.pr ∧ InI64 h.sp ∧ InI64 h.dp ∧ InI64 h.fl ∧ InI64 h.pt ∧ InI64 h.bd
def hdL (h : Hd) : List Lit := .int .i64 h.pr :: (ptL h.s6 h.sb h.sp ++ (ptL h.d6 h.db h.dp ++ [.int .i64 h.fl, .int .i64 h.pt, .int .i64 h.bd]))
theorem Hd.cells_pt (h : Hd) : h.cells = .int .i64 h.pr :: (ptCells h.s6 h.sb h.sp ++ (ptCells h.d6 h.db h.dp ++ [.int .i64 h.fl, .int .i64 h.pt, .int .i64 h.bd])) := by
  simp [Hd.cells, ptCells]
theorem key_head (d : Nat) (h : Hd) (hw : Hd.wf h) : Tryd.prog.keyLits (d + 5) 36 h.cells = some (hdL h) := by
  have hc : Tryd.prog.cellsOf 36 = 40 := by kernel_rfl
  have hc1 : Tryd.prog.cellsOf 29 = 18 := by kernel_rfl
  have hc2 : Tryd.prog.cellsOf 3 = 1 := by kernel_rfl
  obtain ⟨w1, w2, w3, w4, w5, w6⟩ := hw
  rw [show d + 5 = (d + 4) + 1 from rfl]
  unfold Program.keyLits
  rw [Tryd.underlying36]
  dsimp only
  rw [if_pos ⟨by rw [Hd.len, hc], by kernel_rfl⟩]
  have e0 := key_int (d + 3) _ w1
  have e1 := key_point d h.s6 h.sb h.hs h.sp w2
  have e2 := key_point d h.d6 h.db h.hd h.dp w3
  have e3 := key_int (d + 3) _ w4
  have e4 := key_int (d + 3) _ w5
  have e5 := key_int (d + 3) _ w6
  have t0 : h.cells.take 1 = [.int .i64 h.pr] := rfl
  have t1 : (h.cells.drop 1).take 18 = ptCells h.s6 h.sb h.sp := by
    rw [Hd.cells_pt, List.drop_succ_cons, List.drop_zero, List.take_append_of_le_length (by rw [ptCells_len _ _ h.hs]; decide), List.take_of_length_le (by rw [ptCells_len _ _ h.hs]; decide)]
  have t2 : (h.cells.drop 19).take 18 = ptCells h.d6 h.db h.dp := by
    rw [Hd.cells_pt, List.drop_succ_cons, List.drop_append, List.drop_of_length_le (by rw [ptCells_len _ _ h.hs]; decide), ptCells_len _ _ h.hs, List.nil_append, List.drop_zero, List.take_append_of_le_length (by rw [ptCells_len _ _ h.hd]; decide), List.take_of_length_le (by rw [ptCells_len _ _ h.hd]; decide)]
  have hat : ∀ k v, h.cells[k]? = some v → (h.cells.drop k).take 1 = [v] := fun k v hv => by
    rw [List.take_one, List.head?_drop, hv]; rfl
  have a37 := hat 37 _ h.at.2.2.2.2.2.1
  have a38 := hat 38 _ h.at.2.2.2.2.2.2.1
  have a39 := hat 39 _ h.at.2.2.2.2.2.2.2
  simp only [List.mapM_cons, List.mapM_nil, hc1, hc2, List.drop_zero, t0, t1, t2, a37, a38, a39, e0, e1, e2, e3, e4, e5, Option.bind_eq_bind, Option.bind_some, Option.pure_def, Option.map_some]
  simp [hdL]
theorem head_same (h : Hd) (hw : Hd.wf h) (w : World) : (binOp .eql 36 (.agg h.cells.toArray) (.agg h.cells.toArray)).run Tryd.prog w = .ok (.bool true) w := by
  have hf : (Value.agg h.cells.toArray).formed Tryd.prog 36 = true := by
    have hc : Tryd.prog.cellsOf 36 = 40 := by kernel_rfl
    unfold Value.formed
    rw [Tryd.underlying36]
    simp only [hc]
    rw [List.size_toArray, Hd.len]
    rfl
  exact (eql_deep (by kernel_rfl) true (by simp) hf hf (key_head 0 h hw) (key_head 0 h hw) w).1
end Go.Proofs.YtfoehgcamkmooaaDoor.Key
