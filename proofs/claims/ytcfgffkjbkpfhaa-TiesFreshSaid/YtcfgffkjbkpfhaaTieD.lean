/- Ties as values; ties.Fresh and the document's. -/
import Derived.Test.YtcfgffkjbkpfhaaTieC
namespace Go.Proofs.Ytcfgffkjbkpfhaa.Tie
open Go.RowKit Go.Proofs.Ytcfgffkjbkpfhaa.Mem Go.Proofs.Ytcfgffkjbkpfhaa.Num Go.Proofs.Ytcfgffkjbkpfhaa.Key
open Go.Proofs.Ytcfgffkjbkpfhaa.Addr hiding below_allocd
set_option linter.unusedVariables false
set_option linter.unusedSimpArgs false
set_option maxRecDepth 100000
attribute [-go_sem] Builtin.append_ loadCells loadCellsFrom storeCells run_eql_struct
structure Ti where
  s : Bool
  b : List UInt8
  sp : ByteArray
  sn : ByteArray
  nm : ByteArray
  lc : Bool
  s2 : Bool
  b2 : List UInt8
  pt : Int
  last : Int
  hb : b.length = 16
  hb2 : b2.length = 16
  hp : InI64 pt
  hl : InI64 last
def Ti.cells (t : Ti) : List Value := adCells t.s t.b ++ ([.string t.sp, .string t.sn, .string t.nm, .bool t.lc] ++ (ptCells t.s2 t.b2 t.pt ++ [.int .i64 t.last]))
def Ti.A (t : Ti) : Array Value := t.cells.toArray
abbrev Ti.V (t : Ti) : Value := .agg t.A
theorem Ti.len (t : Ti) : t.cells.length = 40 := by
  unfold Ti.cells
  simp only [List.length_append, adCells_len _ _ t.hb, ptCells_len _ _ t.hb2, List.length_cons, List.length_nil]
theorem Ti.sz (t : Ti) : t.A.size = 40 := t.len
theorem Ti.one (t : Ti) : ∀ u ∈ t.cells, u.oneCell' = true := by
  intro u hu
  unfold Ti.cells ptCells at hu
  simp only [List.mem_append, List.mem_cons, List.not_mem_nil, or_false] at hu
  rcases hu with hu | (rfl | rfl | rfl | rfl) | ((hu | rfl) | rfl) <;> first | rfl | exact adCells_one _ _ _ hu
theorem Ti.at (t : Ti) : t.cells[17]? = some (.string t.sp) ∧ t.cells[18]? = some (.string t.sn) ∧ t.cells[19]? = some (.string t.nm) ∧ t.cells[20]? = some (.bool t.lc) ∧ t.cells[39]? = some (.int .i64 t.last) := by
  have h := adCells_len t.s t.b t.hb
  have h2 := ptCells_len t.s2 t.b2 t.hb2 t.pt
  unfold Ti.cells
  refine ⟨?_, ?_, ?_, ?_, ?_⟩
  iterate 4 (rw [List.getElem?_append_right (by omega), h]; rfl)
  rw [List.getElem?_append_right (by omega), h, List.getElem?_append_right (by simp), List.getElem?_append_right (by rw [h2]; simp), h2]
  rfl
theorem Ti.parts (t : Ti) : (t.cells.drop 0).take 17 = adCells t.s t.b ∧ (t.cells.drop 17).take 2 = [.string t.sp, .string t.sn] ∧ (t.cells.drop 21).take 18 = ptCells t.s2 t.b2 t.pt ∧ (t.cells.drop 0).take 40 = t.cells := by
  have h := adCells_len t.s t.b t.hb
  have h2 := ptCells_len t.s2 t.b2 t.hb2 t.pt
  have hl := t.len
  refine ⟨?_, ?_, ?_, ?_⟩
  · unfold Ti.cells
    rw [List.drop_zero, List.take_append_of_le_length (by omega), List.take_of_length_le (by omega)]
  · unfold Ti.cells
    rw [List.drop_append, List.drop_of_length_le (by omega), h]
    rfl
  · unfold Ti.cells
    rw [List.drop_append, List.drop_of_length_le (by omega), h, List.nil_append, List.drop_append, List.drop_of_length_le (by simp), List.nil_append]
    show (List.take 18 (List.drop 0 _)) = _
    rw [List.drop_zero, List.take_append_of_le_length (by omega), List.take_of_length_le (by omega)]
  · rw [List.drop_zero, List.take_of_length_le (by omega)]
/-- What is read of a box of a tie. -/
theorem Ti.box {b : Nat} {t : Ti} {ty : TypeId} {W : World} (h : Blk b t.cells ty W) :
    W.cell? ⟨b, 19, none⟩ = some (.string t.nm) ∧ W.cell? ⟨b, 20, none⟩ = some (.bool t.lc) ∧ W.cell? ⟨b, 39, none⟩ = some (.int .i64 t.last) ∧
    (loadCells ⟨b, 0, none⟩ 17).run Try.prog W = .ok (adA t.s t.b) W ∧ (loadCells ⟨b, 17, none⟩ 2).run Try.prog W = .ok #[.string t.sp, .string t.sn] W ∧
    (loadCells ⟨b, 21, none⟩ 18).run Try.prog W = .ok (ptCells t.s2 t.b2 t.pt).toArray W ∧ (loadCells ⟨b, 0, none⟩ 40).run Try.prog W = .ok t.A W :=
  ⟨h.cell 19 _ t.at.2.2.1, h.cell 20 _ t.at.2.2.2.1, h.cell 39 _ t.at.2.2.2.2, h.load 0 17 _ t.parts.1 (adCells_len _ _ t.hb), h.load 17 2 _ t.parts.2.1 rfl, h.load 21 18 _ t.parts.2.2.1 (ptCells_len _ _ t.hb2 _), h.load 0 40 _ t.parts.2.2.2 t.len⟩
def freshB (last ticks now : Int) : Bool := decide (0 < ticks) && decide ((if now < last then last else now) - last < ticks)
theorem wrap_sub (a b : Int) (ha : InI64 a) (hb : InI64 b) (h : b ≤ a) : IntKind.u64.wrap (IntKind.u64.wrap a - IntKind.u64.wrap b) = a - b := by
  obtain ⟨h1, h2⟩ := ha
  obtain ⟨h3, h4⟩ := hb
  rw [IntKind.wrap_u64, IntKind.wrap_u64, IntKind.wrap_u64]
  omega
theorem wrap_pos (a : Int) (ha : InI64 a) (h : 0 < a) : IntKind.u64.wrap a = a := by
  obtain ⟨h1, h2⟩ := ha
  rw [IntKind.wrap_u64]
  omega
theorem fresh_calls (t : Ti) (ticks now : Int) (hk : InI64 ticks) (hn : InI64 now) (w : World) :
    Calls Try.prog 20 #[t.V, .int .i64 ticks, .int .i64 now] w fun e w' => e = .returned (.bool (freshB t.last ticks now)) ∧ Below w.heap.size w w' := by
  have hbx := (Ti.box (Blk.new w t.cells t.A 49 _ rfl rfl)).2.2.1
  have hl := t.hl
  have hsz := t.sz
  show Calls Try.prog 20 #[.agg t.A, .int .i64 ticks, .int .i64 now] w fun e w' => e = .returned (.bool (freshB t.last ticks now)) ∧ Below w.heap.size w w'
  generalize t.A = xa at hbx hsz ⊢
  generalize t.last = last at hbx hl ⊢
  unfold freshB
  by_cases h0 : 0 < ticks
  · rw [decide_eq_true h0, Bool.true_and]
    have hw := wrap_pos ticks hk h0
    by_cases h1 : now < last
    · rw [if_pos h1]
      have hs := wrap_sub last last hl hl (Int.le_refl _)
      have hd : last - last < ticks := by omega
      rw [decide_eq_true hd]
      have hd2 : IntKind.u64.wrap (IntKind.u64.wrap last - IntKind.u64.wrap last) < IntKind.u64.wrap ticks := by rw [hs, hw]; exact hd
      have hd3 : (0 : Int) < IntKind.u64.wrap ticks := by rw [hw]; exact h0
      clear hs hw hd
      go_enter Try.func20, Try.ntmps20
      go_wp2
      go_ret
      exact ⟨by simp, (Below.refl _ _).alloc (Nat.le_refl _) _⟩
    · rw [if_neg h1]
      have hs := wrap_sub now last hn hl (by omega)
      by_cases hd : now - last < ticks
      · rw [decide_eq_true hd]
        have hd2 : IntKind.u64.wrap (IntKind.u64.wrap now - IntKind.u64.wrap last) < IntKind.u64.wrap ticks := by rw [hs, hw]; exact hd
        clear hs hw hd
        go_enter Try.func20, Try.ntmps20
        go_wp2
        go_ret
        exact ⟨by simp [hd2], (Below.refl _ _).alloc (Nat.le_refl _) _⟩
      · rw [decide_eq_false hd]
        have hd2 : ¬ IntKind.u64.wrap (IntKind.u64.wrap now - IntKind.u64.wrap last) < IntKind.u64.wrap ticks := by rw [hs, hw]; exact hd
        clear hs hw hd
        go_enter Try.func20, Try.ntmps20
        go_wp2
        go_ret
        exact ⟨by simp [hd2], (Below.refl _ _).alloc (Nat.le_refl _) _⟩
  · rw [decide_eq_false h0, Bool.false_and]
    by_cases h1 : now < last
    all_goals
      go_enter Try.func20, Try.ntmps20
      go_wp2
      go_ret
      exact ⟨by simp, (Below.refl _ _).alloc (Nat.le_refl _) _⟩
theorem rfresh_calls (t : Ti) (ticks now : Int) (hk : InI64 ticks) (hn : InI64 now) (w : World) :
    Calls Try.prog 21 #[t.V, .int .i64 ticks, .int .i64 now] w fun e w' => e = .returned (.bool (freshB t.last ticks now)) ∧ Below w.heap.size w w' := by
  have hbx := (Ti.box (Blk.new w t.cells t.A 55 _ rfl rfl)).2.2.1
  have hl := t.hl
  have hsz := t.sz
  show Calls Try.prog 21 #[.agg t.A, .int .i64 ticks, .int .i64 now] w fun e w' => e = .returned (.bool (freshB t.last ticks now)) ∧ Below w.heap.size w w'
  generalize t.A = xa at hbx hsz ⊢
  generalize t.last = last at hbx hl ⊢
  obtain ⟨k1, k2⟩ := hk
  obtain ⟨n1, n2⟩ := hn
  obtain ⟨l1, l2⟩ := hl
  unfold freshB
  by_cases h0 : ticks ≤ 0
  · rw [decide_eq_false (show ¬ 0 < ticks by omega), Bool.false_and]
    go_enter Try.func21, Try.ntmps21
    go_wp2
    go_ret
    exact ⟨rfl, (Below.refl _ _).alloc (Nat.le_refl _) _⟩
  · rw [decide_eq_true (show 0 < ticks by omega), Bool.true_and]
    by_cases h1 : now ≤ last
    · have e : decide ((if now < last then last else now) - last < ticks) = true := decide_eq_true (by split <;> omega)
      rw [e]
      clear e
      go_enter Try.func21, Try.ntmps21
      go_wp2
      go_ret
      exact ⟨rfl, (Below.refl _ _).alloc (Nat.le_refl _) _⟩
    · rw [if_neg (show ¬ now < last by omega)]
      have hw1 : IntKind.i64.wrap (9223372036854775807 - last) = 9223372036854775807 - last ∨ ¬ 0 < last := by
        by_cases h : 0 < last
        · left; rw [IntKind.wrap_i64]; omega
        · exact .inr h
      by_cases h2 : 0 < last
      · have hw1 : IntKind.i64.wrap (9223372036854775807 - last) = 9223372036854775807 - last := by rw [IntKind.wrap_i64]; omega
        by_cases h3 : 9223372036854775807 - last < ticks
        · rw [decide_eq_true (show now - last < ticks by omega)]
          go_enter Try.func21, Try.ntmps21
          go_wp2
          go_ret
          exact ⟨rfl, (Below.refl _ _).alloc (Nat.le_refl _) _⟩
        · have hw2 : IntKind.i64.wrap (last + ticks) = last + ticks := by rw [IntKind.wrap_i64]; omega
          by_cases h4 : now < last + ticks
          · rw [decide_eq_true (show now - last < ticks by omega)]
            go_enter Try.func21, Try.ntmps21
            go_wp2
            go_ret
            exact ⟨by simp [h4], (Below.refl _ _).alloc (Nat.le_refl _) _⟩
          · rw [decide_eq_false (show ¬ now - last < ticks by omega)]
            go_enter Try.func21, Try.ntmps21
            go_wp2
            go_ret
            exact ⟨by simp, (Below.refl _ _).alloc (Nat.le_refl _) _⟩
      · have hw2 : IntKind.i64.wrap (last + ticks) = last + ticks := by rw [IntKind.wrap_i64]; omega
        by_cases h4 : now < last + ticks
        · rw [decide_eq_true (show now - last < ticks by omega)]
          clear hw1
          go_enter Try.func21, Try.ntmps21
          go_wp2
          go_ret
          exact ⟨by simp [h4], (Below.refl _ _).alloc (Nat.le_refl _) _⟩
        · rw [decide_eq_false (show ¬ now - last < ticks by omega)]
          clear hw1
          go_enter Try.func21, Try.ntmps21
          go_wp2
          go_ret
          exact ⟨by simp, (Below.refl _ _).alloc (Nat.le_refl _) _⟩
end Go.Proofs.Ytcfgffkjbkpfhaa.Tie
