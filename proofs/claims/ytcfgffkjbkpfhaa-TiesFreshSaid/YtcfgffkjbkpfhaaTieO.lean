/- What arguments of types Tie and [2]int are; the contract of TiesFresh, for its row. -/
import Derived.Test.YtcfgffkjbkpfhaaTieK
import Derived.Test.YtcfgffkjbkpfhaaEndsO
namespace Go.Proofs.Ytcfgffkjbkpfhaa.Tie
open Go.RowKit Go.WideShapes Go.Proofs.Ytcfgffkjbkpfhaa.Mem Go.Proofs.Ytcfgffkjbkpfhaa.Num Go.Proofs.Ytcfgffkjbkpfhaa.Key Go.Proofs.Ytcfgffkjbkpfhaa.Open
open Go.Proofs.Ytcfgffkjbkpfhaa.Addr hiding below_allocd
set_option linter.unusedVariables false
set_option maxRecDepth 100000
section
variable {H : Type} {enc : TypeId × Value → H} {W : World}
theorem in_of_wf {n : Int} (h : (Lit.int .i64 n).wf = true) : InI64 n := by
  have e1 : IntKind.i64.min = -9223372036854775808 := rfl
  have e2 : IntKind.i64.max = 9223372036854775807 := rfl
  simp only [Lit.wf, e1, e2, Bool.and_eq_true, decide_eq_true_eq] at h
  exact h
theorem open_pt (cs : List Value) (h : Rd enc Try.prog W 41 cs) : ∃ six b n, b.length = 16 ∧ InI64 n ∧ cs = ptCells six b n := by
  have hs := h.struct Try.underlying41
  have hc : Try.prog.cellsOf 41 = 18 := by kernel_rfl
  have hca : Try.prog.cellsOf 39 = 17 := by kernel_rfl
  have hci : Try.prog.cellsOf 3 = 1 := by kernel_rfl
  have h0 : Rd enc Try.prog W 39 ((cs.drop 0).take (Try.prog.cellsOf 39)) := hs.2 0 _ rfl
  have h1 : Rd enc Try.prog W 3 ((cs.drop 17).take (Try.prog.cellsOf 3)) := hs.2 1 _ rfl
  have hl := hs.1
  rw [hca] at h0
  rw [hci] at h1
  rw [hc] at hl
  obtain ⟨six, b, hb, h6⟩ := open_addr _ h0
  obtain ⟨n, hn, hw⟩ := h1.int Try.underlying3
  refine ⟨six, b, n, hb, in_of_wf hw, ?_⟩
  unfold ptCells
  rw [← h6, ← hn, List.drop_zero, List.take_of_length_le (l := cs.drop 17) (by rw [List.length_drop]; omega), List.take_append_drop]
theorem list1 {l : List Value} {v : Value} {k : Nat} (h : (l.drop k).take 1 = [v]) : l.drop k = v :: l.drop (k + 1) := by
  have h1 : (l.drop k).length ≠ 0 := fun e => by
    have := List.eq_nil_of_length_eq_zero e
    rw [this] at h; cases h
  rw [List.length_drop] at h1
  have e := List.drop_eq_getElem_cons (l := l) (i := k) (by omega)
  rw [e] at h
  rw [e]
  injection h with h _
  rw [h]
theorem open_key (cs : List Value) (h : Rd enc Try.prog W 47 cs) : ∃ a b : ByteArray, a.size ≤ maxLen ∧ b.size ≤ maxLen ∧ cs = [.string a, .string b] := by
  have hs := h.struct Try.underlying47
  have hc : Try.prog.cellsOf 47 = 2 := by kernel_rfl
  have hcs : Try.prog.cellsOf 9 = 1 := by kernel_rfl
  have h0 : Rd enc Try.prog W 9 ((cs.drop 0).take (Try.prog.cellsOf 9)) := hs.2 0 _ rfl
  have h1 : Rd enc Try.prog W 9 ((cs.drop 1).take (Try.prog.cellsOf 9)) := hs.2 1 _ rfl
  have hl := hs.1
  rw [hcs] at h0 h1
  rw [hc] at hl
  obtain ⟨a, e0, z0⟩ := h0.string Try.underlying9
  obtain ⟨b, e1, z1⟩ := h1.string Try.underlying9
  refine ⟨a, b, z0, z1, ?_⟩
  rw [← List.drop_zero (l := cs), list1 e0, list1 e1, List.drop_of_length_le (by omega)]
def IsTie (v : Value) : Prop := ∃ t : Ti, v = t.V ∧ t.nm.size ≤ maxLen ∧ t.sp.size ≤ maxLen ∧ t.sn.size ≤ maxLen
theorem isTie {base : Nat} {sp : Nat → Bool} {held : Bool} {v : Value} {d : DataW H} {ps : List MemPlace} (hv : Value.okWide Try.prog W .any base 49 v) (h : DataW.Trod enc Try.prog W 0 sp held 49 v d ps) : IsTie v := by
  obtain ⟨⟨cs⟩, rfl, _⟩ := okWide_struct Try.underlying49 hv
  have h := Rd.of h
  have hs := h.struct Try.underlying49
  have hc : Try.prog.cellsOf 49 = 40 := by kernel_rfl
  have hca : Try.prog.cellsOf 39 = 17 := by kernel_rfl
  have hck : Try.prog.cellsOf 47 = 2 := by kernel_rfl
  have hcs : Try.prog.cellsOf 9 = 1 := by kernel_rfl
  have hcb : Try.prog.cellsOf 4 = 1 := by kernel_rfl
  have hcp : Try.prog.cellsOf 41 = 18 := by kernel_rfl
  have hci : Try.prog.cellsOf 3 = 1 := by kernel_rfl
  have h0 : Rd enc Try.prog W 39 ((cs.drop 0).take (Try.prog.cellsOf 39)) := hs.2 0 _ rfl
  have h1 : Rd enc Try.prog W 47 ((cs.drop 17).take (Try.prog.cellsOf 47)) := hs.2 1 _ rfl
  have h2 : Rd enc Try.prog W 9 ((cs.drop 19).take (Try.prog.cellsOf 9)) := hs.2 2 _ rfl
  have h3 : Rd enc Try.prog W 4 ((cs.drop 20).take (Try.prog.cellsOf 4)) := hs.2 3 _ rfl
  have h4 : Rd enc Try.prog W 41 ((cs.drop 21).take (Try.prog.cellsOf 41)) := hs.2 4 _ rfl
  have h5 : Rd enc Try.prog W 3 ((cs.drop 39).take (Try.prog.cellsOf 3)) := hs.2 5 _ rfl
  have hl : cs.length = Try.prog.cellsOf 49 := hs.1
  rw [hc] at hl
  rw [hca] at h0
  rw [hck] at h1
  rw [hcs] at h2
  rw [hcb] at h3
  rw [hcp] at h4
  rw [hci] at h5
  obtain ⟨s, b, hb, e0⟩ := open_addr _ h0
  obtain ⟨ksp, ksn, z1, z2, e1⟩ := open_key _ h1
  obtain ⟨nm, e2, z3⟩ := h2.string Try.underlying9
  obtain ⟨lc, e3⟩ := h3.bool Try.underlying4
  obtain ⟨s2, b2, pt, hb2, hp, e4⟩ := open_pt _ h4
  obtain ⟨n, e5, hw⟩ := h5.int Try.underlying3
  refine ⟨⟨s, b, ksp, ksn, nm, lc, s2, b2, pt, n, hb, hb2, hp, in_of_wf hw⟩, ?_, z3, z1, z2⟩
  have d39 : cs.drop 39 = [.int .i64 n] := by rw [list1 e5, List.drop_of_length_le (by omega)]
  have d21 : cs.drop 21 = ptCells s2 b2 pt ++ [.int .i64 n] := by
    rw [← List.take_append_drop 18 (cs.drop 21), e4, List.drop_drop, d39]
  have d19 : cs.drop 19 = .string nm :: .bool lc :: (ptCells s2 b2 pt ++ [.int .i64 n]) := by rw [list1 e2, list1 e3, d21]
  have d17 : cs.drop 17 = [.string ksp, .string ksn] ++ .string nm :: .bool lc :: (ptCells s2 b2 pt ++ [.int .i64 n]) := by
    rw [← List.take_append_drop 2 (cs.drop 17), e1, List.drop_drop, d19]
  have d0 : cs = adCells s b ++ ([.string ksp, .string ksn] ++ .string nm :: .bool lc :: (ptCells s2 b2 pt ++ [.int .i64 n])) := by
    rw [List.drop_zero] at e0
    conv => lhs; rw [← List.take_append_drop 17 cs, e0, d17]
  rw [d0]
  rfl
theorem okWide_array {P : Program} {w : World} {r : Reach} {base n : Nat} {t e : TypeId} {v : Value} (ht : P.underlying t = some (.array n e)) (h : Value.okWide P w r base t v) : ∃ cs, v = .agg cs ∧ cs.size = P.cellsOf t := by
  unfold Value.okWide at h
  rw [ht] at h
  obtain ⟨cs, h1, h2, _⟩ := h
  exact ⟨cs, h1, h2⟩
def IsTwo (v : Value) : Prop := ∃ a b : Int, InI64 a ∧ InI64 b ∧ v = .agg #[.int .i64 a, .int .i64 b]
theorem isTwo {base : Nat} {sp : Nat → Bool} {held : Bool} {v : Value} {d : DataW H} {ps : List MemPlace} (hv : Value.okWide Try.prog W .any base 50 v) (h : DataW.Trod enc Try.prog W 0 sp held 50 v d ps) : IsTwo v := by
  obtain ⟨⟨cs⟩, rfl, hn⟩ := okWide_array Try.underlying50 hv
  have ha := (Rd.of h).array Try.underlying50
  have hc : Try.prog.cellsOf 50 = 2 := by kernel_rfl
  have hci : Try.prog.cellsOf 3 = 1 := by kernel_rfl
  have hl : cs.length = 2 := by rw [hc] at hn; simpa using hn
  rw [hci] at ha
  have h0 : Rd enc Try.prog W 3 ((cs.drop 0).take 1) := ha.2 0 (by omega)
  have h1 : Rd enc Try.prog W 3 ((cs.drop 1).take 1) := ha.2 1 (by omega)
  obtain ⟨a, e0, w0⟩ := h0.int Try.underlying3
  obtain ⟨b, e1, w1⟩ := h1.int Try.underlying3
  refine ⟨a, b, in_of_wf w0, in_of_wf w1, ?_⟩
  have d0 : cs = [.int .i64 a, .int .i64 b] := by
    rw [← List.drop_zero (l := cs), list1 e0, list1 e1, List.drop_of_length_le (by omega)]
  rw [d0]
end
theorem tfresh_row (W : World) (v : Value) (hv : IsTie v) (u : Value) (hu : IsTie u) (p : Value) (hp : IsTwo p) :
    Calls Try.prog 5 #[v, u, p] W fun e W' => e = .returned (.bool true) ∧ Below W.heap.size W W' := by
  obtain ⟨t, rfl, ht⟩ := hv
  obtain ⟨t2, rfl, ht2⟩ := hu
  obtain ⟨a, b, ha, hb, rfl⟩ := hp
  exact fresh_law t t2 a b ha hb ht ht2 W
end Go.Proofs.Ytcfgffkjbkpfhaa.Tie
