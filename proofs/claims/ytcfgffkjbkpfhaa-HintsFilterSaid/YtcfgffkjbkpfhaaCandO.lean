/- What arguments of type []Candidate and Want are; the contract of PickRight, for its row. -/
import Derived.Test.YtcfgffkjbkpfhaaCand12
import Derived.Test.YtcfgffkjbkpfhaaEndsO
namespace Go.Proofs.Ytcfgffkjbkpfhaa.Cand
open Go.RowKit Go.WideShapes Go.Proofs.Ytcfgffkjbkpfhaa.Mem Go.Proofs.Ytcfgffkjbkpfhaa.Num Go.Proofs.Ytcfgffkjbkpfhaa.Key Go.Proofs.Ytcfgffkjbkpfhaa.Open
open Go.Proofs.Ytcfgffkjbkpfhaa.Addr hiding below_allocd
set_option linter.unusedVariables false
set_option maxRecDepth 100000
section
variable {H : Type} {enc : TypeId × Value → H} {W : World}
theorem in_of_wf {n : Int} (h : (Lit.int .i64 n).wf = true) : InI64 n := by
  have e1 : IntKind.i64.min = -9223372036854775808 := rfl
  have e2 : IntKind.i64.max = 9223372036854775807 := rfl
  simp only [Lit.wf, e1, e2, Bool.and_eq_true, decide_eq_true_eq] at h
  exact h
theorem open_pt (cs : List Value) (h : Rd enc Try.prog W 41 cs) : ∃ six b n, b.length = 16 ∧ InI64 n ∧ cs = ptCells six b n := by
  have hs := h.struct Try.underlying41
  have hc : Try.prog.cellsOf 41 = 18 := by kernel_rfl
  have hca : Try.prog.cellsOf 39 = 17 := by kernel_rfl
  have hci : Try.prog.cellsOf 3 = 1 := by kernel_rfl
  have h0 : Rd enc Try.prog W 39 ((cs.drop 0).take (Try.prog.cellsOf 39)) := hs.2 0 _ rfl
  have h1 : Rd enc Try.prog W 3 ((cs.drop 17).take (Try.prog.cellsOf 3)) := hs.2 1 _ rfl
  have hl := hs.1
  rw [hca] at h0
  rw [hci] at h1
  rw [hc] at hl
  obtain ⟨six, b, hb, h6⟩ := open_addr _ h0
  obtain ⟨n, hn, hw⟩ := h1.int Try.underlying3
  refine ⟨six, b, n, hb, in_of_wf hw, ?_⟩
  unfold ptCells
  rw [← h6, ← hn, List.drop_zero, List.take_of_length_le (l := cs.drop 17) (by rw [List.length_drop]; omega), List.take_append_drop]
def ZonesOk (W : World) (x : Cd) : Prop := ∃ zs, Row eStr W (.slice x.A x.n x.c) zs ∧ ∀ s ∈ zs, s.size ≤ maxLen
theorem row_slice {α : Type} {E : Enc α} {w : World} {v : Value} {xs : List α} (h : Row E w v xs) : ∃ A n c, v = .slice A n c := by
  obtain ⟨A, c, rfl, _⟩ := h
  exact ⟨_, _, _, rfl⟩
theorem list1 {l : List Value} {v : Value} {k : Nat} (h : (l.drop k).take 1 = [v]) : l.drop k = v :: l.drop (k + 1) := by
  have h1 : (l.drop k).length ≠ 0 := fun e => by
    have := List.eq_nil_of_length_eq_zero e
    rw [this] at h; cases h
  rw [List.length_drop] at h1
  have e := List.drop_eq_getElem_cons (l := l) (i := k) (by omega)
  rw [e] at h
  rw [e]
  injection h with h _
  rw [h]
theorem open_cand (cs : List Value) (h : Rd enc Try.prog W 44 cs) : ∃ x : Cd, cs = eCd.cells x ∧ ZonesOk W x := by
  have hs := h.struct Try.underlying44
  have hc : Try.prog.cellsOf 44 = 23 := by kernel_rfl
  have hcp : Try.prog.cellsOf 41 = 18 := by kernel_rfl
  have hcb : Try.prog.cellsOf 4 = 1 := by kernel_rfl
  have hcs : Try.prog.cellsOf 42 = 1 := by kernel_rfl
  have hce : Try.prog.cellsOf 9 = eStr.sz := by kernel_rfl
  have h0 : Rd enc Try.prog W 41 ((cs.drop 0).take (Try.prog.cellsOf 41)) := hs.2 0 _ rfl
  have h1 : Rd enc Try.prog W 4 ((cs.drop 18).take (Try.prog.cellsOf 4)) := hs.2 1 _ rfl
  have h2 : Rd enc Try.prog W 4 ((cs.drop 19).take (Try.prog.cellsOf 4)) := hs.2 2 _ rfl
  have h3 : Rd enc Try.prog W 4 ((cs.drop 20).take (Try.prog.cellsOf 4)) := hs.2 3 _ rfl
  have h4 : Rd enc Try.prog W 4 ((cs.drop 21).take (Try.prog.cellsOf 4)) := hs.2 4 _ rfl
  have h5 : Rd enc Try.prog W 42 ((cs.drop 22).take (Try.prog.cellsOf 42)) := hs.2 5 _ rfl
  have hl := hs.1
  rw [hc] at hl
  rw [hcp] at h0
  rw [hcb] at h1 h2 h3 h4
  rw [hcs] at h5
  obtain ⟨six, b, n, hb, hp, e0⟩ := open_pt _ h0
  obtain ⟨b1, e1⟩ := h1.bool Try.underlying4
  obtain ⟨b2, e2⟩ := h2.bool Try.underlying4
  obtain ⟨b3, e3⟩ := h3.bool Try.underlying4
  obtain ⟨b4, e4⟩ := h4.bool Try.underlying4
  obtain ⟨v, zs, e5, hr, hz⟩ := Rd.row (E := eStr) (Q := fun s => s.size ≤ maxLen) Try.underlying42 hce (fun ds hd => by
    obtain ⟨s, rfl, hs⟩ := hd.string Try.underlying9
    exact ⟨s, rfl, hs⟩) h5
  obtain ⟨A, k, c, rfl⟩ := row_slice hr
  refine ⟨⟨six, b, n, b1, b2, b3, b4, A, k, c, hb, hp⟩, ?_, zs, hr, ?_⟩
  · have d18 : cs.drop 18 = [.bool b1, .bool b2, .bool b3, .bool b4, .slice A k c] := by
      rw [list1 e1, list1 e2, list1 e3, list1 e4, list1 e5, List.drop_of_length_le (by omega)]
    rw [List.drop_zero] at e0
    show cs = ptCells six b n ++ [.bool b1, .bool b2, .bool b3, .bool b4, .slice A k c]
    rw [← e0, ← d18, List.take_append_drop]
  · intro s hs
    obtain ⟨i, hi, rfl⟩ := List.getElem_of_mem hs
    exact hz i hi
/-- v is a row of candidates, whose zones are texts. -/
def IsCands (W : World) (v : Value) : Prop := ∃ (xs : List Cd) (z : Cd → List ByteArray), Cands W v xs z ∧ ∀ x ∈ xs, ∀ s ∈ z x, s.size ≤ maxLen
theorem isCands {base : Nat} {sp : Nat → Bool} {held : Bool} {v : Value} {d : DataW H} {ps : List MemPlace} (hv : Value.okWide Try.prog W .any base 22 v) (h : DataW.Trod enc Try.prog W 0 sp held 22 v d ps) : IsCands W v := by
  obtain ⟨A, n, c, rfl⟩ := okWide_slice Try.underlying22 hv
  have hce : Try.prog.cellsOf 44 = eCd.sz := by kernel_rfl
  obtain ⟨v', xs, e, hr, hq⟩ := Rd.row (E := eCd) (Q := ZonesOk W) Try.underlying22 hce open_cand (Rd.of h)
  have e2 : Value.slice A n c = v' := one_of e rfl
  subst e2
  have hq' : ∀ x ∈ xs, ZonesOk W x := fun x hx => by
    obtain ⟨i, hi, rfl⟩ := List.getElem_of_mem hx
    exact hq i hi
  have hall : ∀ x : Cd, ∃ zs, x ∈ xs → Row eStr W (.slice x.A x.n x.c) zs ∧ ∀ s ∈ zs, s.size ≤ maxLen := fun x => by
    by_cases hx : x ∈ xs
    · obtain ⟨zs, h1⟩ := hq' x hx
      exact ⟨zs, fun _ => h1⟩
    · exact ⟨[], fun h => absurd h hx⟩
  obtain ⟨z, hz⟩ := Classical.axiomOfChoice hall
  exact ⟨xs, z, ⟨hr, fun x hx => (hz x hx).1⟩, fun x hx => (hz x hx).2⟩
def IsWant (v : Value) : Prop := ∃ name proto six loc hint node zone, v = wtV name proto six loc hint node zone
theorem isWant {base : Nat} {sp : Nat → Bool} {held : Bool} {v : Value} {d : DataW H} {ps : List MemPlace} (hv : Value.okWide Try.prog W .any base 24 v) (h : DataW.Trod enc Try.prog W 0 sp held 24 v d ps) : IsWant v := by
  obtain ⟨⟨cs⟩, rfl, _⟩ := okWide_struct Try.underlying24 hv
  have h := Rd.of h
  have hs := h.struct Try.underlying24
  have hc : Try.prog.cellsOf 24 = 7 := by kernel_rfl
  have hcb : Try.prog.cellsOf 4 = 1 := by kernel_rfl
  have hci : Try.prog.cellsOf 3 = 1 := by kernel_rfl
  have hcs : Try.prog.cellsOf 9 = 1 := by kernel_rfl
  have h0 : Rd enc Try.prog W 9 ((cs.drop 0).take (Try.prog.cellsOf 9)) := hs.2 0 _ rfl
  have h1 : Rd enc Try.prog W 3 ((cs.drop 1).take (Try.prog.cellsOf 3)) := hs.2 1 _ rfl
  have h2 : Rd enc Try.prog W 4 ((cs.drop 2).take (Try.prog.cellsOf 4)) := hs.2 2 _ rfl
  have h3 : Rd enc Try.prog W 4 ((cs.drop 3).take (Try.prog.cellsOf 4)) := hs.2 3 _ rfl
  have h4 : Rd enc Try.prog W 4 ((cs.drop 4).take (Try.prog.cellsOf 4)) := hs.2 4 _ rfl
  have h5 : Rd enc Try.prog W 9 ((cs.drop 5).take (Try.prog.cellsOf 9)) := hs.2 5 _ rfl
  have h6 : Rd enc Try.prog W 9 ((cs.drop 6).take (Try.prog.cellsOf 9)) := hs.2 6 _ rfl
  have hl : cs.length = Try.prog.cellsOf 24 := hs.1
  rw [hc] at hl
  rw [hcb] at h2 h3 h4
  rw [hci] at h1
  rw [hcs] at h0 h5 h6
  obtain ⟨s0, e0, _⟩ := h0.string Try.underlying9
  obtain ⟨n1, e1, _⟩ := h1.int Try.underlying3
  obtain ⟨b2, e2⟩ := h2.bool Try.underlying4
  obtain ⟨b3, e3⟩ := h3.bool Try.underlying4
  obtain ⟨b4, e4⟩ := h4.bool Try.underlying4
  obtain ⟨s5, e5, _⟩ := h5.string Try.underlying9
  obtain ⟨s6, e6, _⟩ := h6.string Try.underlying9
  refine ⟨s0, n1, b2, b3, b4, s5, s6, ?_⟩
  have d0 : cs = [.string s0, .int .i64 n1, .bool b2, .bool b3, .bool b4, .string s5, .string s6] := by
    rw [← List.drop_zero (l := cs), list1 e0, list1 e1, list1 e2, list1 e3, list1 e4, list1 e5, list1 e6, List.drop_of_length_le (by omega)]
  rw [d0]
end
theorem right_row (W : World) (v : Value) (hv : IsCands W v) (u : Value) (hu : IsWant u) :
    Calls Try.prog 4 #[v, u] W fun e W' => e = .returned (.bool true) ∧ Below W.heap.size W W' := by
  obtain ⟨xs, z, hc, hz⟩ := hv
  obtain ⟨a, b, c, d, e, f, g, rfl⟩ := hu
  exact right_calls v a b c d e f g xs z W hc hz
end Go.Proofs.Ytcfgffkjbkpfhaa.Cand
