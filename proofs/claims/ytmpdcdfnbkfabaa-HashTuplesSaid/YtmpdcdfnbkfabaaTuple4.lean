/- The contract of HashTuples, for its row. -/
import Derived.Test.YtmpdcdfnbkfabaaTuple3
import Derived.Test.YtmpdcdfnbkfabaaEndsO
namespace Go.Proofs.Ytmpdcdfnbkfabaa.Tuple
open Go.RowKit Go.WideShapes Go.Proofs.Ytmpdcdfnbkfabaa.Mem Go.Proofs.Ytmpdcdfnbkfabaa.Addr Go.Proofs.Ytmpdcdfnbkfabaa.Open
set_option maxRecDepth 100000
set_option linter.unusedVariables false
theorem okWide_array {P : Program} {w : World} {r : Reach} {base n : Nat} {t e : TypeId} {v : Value} (ht : P.underlying t = some (.array n e)) (h : Value.okWide P w r base t v) : ∃ cs, v = .agg cs ∧ cs.size = P.cellsOf t := by
  unfold Value.okWide at h
  rw [ht] at h
  obtain ⟨cs, h1, h2, _⟩ := h
  exact ⟨cs, h1, h2⟩
def IsEnds (v : Value) : Prop := ∃ p q : Pt, v = .agg (twA p q)
theorem isEnds {H : Type} {enc : TypeId × Value → H} {W : World} {base : Nat} {sp : Nat → Bool} {held : Bool} {v : Value} {d : DataW H} {ps : List MemPlace} (hv : Value.okWide Try.prog W .any base 27 v) (h : DataW.Trod enc Try.prog W 0 sp held 27 v d ps) : IsEnds v := by
  obtain ⟨cs, rfl, hn⟩ := okWide_array Try.underlying27 hv
  have ha := (Rd.of h).array Try.underlying27
  have hc : Try.prog.cellsOf 27 = 36 := by kernel_rfl
  have hcp : Try.prog.cellsOf 26 = 18 := by kernel_rfl
  obtain ⟨l⟩ := cs
  have hl : l.length = 36 := by rw [hc] at hn; simpa using hn
  rw [hcp] at ha
  obtain ⟨s0, b0, n0, hb0, h0⟩ := open_point ((l.drop (0 * 18)).take 18) (ha.2 0 (by omega))
  obtain ⟨s1, b1, n1, hb1, h1⟩ := open_point ((l.drop (1 * 18)).take 18) (ha.2 1 (by omega))
  refine ⟨⟨s0, b0, n0, hb0⟩, ⟨s1, b1, n1, hb1⟩, ?_⟩
  unfold twA ptCells
  simp only
  rw [← h0, ← h1, List.take_of_length_le (l := l.drop (1 * 18)) (by rw [List.length_drop]; omega), Nat.zero_mul, List.drop_zero, Nat.one_mul, List.take_append_drop]
theorem tuples_row (W : World) (proto : Int) (hp : (Lit.int .i64 proto).wf = true) (v : Value) (hv : IsEnds v) :
    Calls Try.prog 3 #[.int .i64 proto, v] W fun e W' => e = .returned (.bool true) ∧ Below W.heap.size W W' := by
  obtain ⟨p, q, rfl⟩ := hv
  exact tuples_calls proto p q W
end Go.Proofs.Ytmpdcdfnbkfabaa.Tuple
