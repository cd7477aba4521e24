/- The law SumsPseudo. -/
import Derived.Test.YtmpdcdfnbkfabaaPseudo2
import Derived.Test.YtmpdcdfnbkfabaaEndsO
import Derived.OpenShut
namespace Go.Proofs.Ytmpdcdfnbkfabaa.Pseudo
open Go.RowKit Go.WideShapes Go.Proofs.Ytmpdcdfnbkfabaa.Mem Go.Proofs.Ytmpdcdfnbkfabaa.Num Go.Proofs.Ytmpdcdfnbkfabaa.Clone Go.Proofs.Ytmpdcdfnbkfabaa.Addr Go.Proofs.Ytmpdcdfnbkfabaa.Concat Go.Proofs.Ytmpdcdfnbkfabaa.Open
set_option linter.unusedVariables false
set_option linter.unusedSimpArgs false
set_option maxRecDepth 100000
attribute [-go_sem] Builtin.append_ loadCells loadCellsFrom
structure Ad where
  six : Bool
  b : List UInt8
  hb : b.length = 16
def Ad.cs (p : Ad) : List Value := adCells p.six p.b
theorem Ad.cs_len (p : Ad) : p.cs.length = 17 := by simp [Ad.cs, adCells, p.hb]
def twA (p q : Ad) : Array Value := (p.cs ++ q.cs).toArray
theorem tw_loads (p q : Ad) (w w1 : World) (t : TypeId) (h : Below (w.alloc (.cells (twA p q) t)).heap.size (w.alloc (.cells (twA p q) t)) w1) :
    (loadCells ⟨w.heap.size, 0, none⟩ 17).run Try.prog w1 = .ok (adA p.six p.b) w1 ∧ (loadCells ⟨w.heap.size, 17, none⟩ 17).run Try.prog w1 = .ok (adA q.six q.b) w1 := by
  have hp := p.cs_len
  have hq := q.cs_len
  refine ⟨load_box w w1 (p.cs ++ q.cs) p.cs t 0 17 ?_ hp h, load_box w w1 (p.cs ++ q.cs) q.cs t 17 17 ?_ hq h⟩
  · rw [List.drop_zero, List.take_append_of_le_length (by omega), List.take_of_length_le (by omega)]
  · rw [show 17 = p.cs.length from hp.symm, List.drop_left, List.take_of_length_le (by omega)]
set_option maxHeartbeats 40000000 in
theorem pseudos_calls (p q : Ad) (proto n : Int) (w : World) : Calls Try.prog 4 #[.agg (twA p q), .int .i64 proto, .int .i64 n] w fun e w' => e = .returned (.bool true) ∧ Below w.heap.size w w' := by
  have hp := fun W => pseudo_calls p.six p.b p.hb q.six q.b q.hb proto n W
  have hq := fun W => refpseudo_calls p.six p.b p.hb q.six q.b q.hb proto n W
  have hld := fun w1 h => tw_loads p q w w1 32 h
  simp only [adV] at hp hq
  generalize p.b.take (adLen p.six) ++ q.b.take (adLen q.six) ++ tailL p.six proto n = L at hp hq
  generalize adA p.six p.b = pa at hp hq hld
  generalize adA q.six q.b = qa at hp hq hld
  generalize twA p q = ta at hld ⊢
  have HP := Lib.hid hp
  have HQ := Lib.hid hq
  have HLD := Lib.hid hld
  have HA := Lib.hid (fun W => Sums.alive_calls W)
  clear hp hq hld
  go_enter Try.func4, Try.ntmps4
  go_wp2_with (go_at_call 9; ((with_reducible refine (HA.out _).mono ?_); rintro e w0 ⟨rfl, hb0⟩; have HB0 := Lib.hid hb0; clear hb0))
  obtain ⟨d0, d1⟩ := HLD.out _ HB0.out.drew
  go_region_law (first
    | (go_simp; go_at_call 10; ((with_reducible refine (HP.out _).mono ?_); rintro e w1 ⟨⟨v1, rfl, hO1⟩, hB1⟩; have hBW1 := below_next HB0.out (below_dr hB1); obtain ⟨m0, m1⟩ := HLD.out _ hBW1; have HB1 := Lib.hid hBW1; have HR1 := Lib.hid hO1.row; have hcv1 := hO1.row.conv' Try.underlying29 Try.underlying5 Try.underlying9; clear hO1 hB1 hBW1))
    | (go_simp; go_at_call 11; ((with_reducible refine (HQ.out _).mono ?_); rintro e w2 ⟨⟨v2, rfl, hO2⟩, hB2⟩; have HB2 := Lib.hid (below_next HB1.out hB2); have hcv1' := (HR1.out.below hB2).conv' Try.underlying29 Try.underlying5 Try.underlying9; have hcv2 := hO2.row.conv' Try.underlying29 Try.underlying5 Try.underlying9; clear hO2 hB2)))
  all_goals go_wp2
  all_goals go_ret
  all_goals exact ⟨by simp [Act.put], below_allocd HB2.out⟩
theorem okWide_array {P : Program} {w : World} {r : Reach} {base n : Nat} {t e : TypeId} {v : Value} (ht : P.underlying t = some (.array n e)) (h : Value.okWide P w r base t v) : ∃ cs, v = .agg cs ∧ cs.size = P.cellsOf t := by
  unfold Value.okWide at h
  rw [ht] at h
  obtain ⟨cs, h1, h2, _⟩ := h
  exact ⟨cs, h1, h2⟩
def IsEnds (v : Value) : Prop := ∃ p q : Ad, v = .agg (twA p q)
theorem isEnds {H : Type} {enc : TypeId × Value → H} {W : World} {base : Nat} {sp : Nat → Bool} {held : Bool} {v : Value} {d : DataW H} {ps : List MemPlace} (hv : Value.okWide Try.prog W .any base 32 v) (h : DataW.Trod enc Try.prog W 0 sp held 32 v d ps) : IsEnds v := by
  obtain ⟨cs, rfl, hn⟩ := okWide_array Try.underlying32 hv
  have ha := (Rd.of h).array Try.underlying32
  have hc : Try.prog.cellsOf 32 = 34 := by kernel_rfl
  have hcp : Try.prog.cellsOf 24 = 17 := by kernel_rfl
  obtain ⟨l⟩ := cs
  have hl : l.length = 34 := by rw [hc] at hn; simpa using hn
  rw [hcp] at ha
  obtain ⟨s0, b0, hb0, h0⟩ := open_addr ((l.drop (0 * 17)).take 17) (ha.2 0 (by omega))
  obtain ⟨s1, b1, hb1, h1⟩ := open_addr ((l.drop (1 * 17)).take 17) (ha.2 1 (by omega))
  refine ⟨⟨s0, b0, hb0⟩, ⟨s1, b1, hb1⟩, ?_⟩
  unfold twA Ad.cs
  simp only
  rw [← h0, ← h1, List.take_of_length_le (l := l.drop (1 * 17)) (by rw [List.length_drop]; omega), Nat.zero_mul, List.drop_zero, Nat.one_mul, List.take_append_drop]
theorem pseudos_row (W : World) (v : Value) (hv : IsEnds v) (proto : Int) (hp : (Lit.int .i64 proto).wf = true) (n : Int) (hn : (Lit.int .i64 n).wf = true) :
    Calls Try.prog 4 #[v, .int .i64 proto, .int .i64 n] W fun e W' => e = .returned (.bool true) ∧ Below W.heap.size W W' := by
  obtain ⟨p, q, rfl⟩ := hv
  exact pseudos_calls p q proto n W
end Go.Proofs.Ytmpdcdfnbkfabaa.Pseudo
