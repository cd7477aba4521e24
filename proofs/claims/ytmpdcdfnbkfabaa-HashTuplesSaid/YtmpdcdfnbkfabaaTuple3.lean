/- The law HashTuples. -/
import Derived.Test.YtmpdcdfnbkfabaaTuple2
import Derived.Test.YtmpdcdfnbkfabaaOpen
import Derived.OpenShut
namespace Go.Proofs.Ytmpdcdfnbkfabaa.Tuple
open Go.RowKit Go.WideShapes Go.Proofs.Ytmpdcdfnbkfabaa.Mem Go.Proofs.Ytmpdcdfnbkfabaa.Num Go.Proofs.Ytmpdcdfnbkfabaa.Clone Go.Proofs.Ytmpdcdfnbkfabaa.Addr Go.Proofs.Ytmpdcdfnbkfabaa.Concat Go.Proofs.Ytmpdcdfnbkfabaa.Open
set_option linter.unusedVariables false
set_option linter.unusedSimpArgs false
set_option maxRecDepth 100000
attribute [-go_sem] Builtin.append_ loadCells loadCellsFrom
def ptCells (p : Pt) : List Value := adCells p.six p.b ++ [.int .i64 p.n]
theorem ptCells_len (p : Pt) : (ptCells p).length = 18 := by simp [ptCells, adCells, p.hb]
def twA (p q : Pt) : Array Value := (ptCells p ++ ptCells q).toArray
theorem tw_loads (p q : Pt) (w w1 : World) (t : TypeId) (h : Below (w.alloc (.cells (twA p q) t)).heap.size (w.alloc (.cells (twA p q) t)) w1) :
    (loadCells ⟨w.heap.size, 0, none⟩ 18).run Try.prog w1 = .ok (ptA p.six p.b p.n) w1 ∧ (loadCells ⟨w.heap.size, 18, none⟩ 18).run Try.prog w1 = .ok (ptA q.six q.b q.n) w1 := by
  have hp := ptCells_len p
  have hq := ptCells_len q
  refine ⟨load_box w w1 (ptCells p ++ ptCells q) (ptCells p) t 0 18 ?_ hp h, load_box w w1 (ptCells p ++ ptCells q) (ptCells q) t 18 18 ?_ hq h⟩
  · rw [List.drop_zero, List.take_append_of_le_length (by omega), List.take_of_length_le (by omega)]
  · rw [show 18 = (ptCells p).length from hp.symm, List.drop_left, List.take_of_length_le (by omega)]
set_option maxHeartbeats 40000000 in
theorem tuples_calls (proto : Int) (p q : Pt) (w : World) : Calls Try.prog 3 #[.int .i64 proto, .agg (twA p q)] w fun e w' => e = .returned (.bool true) ∧ Below w.heap.size w w' := by
  have hp := fun W => tuple_calls proto p q W
  have hq := fun W => reftuple_calls proto p q W
  have hld := fun w1 h => tw_loads p q w w1 27 h
  simp only [Pt.v, ptV] at hp hq
  generalize tupleL proto p q = L at hp hq
  generalize ptA p.six p.b p.n = pa at hp hq hld
  generalize ptA q.six q.b q.n = qa at hp hq hld
  generalize twA p q = ta at hld ⊢
  have HP := Lib.hid hp
  have HQ := Lib.hid hq
  have HLD := Lib.hid hld
  have HA := Lib.hid (fun W => Hash.alive_calls W)
  clear hp hq hld
  obtain ⟨d0, d1⟩ := HLD.out _ (Below.refl _ _).drew
  have hmx : Try.prog.follows .mixedOrders = true := by kernel_rfl
  go_enter Try.func3, Try.ntmps3
  go_wp2_with (first
    | (go_at_call 6; ((with_reducible refine (HA.out _).mono ?_); rintro e w' ⟨rfl, rfl⟩)))
  go_region_law (first
    | (go_simp; go_at_call 7; ((with_reducible refine (HP.out _).mono ?_); rintro e w1 ⟨⟨v1, rfl, hO1⟩, hB1⟩; have hBW1 := below_dr hB1; obtain ⟨m0, m1⟩ := HLD.out _ hBW1; have HB1 := Lib.hid hBW1; have HR1 := Lib.hid hO1.row; have hcv1 := hO1.row.conv' Try.underlying29 Try.underlying5 Try.underlying9; clear hO1 hB1 hBW1))
    | (go_simp; go_at_call 8; ((with_reducible refine (HQ.out _).mono ?_); rintro e w2 ⟨⟨v2, rfl, hO2⟩, hB2⟩; have HB2 := Lib.hid (below_next HB1.out hB2); have hcv1' := (HR1.out.below hB2).conv' Try.underlying29 Try.underlying5 Try.underlying9; have hcv2 := hO2.row.conv' Try.underlying29 Try.underlying5 Try.underlying9; clear hO2 hB2)))
  all_goals go_wp2
  all_goals go_ret
  all_goals exact ⟨by simp [Act.put], below_allocd HB2.out⟩
end Go.Proofs.Ytmpdcdfnbkfabaa.Tuple
