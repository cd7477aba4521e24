/- ties.place and the map of ties, as far as the law's fixed fact goes. -/
import Derived.Test.YtcfgffkjbkpfhaaTieF
import Derived.Test.YtcfgffkjbkpfhaaCand13
import Derived.DeepKeys4
import Derived.Maps.OwnSet
import Derived.Maps.OwnOps
import Derived.Maps.Views
namespace Go.Proofs.Ytcfgffkjbkpfhaa.Tie
open Go.RowKit Go.Proofs.Ytcfgffkjbkpfhaa.Mem Go.Proofs.Ytcfgffkjbkpfhaa.Num Go.Proofs.Ytcfgffkjbkpfhaa.Key
open Go.Proofs.Ytcfgffkjbkpfhaa.Addr hiding below_allocd
open Go.Maps
set_option linter.unusedVariables false
set_option linter.unusedSimpArgs false
set_option maxRecDepth 100000
attribute [-go_sem] Builtin.append_ loadCells loadCellsFrom storeCells run_eql_struct
def Ti.pl (t : Ti) : List Value := adCells t.s t.b ++ [.string t.sp, .string t.sn, .string t.nm, .bool t.lc]
theorem Ti.pl_len (t : Ti) : t.pl.length = 21 := by unfold Ti.pl; rw [List.length_append, adCells_len _ _ t.hb]; rfl
theorem Ti.pl_one (t : Ti) : ∀ u ∈ t.pl, u.oneCell' = true := by
  intro u hu
  unfold Ti.pl at hu
  simp only [List.mem_append, List.mem_cons, List.not_mem_nil, or_false] at hu
  rcases hu with hu | rfl | rfl | rfl | rfl <;> first | rfl | exact adCells_one _ _ _ hu
/-- A store of many cells into a block known whole. -/
theorem store_all {P : Program} {b : Nat} {cs vs : List Value} {t : TypeId} {W : World} (h : Blk b cs t W) (hl : cs.length = vs.length) (h1 : ∀ v ∈ vs, v.oneCell' = true) : ∃ W4, (storeCells ⟨b, 0, none⟩ vs).run P W = .ok () W4 ∧ Blk b vs t W4 ∧ Alt (fun k => k = b) W W4 := by
  have hs := run_storeCells_cells (P := P) b 0 vs 0 W (fun j hj => by simpa using ((h.there 0 vs.length (by omega)) j hj).1) (fun j hj => ((h.there 0 vs.length (by omega)) j (by simpa using hj)).2) h1
  rw [Nat.add_zero] at hs
  obtain ⟨q1, q2⟩ := setCells_heap vs 0 h (by omega)
  rw [splice_all _ _ hl] at q1
  exact ⟨_, hs, q1, q2⟩
theorem fold_set2 (l : List Value) : ∀ (a : Array Value) (o : Nat), o + l.length ≤ a.size → (l.zipIdx o).foldl (fun cs x => cs.setIfInBounds x.2 x.1) a = (a.toList.take o ++ l ++ a.toList.drop (o + l.length)).toArray := by
  induction l with
  | nil =>
    intro a o h
    simp
  | cons v l ih =>
    intro a o h
    have ho : o < a.toList.length := by simp at h ⊢; omega
    rw [List.zipIdx_cons, List.foldl_cons, ih _ (o + 1) (by simp at h ⊢; omega)]
    congr 1
    rw [Array.toList_setIfInBounds, List.take_succ_eq_append_getElem (by simpa using ho), List.take_set, List.set_eq_of_length_le (by rw [List.length_take]; omega), List.drop_set, if_pos (by omega)]
    simp
    congr 1
    omega
theorem pl_fold (s : Bool) (b : List UInt8) (hb : b.length = 16) : Array.foldl (fun cs x => cs.setIfInBounds x.snd x.fst) #[.bool false, .int .u8 0, .int .u8 0, .int .u8 0, .int .u8 0, .int .u8 0, .int .u8 0, .int .u8 0, .int .u8 0, .int .u8 0, .int .u8 0, .int .u8 0, .int .u8 0, .int .u8 0, .int .u8 0, .int .u8 0, .int .u8 0, .string ⟨#[]⟩, .string ⟨#[]⟩, .string ⟨#[]⟩, .bool false] (adA s b).zipIdx 0 17 = (adCells s b ++ ([.string ⟨#[]⟩, .string ⟨#[]⟩, .string ⟨#[]⟩, .bool false] : List Value)).toArray := by
  have hz : (adA s b).zipIdx.size = 17 := by rw [Array.size_zipIdx, adA_size _ _ hb]
  have h := fold_set2 (adCells s b) #[.bool false, .int .u8 0, .int .u8 0, .int .u8 0, .int .u8 0, .int .u8 0, .int .u8 0, .int .u8 0, .int .u8 0, .int .u8 0, .int .u8 0, .int .u8 0, .int .u8 0, .int .u8 0, .int .u8 0, .int .u8 0, .int .u8 0, .string ⟨#[]⟩, .string ⟨#[]⟩, .string ⟨#[]⟩, .bool false] 0 (by rw [adCells_len _ _ hb]; decide)
  rw [← hz, ← Array.foldl_toList, Array.toList_zipIdx]
  refine h.trans ?_
  rw [adCells_len _ _ hb]
  rfl
theorem pl_sets (t : Ti) : ((((adCells t.s t.b ++ ([.string ⟨#[]⟩, .string ⟨#[]⟩, .string ⟨#[]⟩, .bool false] : List Value)).toArray.setIfInBounds 17 (.string t.sp)).setIfInBounds 18 (.string t.sn)).setIfInBounds 19 (.string t.nm)).setIfInBounds 20 (.bool t.lc) = t.pl.toArray := by
  unfold Ti.pl
  obtain ⟨b0, b1, b2, b3, b4, b5, b6, b7, b8, b9, b10, b11, b12, b13, b14, b15, e⟩ := split16 t.b t.hb
  rw [e]
  rfl
set_option maxHeartbeats 2000000 in
theorem place_calls (t : Ti) (w : World) : Calls Try.prog 67 #[t.V] w fun e w' => e = .returned (.agg t.pl.toArray) ∧ Below w.heap.size w w' := by
  obtain ⟨W2, hW2⟩ : ∃ W2, W2 = (w.alloc (.cells t.A 49)).alloc (.cells #[.bool false, .int .u8 0, .int .u8 0, .int .u8 0, .int .u8 0, .int .u8 0, .int .u8 0, .int .u8 0, .int .u8 0, .int .u8 0, .int .u8 0, .int .u8 0, .int .u8 0, .int .u8 0, .int .u8 0, .int .u8 0, .int .u8 0, .string ⟨#[]⟩, .string ⟨#[]⟩, .string ⟨#[]⟩, .bool false] 99) := ⟨_, rfl⟩
  have hB : Below w.heap.size w W2 := by rw [hW2]; exact ((Below.refl _ _).alloc (Nat.le_refl _) _).alloc (by simp) _
  have hk1 : Blk w.heap.size t.cells 49 W2 := by rw [hW2]; exact (Blk.new w _ _ _ _ rfl rfl).alloc _
  have hk2 : Blk (w.heap.size + 1) [.bool false, .int .u8 0, .int .u8 0, .int .u8 0, .int .u8 0, .int .u8 0, .int .u8 0, .int .u8 0, .int .u8 0, .int .u8 0, .int .u8 0, .int .u8 0, .int .u8 0, .int .u8 0, .int .u8 0, .int .u8 0, .int .u8 0, .string ⟨#[]⟩, .string ⟨#[]⟩, .string ⟨#[]⟩, .bool false] 99 W2 := by rw [hW2]; exact Blk.new _ _ _ _ _ rfl (by simp)
  obtain ⟨a1, a2, _, a4, a5, _, _⟩ := Ti.box hk1
  obtain ⟨W3, s3, k3, b3⟩ := store_all (P := Try.prog) hk2 (by rw [t.pl_len]; rfl) t.pl_one
  have l3 : (loadCells ⟨w.heap.size + 1, 0, none⟩ 21).run Try.prog W3 = .ok t.pl.toArray W3 := k3.load 0 21 t.pl (by rw [List.drop_zero, List.take_of_length_le (by rw [t.pl_len]; decide)]) t.pl_len
  have HB : Hid (Below w.heap.size w W3) := Lib.hid (below_alt hB b3 hB.size (fun k hk => by omega))
  have hs := t.sz
  have z1 : (adA t.s t.b).size = 17 := adA_size _ _ t.hb
  have z2 : (adA t.s t.b).toList = adCells t.s t.b := rfl
  rw [hW2] at a1 a2 a4 a5 s3
  show Calls Try.prog 67 #[.agg t.A] w fun e w' => e = .returned (.agg t.pl.toArray) ∧ Below w.heap.size w w'
  have hf := pl_fold t.s t.b t.hb
  have hset := pl_sets t
  have hfz : (adCells t.s t.b ++ ([.string ⟨#[]⟩, .string ⟨#[]⟩, .string ⟨#[]⟩, .bool false] : List Value)).toArray.size = 21 := by
    show (adCells t.s t.b ++ _).length = 21
    rw [List.length_append, adCells_len _ _ t.hb]; rfl
  have hpl : t.pl.toArray.toList = t.pl := rfl
  have hps : t.pl.toArray.size = 21 := t.pl_len
  clear hk1 hk2 k3 b3 hB hW2
  generalize (adCells t.s t.b ++ ([.string ⟨#[]⟩, .string ⟨#[]⟩, .string ⟨#[]⟩, .bool false] : List Value)).toArray = fa at hf hset hfz
  generalize adA t.s t.b = ya at a4 z1 z2 hf
  generalize t.pl.toArray = pa at hset hpl hps l3 ⊢
  generalize t.A = xa at a1 a2 a4 a5 hs s3 ⊢
  go_enter Try.func67, Try.ntmps67
  go_wp2
  refine bodyPost_ret (v := .agg pa) (by simp [results, Try.results67, go_sem, l3]) rfl ⟨rfl, HB.out⟩
end Go.Proofs.Ytcfgffkjbkpfhaa.Tie
