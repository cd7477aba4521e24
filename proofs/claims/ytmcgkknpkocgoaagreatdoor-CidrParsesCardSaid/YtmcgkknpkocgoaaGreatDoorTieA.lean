/- Addresses held against each other: bytes.Compare, addr.Compare, linkboyref02.Compare. -/
import Derived.Test.YtmcgkknpkocgoaaGreatDoorKeyB
import Derived.Test.YtmcgkknpkocgoaaGreatDoorBlk
import Derived.Lib.BytesEntry
import Derived.Lib.Bytealg
import Derived.Deep.RegionHeld3
import Derived.LoopTactic
import Derived.Handy
import Derived.Outline
namespace Go.Proofs.YtmcgkknpkocgoaaGreatDoor.Tie
open Go.RowKit Go.Proofs.YtmcgkknpkocgoaaGreatDoor.Mem Go.Proofs.YtmcgkknpkocgoaaGreatDoor.Num Go.Proofs.YtmcgkknpkocgoaaGreatDoor.Key
open Go.Proofs.YtmcgkknpkocgoaaGreatDoor.Addr hiding below_allocd
set_option linter.unusedVariables false
set_option linter.unusedSimpArgs false
set_option maxRecDepth 100000
attribute [-go_sem] Builtin.append_ loadCells loadCellsFrom storeCells run_eql_struct
theorem run_bytesOf {P : Program} {w : World} {v : Value} {l : List UInt8} (h : Row eU8 w v l) : (Extern.Bytes.bytesOf v).run P w = .ok ⟨l.toArray⟩ w := by
  obtain ⟨A, c, rfl, _, _, h⟩ := h.parts
  have hc := h.cells
  have hcap := h.cap
  cases A with
  | none =>
    have h0 := hcap.2.2 rfl
    have : l = [] := List.eq_nil_of_length_eq_zero (by omega)
    subst this
    rfl
  | some ad =>
    have := Lib.run_loadBytesX (P := P) (w := w) (l.map fun x => (x.toNat : Int)) ad .empty (fun j x hx => by
      refine hc ad rfl j _ ?_
      rw [List.getElem?_map] at hx
      obtain ⟨y, hy, rfl⟩ := Option.map_eq_some_iff.1 hx
      rw [show eU8.all l = l.map (fun x => Value.int .u8 (x.toNat : Int)) from all_one1 _ _ _, List.getElem?_map, hy]
      rfl)
    rw [List.length_map] at this
    have e : Lib.bytesOf (l.map fun x => (x.toNat : Int)) = l := by
      unfold Lib.bytesOf
      rw [List.map_map]
      conv => rhs; rw [← List.map_id l]
      apply List.map_congr_left
      intro x _
      simp
    rw [show Extern.Bytes.bytesOf (.slice (some ad) l.length c) = Extern.Bytes.loadBytes ad l.length .empty from rfl, this, e]
    simp [ByteArray.empty, ByteArray.emptyWithCapacity]
    rfl
theorem run_cmp {P : Program} {w : World} {v1 v2 : Value} {l1 l2 : List UInt8} (h1 : Row eU8 w v1 l1) (h2 : Row eU8 w v2 l2) : (Extern.BytealgCompare.compare #[v1, v2]).run P w = .ok (.int .i64 (Lib.compareBytes l1 l2)) w := by
  change Sem.run P (do pure (goInt (Extern.BytealgCompare.cmp (← Extern.Bytes.bytesOf v1) (← Extern.Bytes.bytesOf v2)))) w = _
  simp only [Sem.run_bind, Sem.run_pure, Result.andThen, run_bytesOf h1, run_bytesOf h2]
  rw [Lib.cmp_eq]
  rfl
theorem bcompare_calls (v1 v2 : Value) (l1 l2 : List UInt8) (w : World) (h1 : Row eU8 w v1 l1) (h2 : Row eU8 w v2 l2) :
    Calls Tryz.prog 89 #[v1, v2] w fun e w' => e = .returned (.int .i64 (Lib.compareBytes l1 l2)) ∧ w = w' := by
  have HC := Lib.hid (run_cmp (P := Tryz.prog) h1 h2)
  obtain ⟨A, c, rfl, _, _, _⟩ := h1.parts
  obtain ⟨B, d, rfl, _, _, _⟩ := h2.parts
  clear h1 h2
  go_enter Tryz.func89, Tryz.ntmps89
  go_wp2
  rw [run_callFunc_extern Tryz.func138 (by kernel_rfl) (by kernel_rfl) (by kernel_rfl) (e := Extern.BytealgCompare.compare) (by kernel_rfl), HC.out]
  simp only [Result.andThen]
  rw [Oper.upon_value]
  go_wp2
  go_ret
  exact ⟨rfl, rfl⟩
def cmpAd (s1 : Bool) (b1 : List UInt8) (s2 : Bool) (b2 : List UInt8) : Int := if (s1 == s2) = true then Lib.compareBytes b1 b2 else if s1 = true then 1 else -1
theorem bcompare_step (l r : List UInt8) (k : Nat) (hk : k < l.length) (hr : k < r.length) : Lib.compareBytes (l.drop k) (r.drop k) = if l[k] < r[k] then -1 else if r[k] < l[k] then 1 else Lib.compareBytes (l.drop (k + 1)) (r.drop (k + 1)) := by
  rw [List.drop_eq_getElem_cons hk, List.drop_eq_getElem_cons hr]; rfl
set_option maxHeartbeats 2000000 in
theorem acompare_calls (s1 : Bool) (b1 : List UInt8) (h1 : b1.length = 16) (s2 : Bool) (b2 : List UInt8) (h2 : b2.length = 16) (w : World) :
    Calls Tryz.prog 21 #[adV s1 b1, adV s2 b2] w fun e w' => e = .returned (.int .i64 (cmpAd s1 b1 s2 b2)) ∧ Below w.heap.size w w' := by
  have hmx : Tryz.prog.follows .mixedOrders = true := by kernel_rfl
  obtain ⟨W1, hW1⟩ : ∃ W1, W1 = w.alloc (.cells (adA s1 b1) 24) := ⟨_, rfl⟩
  obtain ⟨W2, hW2⟩ : ∃ W2, W2 = W1.alloc (.cells (adA s2 b2) 24) := ⟨_, rfl⟩
  have hz : W1.heap.size = w.heap.size + 1 := by rw [hW1]; simp
  have hb1 : Below (w.alloc (.cells (adA s1 b1) 24)).heap.size (w.alloc (.cells (adA s1 b1) 24)) W2 := by rw [hW2, hW1]; exact (Below.refl _ _).alloc (Nat.le_refl _) _
  have hb2 : Below (W1.alloc (.cells (adA s2 b2) 24)).heap.size (W1.alloc (.cells (adA s2 b2) 24)) W2 := by rw [hW2]; exact Below.refl _ _
  have c1 := cell_six w W2 s1 b1 24 hb1
  have c2 := cell_six W1 W2 s2 b2 24 hb2
  have r1 := box_row w W2 s1 b1 24 16 (by omega) h1 hb1
  have r2 := box_row W1 W2 s2 b2 24 16 (by omega) h2 hb2
  rw [List.take_of_length_le (by omega)] at r1 r2
  rw [hz] at c2 r2
  have HB : Hid (Below w.heap.size w W2) := Lib.hid (below_allocd hb1)
  have KC : Hid (∀ n, Calls Tryz.prog 89 #[.slice (some ⟨w.heap.size, 1, none⟩) 16 16, .slice (some ⟨w.heap.size + 1, 1, none⟩) 16 16] (W2.drewN n) fun e w' => e = .returned (.int .i64 (Lib.compareBytes b1 b2)) ∧ W2.drewN n = w') := Lib.hid (fun n => bcompare_calls _ _ b1 b2 _ (r1.drewN n) (r2.drewN n))
  rw [hW2, hW1] at c1 c2
  have HW : Hid (W2 = (w.alloc (.cells (adA s1 b1) 24)).alloc (.cells (adA s2 b2) 24)) := Lib.hid (by rw [hW2, hW1])
  show Calls Tryz.prog 21 #[.agg (adA s1 b1), .agg (adA s2 b2)] w fun e w' => e = .returned (.int .i64 (cmpAd s1 b1 s2 b2)) ∧ Below w.heap.size w w'
  unfold cmpAd
  have hsz1 := adA_size s1 b1 h1
  have hsz2 := adA_size s2 b2 h2
  clear hb1 hb2 r1 r2 hW1 hW2 hz
  generalize adA s1 b1 = xa at c1 c2 HW hsz1 ⊢
  generalize adA s2 b2 = ya at c1 c2 HW hsz2 ⊢
  generalize Lib.compareBytes b1 b2 = R at KC ⊢
  have KD : Hid (Calls Tryz.prog 89 #[.slice (some ⟨w.heap.size, 1, none⟩) 16 16, .slice (some ⟨w.heap.size + 1, 1, none⟩) 16 16] ((w.alloc (.cells xa 24)).alloc (.cells ya 24)).drew fun e w' => e = .returned (.int .i64 R) ∧ Below w.heap.size w w') := Lib.hid (by
    rw [← HW.out]
    refine (KC.out 1).mono ?_
    rintro e w' ⟨rfl, rfl⟩
    exact ⟨rfl, below_drewN HB.out 1⟩)
  clear KC
  cases s1 <;> cases s2
  case false.true | true.false =>
    go_enter Tryz.func21, Tryz.ntmps21
    go_wp2
    go_ret
    exact ⟨rfl, by rw [← HW.out]; exact HB.out⟩
  all_goals
    go_enter Tryz.func21, Tryz.ntmps21
    go_wp2
    go_region_held3 (fun W : World => True) (first | trivial) (first
      | (go_at_call 89; ((with_reducible refine KD.out.mono ?_); rintro e w9 ⟨rfl, hw9⟩; have HW9 := Lib.hid hw9; clear hw9)))
    all_goals go_wp2
    go_ret
    exact ⟨rfl, HW9.out⟩
end Go.Proofs.YtmcgkknpkocgoaaGreatDoor.Tie
