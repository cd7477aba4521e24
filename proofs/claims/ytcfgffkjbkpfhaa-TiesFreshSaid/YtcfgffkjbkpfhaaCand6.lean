/- hints.Count and hints.Filter. -/
import Derived.Test.YtcfgffkjbkpfhaaCand5
namespace Go.Proofs.Ytcfgffkjbkpfhaa.Cand
open Go.RowKit Go.Proofs.Ytcfgffkjbkpfhaa.Mem Go.Proofs.Ytcfgffkjbkpfhaa.Num Go.Proofs.Ytcfgffkjbkpfhaa.Key
open Go.Proofs.Ytcfgffkjbkpfhaa.Addr hiding below_allocd
set_option linter.unusedVariables false
set_option linter.unusedSimpArgs false
set_option maxRecDepth 100000
attribute [-go_sem] Builtin.append_ loadCells loadCellsFrom storeCells run_eql_struct
def bareB (x : Cd) : Bool := ((x.n : Int) == 0)
def rdyL (xs : List Cd) : List Cd := xs.filter (fun x => x.rdy)
/-- Do hints count? -/
def countB (s : ByteArray) (z : Cd → List ByteArray) (xs : List Cd) : Bool := !s.toList.isEmpty && (!(rdyL xs).any bareB && (rdyL xs).any (fun x => memS s (z x)))
set_option maxHeartbeats 2000000 in
theorem count_calls (v : Value) (s : ByteArray) (xs : List Cd) (z : Cd → List ByteArray) (w : World) (hv : Cands w v xs z) (hl : xs.length ≤ 100000) :
    Calls Try.prog 30 #[v, .string s] w fun e w' => e = .returned (.bool (countB s z xs)) ∧ Below w.heap.size w w' := by
  have hz : ∀ x ∈ rdyL xs, Row eStr (w.alloc (.cells #[.string s] 9)) (.slice x.A x.n x.c) (z x) := fun x hx => (hv.2 x (List.mem_filter.1 hx).1).alloc _
  have hcell : (w.alloc (.cells #[.string s] 9)).cell? ⟨w.heap.size, 0, none⟩ = some (.string s) := (Blk.new w [.string s] _ _ _ rfl rfl).cell 0 _ rfl
  have KR := Lib.hid (ready_calls v xs _ (hv.1.alloc (.cells #[.string s] 9)) hl)
  have hsz : w.heap.size < (w.alloc (.cells #[.string s] 9)).heap.size := by simp
  have HBW : Hid (Below w.heap.size w (w.alloc (.cells #[.string s] 9))) := Lib.hid ((Below.refl _ _).alloc (Nat.le_refl _) _)
  have K1 : Hid (∀ v' W, Row eCd W v' (rdyL xs) → Calls Try.prog 40 #[v', .func (.func 60) #[] #[]] W fun e w' => e = .returned (.bool ((rdyL xs).any bareB)) ∧ Below W.heap.size W w') := Lib.hid (fun v' W hr => contains_calls 60 #[] bareB (enters_of Try.func60 (by kernel_rfl) rfl) v' _ W W (Below.refl _ _) hr (bare_pred _ W))
  have K2 : Hid (∀ v' W, Below (w.alloc (.cells #[.string s] 9)).heap.size (w.alloc (.cells #[.string s] 9)) W → Row eCd W v' (rdyL xs) → Calls Try.prog 40 #[v', .func (.func 61) #[] #[.pointer (some ⟨w.heap.size, 0, none⟩)]] W fun e w' => e = .returned (.bool ((rdyL xs).any (fun x => memS s (z x)))) ∧ Below W.heap.size W w') := Lib.hid (fun v' W hb hr => contains_calls 61 #[.pointer (some ⟨w.heap.size, 0, none⟩)] (fun x => memS s (z x)) (enters_of Try.func61 (by kernel_rfl) rfl) v' _ _ W hb hr (count2_pred s z _ _ w.heap.size hsz hcell hz))
  unfold countB
  replace KR : Hid (Calls Try.prog 54 #[v] (w.alloc (.cells #[.string s] 9)) fun e w' => (∃ v', e = .returned v' ∧ Row eCd w' v' (rdyL xs)) ∧ Below (w.alloc (.cells #[.string s] 9)).heap.size (w.alloc (.cells #[.string s] 9)) w') := KR
  have HCL : Hid (∀ W, Below (w.alloc (.cells #[.string s] 9)).heap.size (w.alloc (.cells #[.string s] 9)) W → W.cell? ⟨w.heap.size, 0, none⟩ = some (.string s)) := Lib.hid (fun W hW => cell_below hW hcell)
  clear hv hz hcell hsz
  generalize (rdyL xs).any bareB = b1 at K1 ⊢
  generalize (rdyL xs).any (fun x => memS s (z x)) = b2 at K2 ⊢
  generalize rdyL xs = ys at KR K1 K2
  by_cases hs : s.toList = []
  · have hs1 : s.toList.isEmpty = true := by rw [hs]; rfl
    rw [hs1]
    clear hs
    go_enter Try.func30, Try.ntmps30
    go_wp2_with (first
      | (go_at_call 54; ((with_reducible refine KR.out.mono ?_); rintro e w1 ⟨⟨v1, rfl, hr1⟩, hb1⟩; have HR1 := Lib.hid hr1; have HB1 := Lib.hid hb1; clear hr1 hb1))
      | (go_at_call 40; ((with_reducible refine (K1.out _ _ HR1.out).mono ?_); rintro e w2 ⟨rfl, hb2⟩; have HB2 := Lib.hid (HB1.out.trans (hb2.mono HB1.out.size)); have hc2 := HCL.out _ HB2.out; clear hb2)))
    go_ret
    exact ⟨rfl, below_allocd HB2.out⟩
  · have hs1 : s.toList.isEmpty = false := by
      cases h : s.toList with
      | nil => exact absurd h hs
      | cons a b => rfl
    rw [hs1]
    cases b1
    · go_enter Try.func30, Try.ntmps30
      go_wp2_with (first
        | (go_at_call 54; ((with_reducible refine KR.out.mono ?_); rintro e w1 ⟨⟨v1, rfl, hr1⟩, hb1⟩; have HR1 := Lib.hid hr1; have HB1 := Lib.hid hb1; clear hr1 hb1))
        | (go_at_call 40; ((with_reducible refine (K1.out _ _ HR1.out).mono ?_); rintro e w2 ⟨rfl, hb2⟩; have HR2 := Lib.hid (HR1.out.below hb2); have HB2 := Lib.hid (HB1.out.trans (hb2.mono HB1.out.size)); have hc2 := HCL.out _ HB2.out; clear hb2))
        | (go_at_call 40; ((with_reducible refine (K2.out _ _ HB2.out HR2.out).mono ?_); rintro e w3 ⟨rfl, hb3⟩; have HB3 := Lib.hid (HB2.out.trans (hb3.mono HB2.out.size)); clear hb3)))
      go_ret
      exact ⟨by simp, below_allocd HB3.out⟩
    · go_enter Try.func30, Try.ntmps30
      go_wp2_with (first
        | (go_at_call 54; ((with_reducible refine KR.out.mono ?_); rintro e w1 ⟨⟨v1, rfl, hr1⟩, hb1⟩; have HR1 := Lib.hid hr1; have HB1 := Lib.hid hb1; clear hr1 hb1))
        | (go_at_call 40; ((with_reducible refine (K1.out _ _ HR1.out).mono ?_); rintro e w2 ⟨rfl, hb2⟩; have HB2 := Lib.hid (HB1.out.trans (hb2.mono HB1.out.size)); have hc2 := HCL.out _ HB2.out; clear hb2)))
      go_ret
      exact ⟨rfl, below_allocd HB2.out⟩
/-- The ready ones that are meant for a zone. -/
def filterL (s : ByteArray) (z : Cd → List ByteArray) (xs : List Cd) : List Cd := if countB s z xs then (rdyL xs).filter (fun x => memS s (z x)) else rdyL xs
set_option maxHeartbeats 2000000 in
theorem filter_calls (v : Value) (s : ByteArray) (xs : List Cd) (z : Cd → List ByteArray) (w : World) (hv : Cands w v xs z) (hl : xs.length ≤ 100000) :
    Calls Try.prog 25 #[v, .string s] w fun e w' => (∃ v', e = .returned v' ∧ Row eCd w' v' (filterL s z xs)) ∧ Below w.heap.size w w' := by
  have hz : ∀ x ∈ rdyL xs, Row eStr (w.alloc (.cells #[.string s] 9)) (.slice x.A x.n x.c) (z x) := fun x hx => (hv.2 x (List.mem_filter.1 hx).1).alloc _
  have hcell : (w.alloc (.cells #[.string s] 9)).cell? ⟨w.heap.size, 0, none⟩ = some (.string s) := (Blk.new w [.string s] _ _ _ rfl rfl).cell 0 _ rfl
  have KR : Hid (Calls Try.prog 54 #[v] (w.alloc (.cells #[.string s] 9)) fun e w' => (∃ v', e = .returned v' ∧ Row eCd w' v' (rdyL xs)) ∧ Below (w.alloc (.cells #[.string s] 9)).heap.size (w.alloc (.cells #[.string s] 9)) w') := Lib.hid (ready_calls v xs _ (hv.1.alloc (.cells #[.string s] 9)) hl)
  have hsz : w.heap.size < (w.alloc (.cells #[.string s] 9)).heap.size := by simp
  have KO : Hid (∀ W, Below (w.alloc (.cells #[.string s] 9)).heap.size (w.alloc (.cells #[.string s] 9)) W → Calls Try.prog 30 #[v, .string s] W fun e w' => e = .returned (.bool (countB s z xs)) ∧ Below W.heap.size W w') := Lib.hid (fun W hW => count_calls v s xs z W ((hv.below ((Below.refl _ _).alloc (Nat.le_refl _) _)).below hW) hl)
  have hfl : (rdyL xs).length ≤ 100000 := Nat.le_trans (List.length_filter_le _ _) hl
  have KK : Hid (∀ v' W, Below (w.alloc (.cells #[.string s] 9)).heap.size (w.alloc (.cells #[.string s] 9)) W → Row eCd W v' (rdyL xs) → Calls Try.prog 55 #[v', .func (.func 56) #[] #[.pointer (some ⟨w.heap.size, 0, none⟩)]] W fun e w' => (∃ v2, e = .returned v2 ∧ Row eCd w' v2 ((rdyL xs).filter (fun x => memS s (z x)))) ∧ Below W.heap.size W w') := Lib.hid (fun v' W hb hr => kept_calls 56 #[.pointer (some ⟨w.heap.size, 0, none⟩)] (fun x => memS s (z x)) (enters_of Try.func56 (by kernel_rfl) rfl) v' _ _ W hb hr (filter1_pred s z _ _ w.heap.size hsz hcell hz) hfl)
  have HCL : Hid (∀ W, Below (w.alloc (.cells #[.string s] 9)).heap.size (w.alloc (.cells #[.string s] 9)) W → W.cell? ⟨w.heap.size, 0, none⟩ = some (.string s)) := Lib.hid (fun W hW => cell_below hW hcell)
  unfold filterL
  clear hv hz hcell hsz hfl
  generalize countB s z xs = b at KO ⊢
  generalize (rdyL xs).filter (fun x => memS s (z x)) = fs at KK ⊢
  generalize rdyL xs = ys at KR KK ⊢
  cases b
  · go_enter Try.func25, Try.ntmps25
    go_wp2_with (first
      | (go_at_call 54; ((with_reducible refine KR.out.mono ?_); rintro e w1 ⟨⟨v1, rfl, hr1⟩, hb1⟩; have HR1 := Lib.hid hr1; have HB1 := Lib.hid hb1; have hc1 := HCL.out _ hb1; clear hr1 hb1))
      | (go_at_call 30; ((with_reducible refine (KO.out _ HB1.out).mono ?_); rintro e w2 ⟨rfl, hb2⟩; have HR2 := Lib.hid (HR1.out.below hb2); have HB2 := Lib.hid (HB1.out.trans (hb2.mono HB1.out.size)); clear hb2)))
    go_ret
    exact ⟨⟨_, rfl, HR2.out⟩, below_allocd HB2.out⟩
  · go_enter Try.func25, Try.ntmps25
    go_wp2_with (first
      | (go_at_call 54; ((with_reducible refine KR.out.mono ?_); rintro e w1 ⟨⟨v1, rfl, hr1⟩, hb1⟩; have HR1 := Lib.hid hr1; have HB1 := Lib.hid hb1; have hc1 := HCL.out _ hb1; clear hr1 hb1))
      | (go_at_call 30; ((with_reducible refine (KO.out _ HB1.out).mono ?_); rintro e w2 ⟨rfl, hb2⟩; have HR2 := Lib.hid (HR1.out.below hb2); have HB2 := Lib.hid (HB1.out.trans (hb2.mono HB1.out.size)); clear hb2))
      | (go_at_call 55; ((with_reducible refine (KK.out _ _ HB2.out HR2.out).mono ?_); rintro e w3 ⟨⟨v3, rfl, hr3⟩, hb3⟩; have HR3 := Lib.hid hr3; have HB3 := Lib.hid (HB2.out.trans (hb3.mono HB2.out.size)); clear hr3 hb3)))
    go_ret
    exact ⟨⟨_, rfl, HR3.out⟩, below_allocd HB3.out⟩
end Go.Proofs.Ytcfgffkjbkpfhaa.Cand
