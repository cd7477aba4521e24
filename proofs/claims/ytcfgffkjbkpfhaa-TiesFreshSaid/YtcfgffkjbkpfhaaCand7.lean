/- pick.Usable and pick.Choose. -/
import Derived.Test.YtcfgffkjbkpfhaaCand6
namespace Go.Proofs.Ytcfgffkjbkpfhaa.Cand
open Go.RowKit Go.Proofs.Ytcfgffkjbkpfhaa.Mem Go.Proofs.Ytcfgffkjbkpfhaa.Num Go.Proofs.Ytcfgffkjbkpfhaa.Key
open Go.Proofs.Ytcfgffkjbkpfhaa.Addr hiding below_allocd
set_option linter.unusedVariables false
set_option linter.unusedSimpArgs false
set_option maxRecDepth 100000
attribute [-go_sem] Builtin.append_ loadCells loadCellsFrom storeCells run_eql_struct
theorem leaving_pred (xs : List Cd) (w : World) : Pred 38 #[] (fun x => x.srv && x.trm) xs w := by
  intro x hx W hW
  obtain ⟨_, c1, c2, c3, c4, c5⟩ := boxed W _ x 44 (Below.refl _ _)
  show Calls Try.prog 38 #[.agg x.cells.toArray] W fun e w' => e = .returned (.bool (x.srv && x.trm)) ∧ Below W.heap.size W w'
  generalize x.cells.toArray = xa at c1 c2 c3 c4 c5 ⊢
  generalize x.srv = a at c3 ⊢
  generalize x.trm = b at c4 ⊢
  cases a
  all_goals
    go_enter Try.func38, Try.ntmps38
    go_wp2
    go_ret
    exact ⟨by simp, (Below.refl _ _).alloc (Nat.le_refl _) _⟩
def leavL (xs : List Cd) : List Cd := xs.filter (fun x => x.srv && x.trm)
def usableL (xs : List Cd) : List Cd := if 0 < (rdyL xs).length then rdyL xs else leavL xs
set_option maxHeartbeats 2000000 in
theorem usable_calls (v : Value) (xs : List Cd) (w : World) (hv : Row eCd w v xs) (hl : xs.length ≤ 100000) :
    Calls Try.prog 13 #[v] w fun e w' => (∃ v', e = .returned v' ∧ Row eCd w' v' (usableL xs)) ∧ Below w.heap.size w w' := by
  have KA : Hid (Calls Try.prog 36 #[v, .func (.func 37) #[] #[]] w fun e w' => (∃ v', e = .returned v' ∧ Row eCd w' v' (rdyL xs)) ∧ Below w.heap.size w w') := Lib.hid (those_calls 37 #[] (fun x => x.rdy) (enters_of Try.func37 (by kernel_rfl) rfl) v xs w w (Below.refl _ _) hv (pready_pred xs w) hl)
  have KB : Hid (∀ W, Below w.heap.size w W → Calls Try.prog 36 #[v, .func (.func 38) #[] #[]] W fun e w' => (∃ v', e = .returned v' ∧ Row eCd w' v' (leavL xs)) ∧ Below W.heap.size W w') := Lib.hid (fun W hW => those_calls 38 #[] (fun x => x.srv && x.trm) (enters_of Try.func38 (by kernel_rfl) rfl) v xs W W (Below.refl _ _) (hv.below hW) (leaving_pred xs W) hl)
  have hrl : (rdyL xs).length ≤ 100000 := Nat.le_trans (List.length_filter_le _ _) hl
  unfold usableL
  clear hv
  generalize leavL xs = ls at KB ⊢
  generalize rdyL xs = rs at KA hrl ⊢
  by_cases h0 : 0 < rs.length
  · rw [if_pos h0]
    have h0' : (0 : Int) < (rs.length : Int) := by omega
    go_enter Try.func13, Try.ntmps13
    go_wp2_with (go_at_call 36; ((with_reducible refine KA.out.mono ?_); rintro e w1 ⟨⟨v1, rfl, hr1⟩, hb1⟩; obtain ⟨A1, c1, rfl, _, _, hr1⟩ := hr1.parts; have HR1 := Lib.hid hr1; have HB1 := Lib.hid hb1; clear hr1 hb1))
    go_ret
    exact ⟨⟨_, rfl, HR1.out⟩, HB1.out⟩
  · rw [if_neg h0]
    have h0' : ¬ (0 : Int) < (rs.length : Int) := by omega
    have tok1 : True := trivial
    go_enter Try.func13, Try.ntmps13
    go_wp2_with (first
      | (go_at_call 36; have _t := tok1; ((with_reducible refine KA.out.mono ?_); rintro e w1 ⟨⟨v1, rfl, hr1⟩, hb1⟩; obtain ⟨A1, c1, rfl, _, _, hr1⟩ := hr1.parts; have HB1 := Lib.hid hb1; clear hr1 hb1; clear tok1))
      | (go_at_call 36; ((with_reducible refine (KB.out _ HB1.out).mono ?_); rintro e w2 ⟨⟨v2, rfl, hr2⟩, hb2⟩; have HR2 := Lib.hid hr2; have HB2 := Lib.hid (HB1.out.trans (hb2.mono HB1.out.size)); clear hr2 hb2)))
    go_ret
    exact ⟨⟨_, rfl, HR2.out⟩, HB2.out⟩
/-- A want. -/
abbrev wtV (name : ByteArray) (proto : Int) (six loc hint : Bool) (node zone : ByteArray) : Value := .agg #[.string name, .int .i64 proto, .bool six, .bool loc, .bool hint, .string node, .string zone]
def chooseL (loc hint : Bool) (zone : ByteArray) (z : Cd → List ByteArray) (xs : List Cd) : List Cd := if loc then usableL (xs.filter (fun x => x.loc)) else if hint && xs.any (fun x => x.rdy) then filterL zone z xs else usableL xs
set_option maxHeartbeats 2000000 in
theorem choose_calls (v : Value) (name : ByteArray) (proto : Int) (six loc hint : Bool) (node zone : ByteArray) (xs : List Cd) (z : Cd → List ByteArray) (w : World) (hv : Cands w v xs z) (hl : xs.length ≤ 100000) :
    Calls Try.prog 15 #[v, wtV name proto six loc hint node zone] w fun e w' => (∃ v', e = .returned v' ∧ Row eCd w' v' (chooseL loc hint zone z xs)) ∧ Below w.heap.size w w' := by
  have hfl : (xs.filter (fun x => x.loc)).length ≤ 100000 := Nat.le_trans (List.length_filter_le _ _) hl
  have KL : Hid (∀ W, Below w.heap.size w W → Calls Try.prog 36 #[v, .func (.func 39) #[] #[]] W fun e w' => (∃ v', e = .returned v' ∧ Row eCd w' v' (xs.filter (fun x => x.loc))) ∧ Below W.heap.size W w') := Lib.hid (fun W hW => those_calls 39 #[] (fun x => x.loc) (enters_of Try.func39 (by kernel_rfl) rfl) v xs W W (Below.refl _ _) (hv.1.below hW) (plocal_pred xs W) hl)
  have KU : Hid (∀ v' W, Row eCd W v' (xs.filter (fun x => x.loc)) → Calls Try.prog 13 #[v'] W fun e w' => (∃ v2, e = .returned v2 ∧ Row eCd w' v2 (usableL (xs.filter (fun x => x.loc)))) ∧ Below W.heap.size W w') := Lib.hid (fun v' W hr => usable_calls v' _ W hr hfl)
  have KV : Hid (∀ W, Below w.heap.size w W → Calls Try.prog 13 #[v] W fun e w' => (∃ v2, e = .returned v2 ∧ Row eCd w' v2 (usableL xs)) ∧ Below W.heap.size W w') := Lib.hid (fun W hW => usable_calls v _ W (hv.1.below hW) hl)
  have KC : Hid (∀ W, Below w.heap.size w W → Calls Try.prog 40 #[v, .func (.func 37) #[] #[]] W fun e w' => e = .returned (.bool (xs.any (fun x => x.rdy))) ∧ Below W.heap.size W w') := Lib.hid (fun W hW => contains_calls 37 #[] (fun x => x.rdy) (enters_of Try.func37 (by kernel_rfl) rfl) v xs W W (Below.refl _ _) (hv.1.below hW) (pready_pred xs W))
  have KF : Hid (∀ W, Below w.heap.size w W → Calls Try.prog 25 #[v, .string zone] W fun e w' => (∃ v2, e = .returned v2 ∧ Row eCd w' v2 (filterL zone z xs)) ∧ Below W.heap.size W w') := Lib.hid (fun W hW => filter_calls v zone xs z W (hv.below hW) hl)
  have HN : Hid (∀ o, Below w.heap.size w (w.alloc o)) := Lib.hid (fun o => (Below.refl _ _).alloc (Nat.le_refl _) o)
  have HCL : Hid (∀ W W' a x, Below W.heap.size W W' → W.cell? a = some x → W'.cell? a = some x) := Lib.hid (fun W W' a x h hc => cell_below h hc)
  unfold chooseL
  clear hv hfl
  generalize xs.any (fun x => x.rdy) = b at KC ⊢
  generalize usableL (xs.filter (fun x => x.loc)) = r1 at KU ⊢
  generalize xs.filter (fun x => x.loc) = r0 at KL KU
  generalize usableL xs = r2 at KV ⊢
  generalize filterL zone z xs = r3 at KF ⊢
  cases loc
  · cases hint
    · go_enter Try.func15, Try.ntmps15
      go_wp2_with (go_at_call 13; ((with_reducible refine (KV.out _ (HN.out _)).mono ?_); rintro e w1 ⟨⟨v1, rfl, hr1⟩, hb1⟩; have HR1 := Lib.hid hr1; have HB1 := Lib.hid hb1; clear hr1 hb1))
      go_ret
      exact ⟨⟨_, rfl, HR1.out⟩, below_allocd HB1.out⟩
    · cases b
      · go_enter Try.func15, Try.ntmps15
        go_wp2_with (first
          | (go_at_call 40; ((with_reducible refine (KC.out _ (HN.out _)).mono ?_); rintro e w1 ⟨rfl, hb1⟩; have HB1 := Lib.hid hb1; clear hb1))
          | (go_at_call 13; ((with_reducible refine (KV.out _ (below_allocd HB1.out)).mono ?_); rintro e w2 ⟨⟨v2, rfl, hr2⟩, hb2⟩; have HR2 := Lib.hid hr2; have HB2 := Lib.hid (HB1.out.trans (hb2.mono HB1.out.size)); clear hr2 hb2)))
        go_ret
        exact ⟨⟨_, rfl, HR2.out⟩, below_allocd HB2.out⟩
      · have hc0 := (Blk.new w [.string name, .int .i64 proto, .bool six, .bool false, .bool true, .string node, .string zone] #[.string name, .int .i64 proto, .bool six, .bool false, .bool true, .string node, .string zone] 24 _ rfl rfl).cell 6 _ rfl
        go_enter Try.func15, Try.ntmps15
        go_wp2_with (first
          | (go_at_call 40; ((with_reducible refine (KC.out _ (HN.out _)).mono ?_); rintro e w1 ⟨rfl, hb1⟩; have HB1 := Lib.hid hb1; have hc1 := HCL.out _ _ _ _ hb1 hc0; clear hb1))
          | (go_at_call 25; ((with_reducible refine (KF.out _ (below_allocd HB1.out)).mono ?_); rintro e w2 ⟨⟨v2, rfl, hr2⟩, hb2⟩; have HR2 := Lib.hid hr2; have HB2 := Lib.hid (HB1.out.trans (hb2.mono HB1.out.size)); clear hr2 hb2)))
        go_ret
        exact ⟨⟨_, rfl, HR2.out⟩, below_allocd HB2.out⟩
  · go_enter Try.func15, Try.ntmps15
    go_wp2_with (first
      | (go_at_call 36; ((with_reducible refine (KL.out _ (HN.out _)).mono ?_); rintro e w1 ⟨⟨v1, rfl, hr1⟩, hb1⟩; have HR1 := Lib.hid hr1; have HB1 := Lib.hid hb1; clear hr1 hb1))
      | (go_at_call 13; ((with_reducible refine (KU.out _ _ HR1.out).mono ?_); rintro e w2 ⟨⟨v2, rfl, hr2⟩, hb2⟩; have HR2 := Lib.hid hr2; have HB2 := Lib.hid (HB1.out.trans (hb2.mono HB1.out.size)); clear hr2 hb2)))
    go_ret
    exact ⟨⟨_, rfl, HR2.out⟩, below_allocd HB2.out⟩
end Go.Proofs.Ytcfgffkjbkpfhaa.Cand
