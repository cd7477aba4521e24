/- slices.Clone, IndexFunc, ContainsFunc, DeleteFunc at candidates. -/
import Derived.Test.YtcfgffkjbkpfhaaCand
import Derived.RangeFuncRecord
import Derived.Lib.LazyBuf
namespace Go.Proofs.Ytcfgffkjbkpfhaa.Cand
open Go.RowKit Go.Proofs.Ytcfgffkjbkpfhaa.Mem Go.Proofs.Ytcfgffkjbkpfhaa.Num Go.Proofs.Ytcfgffkjbkpfhaa.Key
open Go.Proofs.Ytcfgffkjbkpfhaa.Addr hiding below_allocd
set_option linter.unusedVariables false
set_option linter.unusedSimpArgs false
set_option maxRecDepth 100000
attribute [-go_sem] Builtin.append_ loadCells loadCellsFrom storeCells run_eql_struct
theorem infoCd : (Try.prog.info? 44).map (fun i => (i.zero, i.size, i.bytes)) = some (some (.agg cd0.cells.toArray), eCd.sz, 64) := by kernel_rfl
set_option maxHeartbeats 2000000 in
theorem clone_calls (v : Value) (xs : List Cd) (w : World) (hv : Row eCd w v xs) (hl : xs.length ≤ 100000) :
    Calls Try.prog 63 #[v] w fun e w' => (∃ v', e = .returned v' ∧ Own eCd 44 w.heap.size w' v' xs) ∧ Below w.heap.size w w' := by
  obtain ⟨A, c, rfl, hc, hm, hr⟩ := hv.parts
  cases A with
  | none =>
    have h0 : c = 0 := hr.cap.2.2 rfl
    have h1 : xs = [] := List.eq_nil_of_length_eq_zero (by omega)
    subst h1
    subst h0
    have hnil := fun W => Go.run_eql_slice_nil (P := Try.prog) W 22 44 none 0 0 Try.underlying22
    clear hv hr hc hm
    go_enter Try.func63, Try.ntmps63
    go_wp2
    go_returns
    exact ⟨⟨_, rfl, Own.nil _ _ _ _⟩, Below.refl _ _⟩
  | some ad =>
    clear hv
    have HR := Lib.hid hr
    have hnil := fun W => Go.run_eql_slice_nil (P := Try.prog) W 22 44 (some ad) xs.length c Try.underlying22
    clear hr
    go_enter Try.func63, Try.ntmps63
    go_wp2_with (at_builtin; refine wp_append (E := eCd) w.heap.size rfl (.tmp 5) (.tmp 6) 22 44 _ 64 rfl Try.underlying22 infoCd rfl (by decide) _ _ [] xs rfl rfl (Own.lit w w.heap.size eCd 44 [] 0 rfl _ rfl (Nat.le_refl _) (by simp)) (HR.out.alloc _) (by simp) (by simp; omega) ?_; intro v1 w1 ho1 hg1 hat1)
    go_ret
    exact ⟨⟨_, rfl, by simpa using ho1⟩, below_app ((Below.refl _ w).alloc (Nat.le_refl _) _) (by simp) (Own.lit w w.heap.size eCd 44 [] 0 rfl _ rfl (Nat.le_refl _) (by simp)) hg1⟩
/-- What is asked of a predicate: at each candidate of a list, in every world in which all that lay in w lies as it lay. -/
def Pred (g : Nat) (lb : Array Value) (p : Cd → Bool) (xs : List Cd) (w : World) : Prop := ∀ x ∈ xs, ∀ W, Below w.heap.size w W → Calls Try.prog g (#[.agg x.cells.toArray] ++ lb) W fun e w' => e = .returned (.bool (p x)) ∧ Below W.heap.size W w'
/-- Where the first one is of which p holds. -/
def idxN (p : Cd → Bool) : List Cd → Option Nat
  | [] => none
  | x :: r => if p x then some 0 else (idxN p r).map (· + 1)
theorem idxN_step (p : Cd → Bool) (xs : List Cd) (k : Nat) (hk : k < xs.length) : idxN p (xs.drop k) = if p xs[k] then some 0 else (idxN p (xs.drop (k + 1))).map (· + 1) := by
  rw [List.drop_eq_getElem_cons hk]; rfl
theorem idxN_any (p : Cd → Bool) (xs : List Cd) : (idxN p xs).isSome = xs.any p := by
  induction xs with
  | nil => rfl
  | cons x r ih =>
    unfold idxN
    cases h : p x
    · simp [h, ih]
    · simp [h]
theorem idxN_some {p : Cd → Bool} {xs : List Cd} {i : Nat} (h : idxN p xs = some i) : i < xs.length ∧ (xs.take i).filter (fun x => !p x) = xs.take i ∧ (xs.take (i + 1)).filter (fun x => !p x) = xs.take i := by
  induction xs generalizing i with
  | nil => cases h
  | cons x r ih =>
    unfold idxN at h
    split at h
    · rename_i hp
      cases h
      exact ⟨by simp, by simp, by simp [hp]⟩
    · rename_i hp
      obtain ⟨j, hj, rfl⟩ := Option.map_eq_some_iff.1 h
      obtain ⟨h1, h2, h3⟩ := ih hj
      simp only [Bool.not_eq_true] at hp
      refine ⟨by simp; omega, ?_, ?_⟩
      · rw [List.take_succ_cons, List.filter_cons, hp, h2]; rfl
      · rw [List.take_succ_cons, List.filter_cons, hp, h3, List.take_succ_cons]; rfl
theorem idxN_none {p : Cd → Bool} {xs : List Cd} (h : idxN p xs = none) : xs.filter (fun x => !p x) = xs := by
  induction xs with
  | nil => rfl
  | cons x r ih =>
    unfold idxN at h
    split at h
    · cases h
    · rename_i hp
      simp only [Bool.not_eq_true] at hp
      rw [List.filter_cons, hp, ih (by simpa using h)]; rfl
def idxI (o : Option Nat) : Int := match o with
  | none => -1
  | some i => i
set_option maxHeartbeats 2000000 in
theorem index_calls (g : Nat) (lb : Array Value) (p : Cd → Bool) (eg : ∀ args w, (callFunc g args).run Try.prog w = .ok (.enter g args) w) (v : Value) (xs : List Cd) (w0 w : World) (hb : Below w0.heap.size w0 w) (hv : Row eCd w v xs) (hp : Pred g lb p xs w0) :
    Calls Try.prog 65 #[v, .func (.func g) #[] lb] w fun e w' => e = .returned (.int .i64 (idxI (idxN p xs))) ∧ Below w.heap.size w w' := by
  obtain ⟨A, c, rfl, hc, hm, hr⟩ := hv.parts
  have HV := Lib.hid hr
  have HP := Lib.hid hp
  have HB := Lib.hid hb
  have hl : xs.length ≤ 9223372036854775807 := by omega
  obtain ⟨R, hR⟩ : ∃ R, R = idxN p xs := ⟨_, rfl⟩
  rw [← hR]
  have HR := Lib.hid hR
  clear hv hr hp hb hR
  go_enter Try.func65, Try.ntmps65
  go_wp2
  go_loopw [8] (fun iv wr => ∃ k : Nat, k ≤ xs.length ∧ iv = .int .i64 (k : Int) ∧ Hid (R = (idxN p (xs.drop k)).map (· + k)) ∧ Hid (Below w.heap.size w wr)) (fun iv _ => xs.length - (intOf iv).toNat)
  case atStart => exact ⟨0, Nat.zero_le _, rfl, Lib.hid (by rw [HR.out]; simp), Lib.hid (Below.refl _ _)⟩
  case round =>
    obtain ⟨k, hk, rfl, HL, HW⟩ := hrel
    by_cases hlt : k < xs.length
    · obtain ⟨ad, rfl, _⟩ := HV.out.at hlt
      have hld : (loadCells (ad.add (k * 23)) 23).run Try.prog wr = .ok (xs[k].cells).toArray wr := row_load (HV.out.below HW.out) k hlt
      have hcall := HP.out xs[k] (List.getElem_mem hlt) wr (HB.out.trans (HW.out.mono HB.out.size))
      have HS : Hid (R = (if p xs[k] then some 0 else (idxN p (xs.drop (k + 1))).map (· + 1)).map (· + k)) := Lib.hid (by rw [HL.out, idxN_step p xs k hlt])
      generalize xs[k] = x at hld hcall HS
      have hsz : (x.cells.toArray).size = 23 := Cd.len x
      generalize x.cells.toArray = xa at hld hcall hsz
      generalize p x = q at hcall HS
      have HCALL := Lib.hid hcall
      clear hcall
      cases q
      · have HT : Hid (R = (idxN p (xs.drop (k + 1))).map (· + (k + 1))) := Lib.hid (by rw [HS.out]; simp [Option.map_map, Function.comp_def, Nat.add_comm, Nat.add_left_comm])
        go_wp2_with (go_at_fn g; refine HCALL.out.mono ?_; rintro e w3 ⟨rfl, hb3⟩; have HW3 := Lib.hid (HW.out.trans (hb3.mono HW.out.size)); clear hb3)
        go_roundw
        case rel => exact ⟨k + 1, by omega, by go_num, HT, HW3⟩
        case measure => simp [intOf]; omega
      · have HT : Hid (idxI R = (k : Int)) := Lib.hid (by rw [HS.out]; simp [idxI])
        go_wp2_with (go_at_fn g; refine HCALL.out.mono ?_; rintro e w3 ⟨rfl, hb3⟩; have HW3 := Lib.hid (HW.out.trans (hb3.mono HW.out.size)); clear hb3)
        go_ret
        exact ⟨by rw [HT.out]; rfl, HW3.out⟩
    · have HT : Hid (idxI R = -1) := Lib.hid (by rw [HL.out, List.drop_of_length_le (by omega)]; rfl)
      go_wp2
      go_ret
      exact ⟨by rw [HT.out]; rfl, HW.out⟩
theorem contains_calls (g : Nat) (lb : Array Value) (p : Cd → Bool) (eg : ∀ args w, (callFunc g args).run Try.prog w = .ok (.enter g args) w) (v : Value) (xs : List Cd) (w0 w : World) (hb : Below w0.heap.size w0 w) (hv : Row eCd w v xs) (hp : Pred g lb p xs w0) :
    Calls Try.prog 40 #[v, .func (.func g) #[] lb] w fun e w' => e = .returned (.bool (xs.any p)) ∧ Below w.heap.size w w' := by
  have KI := Lib.hid (index_calls g lb p eg v xs w0 w hb hv hp)
  have hd : decide (0 ≤ idxI (idxN p xs)) = (idxN p xs).isSome := by
    cases idxN p xs with
    | none => rfl
    | some i => simp [idxI]
  rw [← idxN_any, ← hd]
  clear hb hv hp eg hd
  generalize idxI (idxN p xs) = I at KI ⊢
  go_enter Try.func40, Try.ntmps40
  go_wp2_with (go_at_call 65; ((with_reducible refine KI.out.mono ?_); rintro e w1 ⟨rfl, hb1⟩))
  go_ret
  exact ⟨rfl, hb1⟩

/-- A block whose first cells are a row. -/
theorem row_blk {wr : World} {g n cap : Nat} {cs : List Value} {ys : List Cd} (h : Blk g cs 44 wr) (hn : ys.length = n) (hc : n ≤ cap) (hm : cap ≤ maxLen) (ht : cs.take (n * 23) = eCd.all ys) : Row eCd wr (.slice (some ⟨g, 0, none⟩) n cap) ys := by
  subst hn
  refine ⟨_, cap, rfl, hc, hm, by simp, fun ad ha j u hu => ?_⟩
  cases ha
  rw [add_zero]
  have hj := (List.getElem?_eq_some_iff.1 hu).1
  rw [eCd.all_len] at hj
  have hj' : j < ys.length * 23 := hj
  refine h.cell j u ?_
  rw [← ht, List.getElem?_take, if_pos hj'] at hu
  exact hu
theorem own_blk {base n cap : Nat} {w : World} {xs : List Cd} {ad : Addr} (h : Own eCd 44 base w (.slice (some ad) n cap) xs) : ∃ g cs, ad = ⟨g, 0, none⟩ ∧ base ≤ g ∧ n = xs.length ∧ n ≤ cap ∧ cap ≤ maxLen ∧ Blk g cs 44 w ∧ cs.length = cap * 23 ∧ cs.take (n * 23) = eCd.all xs := by
  have hr := h.row
  have hn := hr.len
  subst hn
  obtain ⟨h1, h2⟩ := h
  rcases h2 with ⟨h2, _⟩ | ⟨g, cap', cur, he, hg, hh, hn, hm, hs, ht⟩
  · cases h2
  · cases he
    refine ⟨g, cur.toList, rfl, hg, rfl, hn, hm, ?_, ?_, ht⟩
    · unfold Blk; rw [hh]
    · rw [Array.length_toList, hs]; rfl
theorem all_set (ys : List Cd) (i : Nat) (x : Cd) (hi : i < ys.length) : eCd.all (ys.set i x) = splice (eCd.all ys) (i * 23) x.cells := by
  unfold splice
  rw [List.set_eq_take_append_cons_drop, if_pos hi]
  rw [eCd.all_append, show eCd.all (x :: ys.drop (i + 1)) = x.cells ++ eCd.all (ys.drop (i + 1)) from rfl, eCd.all_take, eCd.all_drop, Cd.len]
  rw [show (i + 1) * eCd.sz = i * 23 + 23 by show (i + 1) * 23 = _; omega]
  rfl
theorem splice_take (cs vs : List Value) (o m : Nat) (h : o + vs.length ≤ m) (hm : m ≤ cs.length) : (splice cs o vs).take m = splice (cs.take m) o vs := by
  unfold splice
  have e1 : min o cs.length = o := Nat.min_eq_left (by omega)
  rw [List.take_append, List.take_append, List.length_take, e1, List.take_take, List.take_take, Nat.min_eq_right (show o ≤ m by omega), Nat.min_eq_left (show o ≤ m by omega), List.take_of_length_le (show vs.length ≤ m - o by omega), List.drop_take, show m - o - vs.length = m - (o + vs.length) by omega]
/-- A candidate stored into a row's block. -/
theorem put_cd {P : Program} {wr : World} {g n cap : Nat} {cs : List Value} {ys : List Cd} (h : Blk g cs 44 wr) (hn : ys.length = n) (hc : n ≤ cap) (hl : cs.length = cap * 23) (ht : cs.take (n * 23) = eCd.all ys) (i : Nat) (hi : i < n) (x : Cd) :
    ∃ w1 cs1, (storeCells ((⟨g, 0, none⟩ : Addr).add (i * 23)) x.cells).run P wr = .ok () w1 ∧ Blk g cs1 44 w1 ∧ cs1.length = cap * 23 ∧ cs1.take (n * 23) = eCd.all (ys.set i x) ∧ Alt (fun k => k = g) wr w1 := by
  subst hn
  have hcl := Cd.len x
  have hb1 : i * 23 + x.cells.length ≤ ys.length * 23 := by omega
  have hb2 : ys.length * 23 ≤ cap * 23 := by omega
  have hs := run_storeCells_cells (P := P) g (i * 23) x.cells 0 wr (fun j hj => by simpa using ((h.there (i * 23) x.cells.length (by omega)) j hj).1) (fun j hj => by simpa using ((h.there (i * 23) x.cells.length (by omega)) j hj).2) x.one
  rw [Nat.add_zero] at hs
  obtain ⟨q1, q2⟩ := setCells_heap x.cells (i * 23) h (by omega)
  refine ⟨_, _, by rw [add_zero]; exact hs, q1, ?_, ?_, q2⟩
  · unfold splice
    simp only [List.length_append, List.length_take, List.length_drop]
    omega
  · rw [splice_take _ _ _ _ hb1 (by omega), ht, ← all_set _ _ _ hi]
theorem zeros_len (n : Nat) : (Builtin.zeroCells (Value.agg cd0.cells.toArray).cells n).toList.length = n * 23 := by
  unfold Builtin.zeroCells
  simp only [Array.toList_map, Array.toList_range, List.length_map, List.length_range]
  rfl
theorem zeros_one (n : Nat) : ∀ u ∈ (Builtin.zeroCells (Value.agg cd0.cells.toArray).cells n).toList, u.oneCell' = true := by
  intro u hu
  unfold Builtin.zeroCells at hu
  simp only [Array.toList_map, List.mem_map] at hu
  obtain ⟨i, _, rfl⟩ := hu
  have h23 : (Value.agg cd0.cells.toArray).cells.size = 23 := rfl
  have hlt : i % (Value.agg cd0.cells.toArray).cells.size < (Value.agg cd0.cells.toArray).cells.size := Nat.mod_lt _ (by rw [h23]; decide)
  rw [getElem!_pos (Value.agg cd0.cells.toArray).cells _ hlt]
  refine cd0.one _ ?_
  show (Value.agg cd0.cells.toArray).cells[i % (Value.agg cd0.cells.toArray).cells.size] ∈ cd0.cells
  exact Array.mem_toList_iff.2 (Array.getElem_mem hlt)
/-- 'clear' of a row's end. -/
theorem clear_cd {wr : World} {g n cap i : Nat} {cs : List Value} (h : Blk g cs 44 wr) (hc : n ≤ cap) (hl : cs.length = cap * 23) (hi : i < n) (ty : TypeId) :
    ∃ w1 cs1, (Builtin.clear_ #[22] ty #[.slice (some ((⟨g, 0, none⟩ : Addr).add (i * 23))) (n - i) (cap - i)]).run Try.prog wr = .ok (.tuple #[]) w1 ∧ Blk g cs1 44 w1 ∧ cs1.take (i * 23) = cs.take (i * 23) ∧ Alt (fun k => k = g) wr w1 := by
  have hzl := zeros_len (n - i)
  have hs := run_storeCells_cells (P := Try.prog) g (i * 23) (Builtin.zeroCells (Value.agg cd0.cells.toArray).cells (n - i)).toList 0 wr (fun j hj => by simpa using ((h.there (i * 23) _ (by rw [hzl]; omega)) j hj).1) (fun j hj => by simpa using ((h.there (i * 23) _ (by rw [hzl]; omega)) j hj).2) (zeros_one _)
  rw [Nat.add_zero] at hs
  obtain ⟨q1, q2⟩ := setCells_heap (Builtin.zeroCells (Value.agg cd0.cells.toArray).cells (n - i)).toList (i * 23) h (by rw [hzl]; omega)
  refine ⟨_, _, ?_, q1, ?_, q2⟩
  · have hv : (zeroValue 44).run Try.prog wr = .ok (.agg cd0.cells.toArray) wr := by kernel_rfl
    obtain ⟨m, hm⟩ : ∃ m, n - i = m + 1 := ⟨n - i - 1, by omega⟩
    rw [hm] at hs
    rw [add_zero, hm]
    simp only [Builtin.clear_]
    simp [run_underlying Try.underlying22, hv, hs]
  · unfold splice
    rw [List.take_append_of_le_length (by rw [List.length_take]; omega), List.take_take, Nat.min_self]
end Go.Proofs.Ytcfgffkjbkpfhaa.Cand
