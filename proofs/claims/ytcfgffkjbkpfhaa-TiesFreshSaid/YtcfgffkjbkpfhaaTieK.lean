/- linkboylaw31.Long; the law TiesFresh. -/
import Derived.Test.YtcfgffkjbkpfhaaTieJ
import Derived.DeepKeys4
import Derived.Maps.OwnSet
import Derived.Maps.OwnOps
import Derived.Maps.Views
namespace Go.Proofs.Ytcfgffkjbkpfhaa.Tie
open Go.RowKit Go.Proofs.Ytcfgffkjbkpfhaa.Mem Go.Proofs.Ytcfgffkjbkpfhaa.Num Go.Proofs.Ytcfgffkjbkpfhaa.Key
open Go.Proofs.Ytcfgffkjbkpfhaa.Addr hiding below_allocd
open Go.Maps
set_option linter.unusedVariables false
set_option linter.unusedSimpArgs false
set_option maxRecDepth 100000
attribute [-go_sem] Builtin.append_ loadCells loadCellsFrom storeCells run_eql_struct
def Ti.act (t : Ti) : List Value := [.int .i64 0, .int .i64 0, .int .i64 0] ++ t.cells
theorem Ti.act_len (t : Ti) : t.act.length = 43 := by unfold Ti.act; rw [List.length_append, t.len]; rfl
theorem Ti.act_one (t : Ti) : ∀ u ∈ t.act, u.oneCell' = true := by
  intro u hu
  unfold Ti.act at hu
  simp only [List.mem_append, List.mem_cons, List.not_mem_nil, or_false] at hu
  rcases hu with (rfl | rfl | rfl) | hu <;> first | rfl | exact t.one _ hu
def eAct : Enc Ti := ⟨Ti.act, 43, Ti.act_len, Ti.act_one, by decide⟩
theorem Ti.act_at (t : Ti) : t.act[20]? = some (.string t.sp) ∧ t.act[21]? = some (.string t.sn) ∧ t.act[22]? = some (.string t.nm) := by
  unfold Ti.act
  refine ⟨?_, ?_, ?_⟩ <;> rw [List.getElem?_append_right (by simp)]
  · exact t.at.1
  · exact t.at.2.1
  · exact t.at.2.2.1
def longT (t : Ti) : Bool := decide ((100 : Int) < (t.nm.size : Int)) || (decide ((100 : Int) < (t.sp.size : Int)) || decide ((100 : Int) < (t.sn.size : Int)))
theorem anyT_step (xs : List Ti) (p : Ti → Bool) (k : Nat) (hk : k < xs.length) : (xs.drop k).any p = (p xs[k] || (xs.drop (k + 1)).any p) := by
  rw [List.drop_eq_getElem_cons hk]; rfl
theorem row_loadT {P : Program} {w : World} {ad : Addr} {n c : Nat} {xs : List Ti} (h : Row eAct w (.slice (some ad) n c) xs) (k : Nat) (hk : k < xs.length) :
    (loadCells (ad.add (k * 43)) 43).run P w = .ok xs[k].act.toArray w := by
  have := run_loadCells_list (P := P) w (ad.add (k * 43)) xs[k].act (fun j v hv => by
    have hj : j < 43 := by have := (List.getElem?_eq_some_iff.1 hv).1; rwa [Ti.act_len] at this
    rw [add_add]
    refine h.cells ad rfl _ _ ?_
    rw [show k * 43 + j = k * eAct.sz + j from rfl, eAct.all_get xs k j hk hj]; exact hv)
  rwa [Ti.act_len] at this
set_option maxHeartbeats 2000000 in
theorem longt_calls (v : Value) (xs : List Ti) (w : World) (hv : Row eAct w v xs) (hl : xs.length ≤ 60) (hs : ∀ t ∈ xs, t.nm.size ≤ maxLen ∧ t.sp.size ≤ maxLen ∧ t.sn.size ≤ maxLen) :
    Calls Try.prog 19 #[v] w fun e w' => e = .returned (.bool (xs.any longT)) ∧ Below w.heap.size w w' := by
  obtain ⟨A, c, rfl, _, _, hr⟩ := hv.parts
  have HV : Hid (∀ W, Below w.heap.size w W → Row eAct W (.slice A xs.length c) xs) := Lib.hid (fun W hW => hr.below hW)
  have HBX : Hid (∀ (W : World) (x : Ti), ∃ w2, (storeCells ⟨W.heap.size, 0, none⟩ x.act).run Try.prog (W.alloc (.cells #[.int .i64 0, .int .i64 0, .int .i64 0, .bool false, .int .u8 0, .int .u8 0, .int .u8 0, .int .u8 0, .int .u8 0, .int .u8 0, .int .u8 0, .int .u8 0, .int .u8 0, .int .u8 0, .int .u8 0, .int .u8 0, .int .u8 0, .int .u8 0, .int .u8 0, .int .u8 0, .string ⟨#[]⟩, .string ⟨#[]⟩, .string ⟨#[]⟩, .bool false, .bool false, .int .u8 0, .int .u8 0, .int .u8 0, .int .u8 0, .int .u8 0, .int .u8 0, .int .u8 0, .int .u8 0, .int .u8 0, .int .u8 0, .int .u8 0, .int .u8 0, .int .u8 0, .int .u8 0, .int .u8 0, .int .u8 0, .int .i64 0, .int .i64 0] 53)) = .ok () w2 ∧ Blk W.heap.size x.act 53 w2 ∧ Below W.heap.size W w2) := Lib.hid (fun W x => by
    obtain ⟨w2, q0, q1, q2⟩ := store_all (P := Try.prog) (Blk.new W [.int .i64 0, .int .i64 0, .int .i64 0, .bool false, .int .u8 0, .int .u8 0, .int .u8 0, .int .u8 0, .int .u8 0, .int .u8 0, .int .u8 0, .int .u8 0, .int .u8 0, .int .u8 0, .int .u8 0, .int .u8 0, .int .u8 0, .int .u8 0, .int .u8 0, .int .u8 0, .string ⟨#[]⟩, .string ⟨#[]⟩, .string ⟨#[]⟩, .bool false, .bool false, .int .u8 0, .int .u8 0, .int .u8 0, .int .u8 0, .int .u8 0, .int .u8 0, .int .u8 0, .int .u8 0, .int .u8 0, .int .u8 0, .int .u8 0, .int .u8 0, .int .u8 0, .int .u8 0, .int .u8 0, .int .u8 0, .int .i64 0, .int .i64 0] _ 53 _ rfl rfl) (by rw [x.act_len]; rfl) x.act_one
    exact ⟨w2, q0, q1, below_alt ((Below.refl _ W).alloc (Nat.le_refl _) _) q2 (by simp) (fun k hk => by omega)⟩)
  have hl2 : xs.length ≤ 9223372036854775807 := by omega
  have h60 : ¬ (60 : Int) < (xs.length : Int) := by omega
  have HSZ := Lib.hid hs
  obtain ⟨b, hb⟩ : ∃ b, b = xs.any longT := ⟨_, rfl⟩
  rw [← hb]
  have HB := Lib.hid hb
  clear hv hr hb hs hl
  go_enter Try.func19, Try.ntmps19
  go_wp2
  go_loopw [10] (fun iv wr => ∃ k : Nat, k ≤ xs.length ∧ iv = .int .i64 (k : Int) ∧ Hid (b = (xs.drop k).any longT) ∧ Hid (Below w.heap.size w wr)) (fun iv _ => xs.length - (intOf iv).toNat)
  case atStart => exact ⟨0, Nat.zero_le _, rfl, HB, Lib.hid (Below.refl _ _)⟩
  case round =>
    obtain ⟨k, hk, rfl, HL, HW⟩ := hrel
    by_cases hlt : k < xs.length
    · obtain ⟨ad, rfl, _⟩ := (HV.out _ HW.out).at hlt
      have hld : (loadCells (ad.add (k * 43)) 43).run Try.prog wr = .ok (xs[k].act).toArray wr := row_loadT (HV.out _ HW.out) k hlt
      have HS := Lib.hid (HL.out.trans (anyT_step xs longT k hlt))
      obtain ⟨z1, z2, z3⟩ := HSZ.out xs[k] (List.getElem_mem hlt)
      generalize xs[k] = x at hld HS z1 z2 z3
      obtain ⟨w2, s2, k2, b2⟩ := HBX.out wr x
      have c1 : w2.cell? ⟨wr.heap.size, 20, none⟩ = some (.string x.sp) := k2.cell 20 _ x.act_at.1
      have c2 : w2.cell? ⟨wr.heap.size, 21, none⟩ = some (.string x.sn) := k2.cell 21 _ x.act_at.2.1
      have c3 : w2.cell? ⟨wr.heap.size, 22, none⟩ = some (.string x.nm) := k2.cell 22 _ x.act_at.2.2
      have HB2 := Lib.hid (HW.out.trans (b2.mono HW.out.size))
      have hsl : (x.act.toArray).toList = x.act := rfl
      have hsz : (x.act.toArray).size = 43 := x.act_len
      unfold maxLen at z1 z2 z3
      clear k2 b2
      unfold longT at HS
      generalize x.act.toArray = xa at hld hsl hsz
      by_cases h1 : (100 : Int) < (x.nm.size : Int)
      · have HT : Hid (b = true) := Lib.hid (by rw [HS.out, decide_eq_true h1]; rfl)
        go_wp2
        go_ret
        exact ⟨by rw [HT.out]; rfl, HB2.out⟩
      · by_cases h2 : (100 : Int) < (x.sp.size : Int)
        · have HT : Hid (b = true) := Lib.hid (by rw [HS.out, decide_eq_true h2]; simp)
          go_wp2
          go_ret
          exact ⟨by rw [HT.out]; rfl, HB2.out⟩
        · by_cases h3 : (100 : Int) < (x.sn.size : Int)
          · have HT : Hid (b = true) := Lib.hid (by rw [HS.out, decide_eq_true h3]; simp)
            go_wp2
            go_ret
            exact ⟨by rw [HT.out]; rfl, HB2.out⟩
          · have HT : Hid (b = (xs.drop (k + 1)).any longT) := Lib.hid (by rw [HS.out, decide_eq_false h1, decide_eq_false h2, decide_eq_false h3]; simp only [Bool.false_or]; rfl)
            go_wp2
            go_roundw
            case rel => exact ⟨k + 1, by omega, by go_num, HT, HB2⟩
            case measure => simp [intOf]; omega
    · have HT : Hid (b = false) := Lib.hid (by rw [HL.out, List.drop_of_length_le (by omega)]; rfl)
      go_wp2
      go_ret
      exact ⟨by rw [HT.out]; rfl, HW.out⟩
theorem fold_off (o : Nat) (l : List Value) : ∀ (a : Array Value) (k : Nat), o + k + l.length ≤ a.size → (l.zipIdx k).foldl (fun cs x => cs.setIfInBounds (o + x.2) x.1) a = (a.toList.take (o + k) ++ l ++ a.toList.drop (o + k + l.length)).toArray := by
  induction l with
  | nil =>
    intro a k h
    simp
  | cons v l ih =>
    intro a k h
    have ho : o + k < a.toList.length := by simp at h ⊢; omega
    rw [List.zipIdx_cons, List.foldl_cons, ih _ (k + 1) (by simp at h ⊢; omega)]
    congr 1
    rw [show o + (k + 1) = o + k + 1 by omega, Array.toList_setIfInBounds, List.take_succ_eq_append_getElem (by simpa using ho), List.take_set, List.set_eq_of_length_le (by rw [List.length_take]; omega), List.drop_set, if_pos (by omega)]
    simp
    congr 1
    omega
theorem afold_off (o n : Nat) (vs a : Array Value) (hn : vs.size = n) (h : o + n ≤ a.size) : Array.foldl (fun cs x => cs.setIfInBounds (o + x.snd) x.fst) a vs.zipIdx 0 n = (a.toList.take o ++ vs.toList ++ a.toList.drop (o + n)).toArray := by
  subst hn
  have hz : vs.zipIdx.size = vs.size := Array.size_zipIdx
  have := fold_off o vs.toList a 0 (by simpa using h)
  conv => lhs; rw [← hz]
  rw [← Array.foldl_toList, Array.toList_zipIdx]
  refine this.trans ?_
  simp
theorem afold_set (n : Nat) (vs a : Array Value) (hn : vs.size = n) (h : n ≤ a.size) : Array.foldl (fun cs x => cs.setIfInBounds x.snd x.fst) a vs.zipIdx 0 n = (vs.toList ++ a.toList.drop n).toArray := by
  subst hn
  have hz : vs.zipIdx.size = vs.size := Array.size_zipIdx
  have := fold_set2 vs.toList a 0 (by simpa using h)
  conv => lhs; rw [← hz]
  rw [← Array.foldl_toList, Array.toList_zipIdx]
  refine this.trans ?_
  simp
theorem act_fold (t : Ti) : Array.foldl (fun cs x => cs.setIfInBounds (3 + x.snd) x.fst) #[.int .i64 0, .int .i64 0, .int .i64 0, .bool false, .int .u8 0, .int .u8 0, .int .u8 0, .int .u8 0, .int .u8 0, .int .u8 0, .int .u8 0, .int .u8 0, .int .u8 0, .int .u8 0, .int .u8 0, .int .u8 0, .int .u8 0, .int .u8 0, .int .u8 0, .int .u8 0, .string ⟨#[]⟩, .string ⟨#[]⟩, .string ⟨#[]⟩, .bool false, .bool false, .int .u8 0, .int .u8 0, .int .u8 0, .int .u8 0, .int .u8 0, .int .u8 0, .int .u8 0, .int .u8 0, .int .u8 0, .int .u8 0, .int .u8 0, .int .u8 0, .int .u8 0, .int .u8 0, .int .u8 0, .int .u8 0, .int .i64 0, .int .i64 0] t.A.zipIdx 0 40 = t.act.toArray := by
  rw [afold_off 3 40 t.A #[.int .i64 0, .int .i64 0, .int .i64 0, .bool false, .int .u8 0, .int .u8 0, .int .u8 0, .int .u8 0, .int .u8 0, .int .u8 0, .int .u8 0, .int .u8 0, .int .u8 0, .int .u8 0, .int .u8 0, .int .u8 0, .int .u8 0, .int .u8 0, .int .u8 0, .int .u8 0, .string ⟨#[]⟩, .string ⟨#[]⟩, .string ⟨#[]⟩, .bool false, .bool false, .int .u8 0, .int .u8 0, .int .u8 0, .int .u8 0, .int .u8 0, .int .u8 0, .int .u8 0, .int .u8 0, .int .u8 0, .int .u8 0, .int .u8 0, .int .u8 0, .int .u8 0, .int .u8 0, .int .u8 0, .int .u8 0, .int .i64 0, .int .i64 0] t.sz (by decide)]
  have e : t.A.toList = t.cells := rfl
  rw [e]
  show (([.int .i64 0, .int .i64 0, .int .i64 0] : List Value) ++ t.cells ++ []).toArray = _
  rw [List.append_nil]; rfl
theorem acts_fold (t u : Ti) : ∃ mid : Array Value, mid.size = 86 ∧ Array.foldl (fun cs x => cs.setIfInBounds x.snd x.fst) #[.int .i64 0, .int .i64 0, .int .i64 0, .bool false, .int .u8 0, .int .u8 0, .int .u8 0, .int .u8 0, .int .u8 0, .int .u8 0, .int .u8 0, .int .u8 0, .int .u8 0, .int .u8 0, .int .u8 0, .int .u8 0, .int .u8 0, .int .u8 0, .int .u8 0, .int .u8 0, .string ⟨#[]⟩, .string ⟨#[]⟩, .string ⟨#[]⟩, .bool false, .bool false, .int .u8 0, .int .u8 0, .int .u8 0, .int .u8 0, .int .u8 0, .int .u8 0, .int .u8 0, .int .u8 0, .int .u8 0, .int .u8 0, .int .u8 0, .int .u8 0, .int .u8 0, .int .u8 0, .int .u8 0, .int .u8 0, .int .i64 0, .int .i64 0, .int .i64 0, .int .i64 0, .int .i64 0, .bool false, .int .u8 0, .int .u8 0, .int .u8 0, .int .u8 0, .int .u8 0, .int .u8 0, .int .u8 0, .int .u8 0, .int .u8 0, .int .u8 0, .int .u8 0, .int .u8 0, .int .u8 0, .int .u8 0, .int .u8 0, .int .u8 0, .string ⟨#[]⟩, .string ⟨#[]⟩, .string ⟨#[]⟩, .bool false, .bool false, .int .u8 0, .int .u8 0, .int .u8 0, .int .u8 0, .int .u8 0, .int .u8 0, .int .u8 0, .int .u8 0, .int .u8 0, .int .u8 0, .int .u8 0, .int .u8 0, .int .u8 0, .int .u8 0, .int .u8 0, .int .u8 0, .int .i64 0, .int .i64 0] t.act.toArray.zipIdx 0 43 = mid ∧ Array.foldl (fun cs x => cs.setIfInBounds (43 + x.snd) x.fst) mid u.act.toArray.zipIdx 0 43 = (eAct.all [t, u]).toArray := by
  have hm : (t.act ++ ([.int .i64 0, .int .i64 0, .int .i64 0, .bool false, .int .u8 0, .int .u8 0, .int .u8 0, .int .u8 0, .int .u8 0, .int .u8 0, .int .u8 0, .int .u8 0, .int .u8 0, .int .u8 0, .int .u8 0, .int .u8 0, .int .u8 0, .int .u8 0, .int .u8 0, .int .u8 0, .string ⟨#[]⟩, .string ⟨#[]⟩, .string ⟨#[]⟩, .bool false, .bool false, .int .u8 0, .int .u8 0, .int .u8 0, .int .u8 0, .int .u8 0, .int .u8 0, .int .u8 0, .int .u8 0, .int .u8 0, .int .u8 0, .int .u8 0, .int .u8 0, .int .u8 0, .int .u8 0, .int .u8 0, .int .u8 0, .int .i64 0, .int .i64 0] : List Value)).length = 86 := by rw [List.length_append, t.act_len]; rfl
  refine ⟨(t.act ++ ([.int .i64 0, .int .i64 0, .int .i64 0, .bool false, .int .u8 0, .int .u8 0, .int .u8 0, .int .u8 0, .int .u8 0, .int .u8 0, .int .u8 0, .int .u8 0, .int .u8 0, .int .u8 0, .int .u8 0, .int .u8 0, .int .u8 0, .int .u8 0, .int .u8 0, .int .u8 0, .string ⟨#[]⟩, .string ⟨#[]⟩, .string ⟨#[]⟩, .bool false, .bool false, .int .u8 0, .int .u8 0, .int .u8 0, .int .u8 0, .int .u8 0, .int .u8 0, .int .u8 0, .int .u8 0, .int .u8 0, .int .u8 0, .int .u8 0, .int .u8 0, .int .u8 0, .int .u8 0, .int .u8 0, .int .u8 0, .int .i64 0, .int .i64 0] : List Value)).toArray, hm, ?_, ?_⟩
  · rw [afold_set 43 t.act.toArray #[.int .i64 0, .int .i64 0, .int .i64 0, .bool false, .int .u8 0, .int .u8 0, .int .u8 0, .int .u8 0, .int .u8 0, .int .u8 0, .int .u8 0, .int .u8 0, .int .u8 0, .int .u8 0, .int .u8 0, .int .u8 0, .int .u8 0, .int .u8 0, .int .u8 0, .int .u8 0, .string ⟨#[]⟩, .string ⟨#[]⟩, .string ⟨#[]⟩, .bool false, .bool false, .int .u8 0, .int .u8 0, .int .u8 0, .int .u8 0, .int .u8 0, .int .u8 0, .int .u8 0, .int .u8 0, .int .u8 0, .int .u8 0, .int .u8 0, .int .u8 0, .int .u8 0, .int .u8 0, .int .u8 0, .int .u8 0, .int .i64 0, .int .i64 0, .int .i64 0, .int .i64 0, .int .i64 0, .bool false, .int .u8 0, .int .u8 0, .int .u8 0, .int .u8 0, .int .u8 0, .int .u8 0, .int .u8 0, .int .u8 0, .int .u8 0, .int .u8 0, .int .u8 0, .int .u8 0, .int .u8 0, .int .u8 0, .int .u8 0, .int .u8 0, .string ⟨#[]⟩, .string ⟨#[]⟩, .string ⟨#[]⟩, .bool false, .bool false, .int .u8 0, .int .u8 0, .int .u8 0, .int .u8 0, .int .u8 0, .int .u8 0, .int .u8 0, .int .u8 0, .int .u8 0, .int .u8 0, .int .u8 0, .int .u8 0, .int .u8 0, .int .u8 0, .int .u8 0, .int .u8 0, .int .i64 0, .int .i64 0] t.act_len (by decide)]
    rfl
  · rw [afold_off 43 43 u.act.toArray _ u.act_len (by show 86 ≤ _; exact Nat.le_of_eq hm.symm)]
    show (List.take 43 (t.act ++ ([.int .i64 0, .int .i64 0, .int .i64 0, .bool false, .int .u8 0, .int .u8 0, .int .u8 0, .int .u8 0, .int .u8 0, .int .u8 0, .int .u8 0, .int .u8 0, .int .u8 0, .int .u8 0, .int .u8 0, .int .u8 0, .int .u8 0, .int .u8 0, .int .u8 0, .int .u8 0, .string ⟨#[]⟩, .string ⟨#[]⟩, .string ⟨#[]⟩, .bool false, .bool false, .int .u8 0, .int .u8 0, .int .u8 0, .int .u8 0, .int .u8 0, .int .u8 0, .int .u8 0, .int .u8 0, .int .u8 0, .int .u8 0, .int .u8 0, .int .u8 0, .int .u8 0, .int .u8 0, .int .u8 0, .int .u8 0, .int .i64 0, .int .i64 0] : List Value)) ++ u.act ++ List.drop 86 (t.act ++ ([.int .i64 0, .int .i64 0, .int .i64 0, .bool false, .int .u8 0, .int .u8 0, .int .u8 0, .int .u8 0, .int .u8 0, .int .u8 0, .int .u8 0, .int .u8 0, .int .u8 0, .int .u8 0, .int .u8 0, .int .u8 0, .int .u8 0, .int .u8 0, .int .u8 0, .int .u8 0, .string ⟨#[]⟩, .string ⟨#[]⟩, .string ⟨#[]⟩, .bool false, .bool false, .int .u8 0, .int .u8 0, .int .u8 0, .int .u8 0, .int .u8 0, .int .u8 0, .int .u8 0, .int .u8 0, .int .u8 0, .int .u8 0, .int .u8 0, .int .u8 0, .int .u8 0, .int .u8 0, .int .u8 0, .int .u8 0, .int .i64 0, .int .i64 0] : List Value))).toArray = (t.act ++ (u.act ++ [])).toArray
    rw [List.take_append_of_le_length (by rw [t.act_len]; decide), List.take_of_length_le (by rw [t.act_len]; decide), List.drop_of_length_le (by rw [hm]; decide), List.append_assoc]
set_option maxHeartbeats 8000000 in
theorem fresh_law (t u : Ti) (a0 a1 : Int) (h0 : InI64 a0) (h1 : InI64 a1) (ht : t.nm.size ≤ maxLen ∧ t.sp.size ≤ maxLen ∧ t.sn.size ≤ maxLen) (hu : u.nm.size ≤ maxLen ∧ u.sp.size ≤ maxLen ∧ u.sn.size ≤ maxLen) (w : World) :
    Calls Try.prog 5 #[t.V, u.V, .agg #[.int .i64 a0, .int .i64 a1]] w fun e w' => e = .returned (.bool true) ∧ Below w.heap.size w w' := by
  have hmx : Try.prog.follows .mixedOrders = true := by kernel_rfl
  obtain ⟨W3, hW3⟩ : ∃ W3, W3 = ((w.alloc (.cells t.A 49)).alloc (.cells u.A 49)).alloc (.cells #[.int .i64 a0, .int .i64 a1] 50) := ⟨_, rfl⟩
  have hB : Below w.heap.size w W3 := by rw [hW3]; exact (((Below.refl _ _).alloc (Nat.le_refl _) _).alloc (by simp) _).alloc (by simp; omega) _
  have hk1 : Blk w.heap.size t.cells 49 W3 := by rw [hW3]; exact ((Blk.new w _ _ _ _ rfl rfl).alloc _).alloc _
  have hk2 : Blk (w.heap.size + 1) u.cells 49 W3 := by rw [hW3]; exact (Blk.new _ _ _ _ _ rfl (by simp)).alloc _
  have hk3 : Blk (w.heap.size + 1 + 1) [.int .i64 a0, .int .i64 a1] 50 W3 := by rw [hW3]; exact Blk.new _ _ _ _ _ rfl (by simp)
  have HS : Hid (∀ W, Below W3.heap.size W3 W → (loadCells ⟨w.heap.size, 0, none⟩ 40).run Try.prog W = .ok t.A W ∧ (loadCells ⟨w.heap.size + 1, 0, none⟩ 40).run Try.prog W = .ok u.A W ∧ W.cell? ⟨w.heap.size + 1 + 1, 0, none⟩ = some (.int .i64 a0) ∧ W.cell? ⟨w.heap.size + 1 + 1, 1, none⟩ = some (.int .i64 a1)) := Lib.hid (fun W hW => ⟨(Ti.box (hk1.below hW)).2.2.2.2.2.2, (Ti.box (hk2.below hW)).2.2.2.2.2.2, (hk3.below hW).cell 0 _ rfl, (hk3.below hW).cell 1 _ rfl⟩)
  have KA : Hid (Calls Try.prog 18 #[] W3 fun e w' => e = .returned (.bool true) ∧ Below W3.heap.size W3 w') := Lib.hid (alive31_calls W3)
  have HB := Lib.hid hB
  have HW := Lib.hid hW3
  have KL : Hid (∀ W, Calls Try.prog 19 #[.slice (some ⟨W.heap.size, 0, none⟩) 2 2] (W.alloc (.cells (eAct.all [t, u]).toArray 53)) fun e w' => e = .returned (.bool (longT t || longT u)) ∧ Below W.heap.size W w') := Lib.hid (fun W => by
    refine (longt_calls _ [t, u] _ (Own.lit W 0 eAct 53 [t, u] 2 rfl _ rfl (Nat.zero_le _) (by simp)).row (by simp) (fun x hx => ?_)).mono ?_
    · rcases List.mem_cons.1 hx with rfl | hx
      · exact ht
      · rw [List.mem_singleton.1 hx]; exact hu
    · rintro e w' ⟨rfl, hb⟩
      exact ⟨by simp [List.any], below_allocd hb⟩)
  have f1 := act_fold t
  have f2 := act_fold u
  obtain ⟨mid, g0, g1, g2⟩ := acts_fold t u
  have z1 : t.act.toArray.size = 43 := t.act_len
  have z2 : u.act.toArray.size = 43 := u.act_len
  have hs1 := t.sz
  have hs2 := u.sz
  show Calls Try.prog 5 #[.agg t.A, .agg u.A, .agg #[.int .i64 a0, .int .i64 a1]] w fun e w' => e = .returned (.bool true) ∧ Below w.heap.size w w'
  rw [hW3] at KA
  clear hk1 hk2 hk3 hB hW3
  have KF : Hid (∀ W, Calls Try.prog 20 #[.agg t.A, .int .i64 a0, .int .i64 a1] W fun e w' => e = .returned (.bool (freshB t.last a0 a1)) ∧ Below W.heap.size W w') := Lib.hid (fun W => fresh_calls t a0 a1 h0 h1 W)
  have KRF : Hid (∀ W, Calls Try.prog 21 #[.agg t.A, .int .i64 a0, .int .i64 a1] W fun e w' => e = .returned (.bool (freshB t.last a0 a1)) ∧ Below W.heap.size W w') := Lib.hid (fun W => rfresh_calls t a0 a1 h0 h1 W)
  have KC : Hid (∀ W, Calls Try.prog 22 #[.agg t.A, .agg u.A] W fun e w' => e = .returned (.int .i64 (cmpT t u)) ∧ Below W.heap.size W w') := Lib.hid (fun W => tcompare_calls t u W)
  have KRC : Hid (∀ W, Calls Try.prog 23 #[.agg t.A, .agg u.A] W fun e w' => e = .returned (.int .i64 (cmpT t u)) ∧ Below W.heap.size W w') := Lib.hid (fun W => rtcompare_calls t u W)
  generalize freshB t.last a0 a1 = q1 at KF KRF
  generalize cmpT t u = q2 at KC KRC
  have hq1 : (q1 == q1) = true := by simp
  generalize (eAct.all [t, u]).toArray = full at KL g2
  generalize t.act.toArray = tact at f1 g1 z1
  generalize u.act.toArray = uact at f2 g2 z2
  have HTA : Hid (t.A.toList = t.cells) := Lib.hid rfl
  have HUA : Hid (u.A.toList = u.cells) := Lib.hid rfl
  generalize t.A = ta at HS KA HW hs1 f1 HTA KF KRF KC KRC ⊢
  generalize u.A = ua at HS KA HW hs2 f2 HUA KC KRC ⊢
  have HLD : Hid (∀ (b : Nat) (W : World), (Blk b t.cells 55 W → (loadCells ⟨b, 0, none⟩ 40).run Try.prog W = .ok ta W) ∧ (Blk b u.cells 55 W → (loadCells ⟨b, 0, none⟩ 40).run Try.prog W = .ok ua W)) := Lib.hid (fun b W => ⟨fun h => by
    have e : ta = t.cells.toArray := by rw [← HTA.out]
    rw [e]; exact (Ti.box h).2.2.2.2.2.2, fun h => by
    have e : ua = u.cells.toArray := by rw [← HUA.out]
    rw [e]; exact (Ti.box h).2.2.2.2.2.2⟩)
  have HST : Hid (∀ (b : Nat) (W : World) (x : Ti), Blk b [.bool false, .int .u8 0, .int .u8 0, .int .u8 0, .int .u8 0, .int .u8 0, .int .u8 0, .int .u8 0, .int .u8 0, .int .u8 0, .int .u8 0, .int .u8 0, .int .u8 0, .int .u8 0, .int .u8 0, .int .u8 0, .int .u8 0, .string ⟨#[]⟩, .string ⟨#[]⟩, .string ⟨#[]⟩, .bool false, .bool false, .int .u8 0, .int .u8 0, .int .u8 0, .int .u8 0, .int .u8 0, .int .u8 0, .int .u8 0, .int .u8 0, .int .u8 0, .int .u8 0, .int .u8 0, .int .u8 0, .int .u8 0, .int .u8 0, .int .u8 0, .int .u8 0, .int .i64 0, .int .i64 0] 55 W → ∃ W4, (storeCells ⟨b, 0, none⟩ x.cells).run Try.prog W = .ok () W4 ∧ Blk b x.cells 55 W4 ∧ Alt (fun k => k = b) W W4) := Lib.hid (fun b W x h => store_all h (by rw [x.len]; rfl) x.one)
  generalize (longT t || longT u) = q at KL
  cases q
  · go_enter Try.func5, Try.ntmps5
    go_wp2_with (first
      | (go_at_call 18; ((with_reducible refine KA.out.mono ?_); rintro e w1 ⟨rfl, hb1⟩; have HB1 : Hid (Below W3.heap.size W3 w1) := Lib.hid (by rw [HW.out]; exact hb1); obtain ⟨l1, l2, c1, c2⟩ := HS.out _ HB1.out; clear hb1))
      | (go_at_call 19; ((with_reducible refine (KL.out _).mono ?_); rintro e w2 ⟨rfl, hb2⟩; have HB2 := Lib.hid (HB1.out.trans (hb2.mono HB1.out.size)); clear hb2 l1 l2 c1 c2; obtain ⟨l1, l2, c1, c2⟩ := HS.out _ HB2.out)))
    have hz : Blk w2.heap.size [.bool false, .int .u8 0, .int .u8 0, .int .u8 0, .int .u8 0, .int .u8 0, .int .u8 0, .int .u8 0, .int .u8 0, .int .u8 0, .int .u8 0, .int .u8 0, .int .u8 0, .int .u8 0, .int .u8 0, .int .u8 0, .int .u8 0, .string ⟨#[]⟩, .string ⟨#[]⟩, .string ⟨#[]⟩, .bool false, .bool false, .int .u8 0, .int .u8 0, .int .u8 0, .int .u8 0, .int .u8 0, .int .u8 0, .int .u8 0, .int .u8 0, .int .u8 0, .int .u8 0, .int .u8 0, .int .u8 0, .int .u8 0, .int .u8 0, .int .u8 0, .int .u8 0, .int .i64 0, .int .i64 0] 55 ((w2.alloc (.cells #[.bool false, .int .u8 0, .int .u8 0, .int .u8 0, .int .u8 0, .int .u8 0, .int .u8 0, .int .u8 0, .int .u8 0, .int .u8 0, .int .u8 0, .int .u8 0, .int .u8 0, .int .u8 0, .int .u8 0, .int .u8 0, .int .u8 0, .string ⟨#[]⟩, .string ⟨#[]⟩, .string ⟨#[]⟩, .bool false, .bool false, .int .u8 0, .int .u8 0, .int .u8 0, .int .u8 0, .int .u8 0, .int .u8 0, .int .u8 0, .int .u8 0, .int .u8 0, .int .u8 0, .int .u8 0, .int .u8 0, .int .u8 0, .int .u8 0, .int .u8 0, .int .u8 0, .int .i64 0, .int .i64 0] 55)).alloc (.cells #[.bool false, .int .u8 0, .int .u8 0, .int .u8 0, .int .u8 0, .int .u8 0, .int .u8 0, .int .u8 0, .int .u8 0, .int .u8 0, .int .u8 0, .int .u8 0, .int .u8 0, .int .u8 0, .int .u8 0, .int .u8 0, .int .u8 0, .string ⟨#[]⟩, .string ⟨#[]⟩, .string ⟨#[]⟩, .bool false, .bool false, .int .u8 0, .int .u8 0, .int .u8 0, .int .u8 0, .int .u8 0, .int .u8 0, .int .u8 0, .int .u8 0, .int .u8 0, .int .u8 0, .int .u8 0, .int .u8 0, .int .u8 0, .int .u8 0, .int .u8 0, .int .u8 0, .int .i64 0, .int .i64 0] 55)).drew := (Blk.new w2 [.bool false, .int .u8 0, .int .u8 0, .int .u8 0, .int .u8 0, .int .u8 0, .int .u8 0, .int .u8 0, .int .u8 0, .int .u8 0, .int .u8 0, .int .u8 0, .int .u8 0, .int .u8 0, .int .u8 0, .int .u8 0, .int .u8 0, .string ⟨#[]⟩, .string ⟨#[]⟩, .string ⟨#[]⟩, .bool false, .bool false, .int .u8 0, .int .u8 0, .int .u8 0, .int .u8 0, .int .u8 0, .int .u8 0, .int .u8 0, .int .u8 0, .int .u8 0, .int .u8 0, .int .u8 0, .int .u8 0, .int .u8 0, .int .u8 0, .int .u8 0, .int .u8 0, .int .i64 0, .int .i64 0] _ 55 _ rfl rfl).alloc _
    have hz2 : Blk (w2.heap.size + 1) [.bool false, .int .u8 0, .int .u8 0, .int .u8 0, .int .u8 0, .int .u8 0, .int .u8 0, .int .u8 0, .int .u8 0, .int .u8 0, .int .u8 0, .int .u8 0, .int .u8 0, .int .u8 0, .int .u8 0, .int .u8 0, .int .u8 0, .string ⟨#[]⟩, .string ⟨#[]⟩, .string ⟨#[]⟩, .bool false, .bool false, .int .u8 0, .int .u8 0, .int .u8 0, .int .u8 0, .int .u8 0, .int .u8 0, .int .u8 0, .int .u8 0, .int .u8 0, .int .u8 0, .int .u8 0, .int .u8 0, .int .u8 0, .int .u8 0, .int .u8 0, .int .u8 0, .int .i64 0, .int .i64 0] 55 ((w2.alloc (.cells #[.bool false, .int .u8 0, .int .u8 0, .int .u8 0, .int .u8 0, .int .u8 0, .int .u8 0, .int .u8 0, .int .u8 0, .int .u8 0, .int .u8 0, .int .u8 0, .int .u8 0, .int .u8 0, .int .u8 0, .int .u8 0, .int .u8 0, .string ⟨#[]⟩, .string ⟨#[]⟩, .string ⟨#[]⟩, .bool false, .bool false, .int .u8 0, .int .u8 0, .int .u8 0, .int .u8 0, .int .u8 0, .int .u8 0, .int .u8 0, .int .u8 0, .int .u8 0, .int .u8 0, .int .u8 0, .int .u8 0, .int .u8 0, .int .u8 0, .int .u8 0, .int .u8 0, .int .i64 0, .int .i64 0] 55)).alloc (.cells #[.bool false, .int .u8 0, .int .u8 0, .int .u8 0, .int .u8 0, .int .u8 0, .int .u8 0, .int .u8 0, .int .u8 0, .int .u8 0, .int .u8 0, .int .u8 0, .int .u8 0, .int .u8 0, .int .u8 0, .int .u8 0, .int .u8 0, .string ⟨#[]⟩, .string ⟨#[]⟩, .string ⟨#[]⟩, .bool false, .bool false, .int .u8 0, .int .u8 0, .int .u8 0, .int .u8 0, .int .u8 0, .int .u8 0, .int .u8 0, .int .u8 0, .int .u8 0, .int .u8 0, .int .u8 0, .int .u8 0, .int .u8 0, .int .u8 0, .int .u8 0, .int .u8 0, .int .i64 0, .int .i64 0] 55)).drew := Blk.new (w2.alloc (.cells #[.bool false, .int .u8 0, .int .u8 0, .int .u8 0, .int .u8 0, .int .u8 0, .int .u8 0, .int .u8 0, .int .u8 0, .int .u8 0, .int .u8 0, .int .u8 0, .int .u8 0, .int .u8 0, .int .u8 0, .int .u8 0, .int .u8 0, .string ⟨#[]⟩, .string ⟨#[]⟩, .string ⟨#[]⟩, .bool false, .bool false, .int .u8 0, .int .u8 0, .int .u8 0, .int .u8 0, .int .u8 0, .int .u8 0, .int .u8 0, .int .u8 0, .int .u8 0, .int .u8 0, .int .u8 0, .int .u8 0, .int .u8 0, .int .u8 0, .int .u8 0, .int .u8 0, .int .i64 0, .int .i64 0] 55)) [.bool false, .int .u8 0, .int .u8 0, .int .u8 0, .int .u8 0, .int .u8 0, .int .u8 0, .int .u8 0, .int .u8 0, .int .u8 0, .int .u8 0, .int .u8 0, .int .u8 0, .int .u8 0, .int .u8 0, .int .u8 0, .int .u8 0, .string ⟨#[]⟩, .string ⟨#[]⟩, .string ⟨#[]⟩, .bool false, .bool false, .int .u8 0, .int .u8 0, .int .u8 0, .int .u8 0, .int .u8 0, .int .u8 0, .int .u8 0, .int .u8 0, .int .u8 0, .int .u8 0, .int .u8 0, .int .u8 0, .int .u8 0, .int .u8 0, .int .u8 0, .int .u8 0, .int .i64 0, .int .i64 0] _ 55 _ rfl (by simp)
    obtain ⟨x1, sx1, kx1, bx1⟩ := HST.out _ _ t hz
    obtain ⟨x2, sx2, kx2, bx2⟩ := HST.out _ _ u (hz2.alt bx1 (by omega))
    obtain ⟨y1, sy1, ky1, by1⟩ := HST.out _ _ t hz2
    obtain ⟨y2, sy2, ky2, by2⟩ := HST.out _ _ u (hz.alt by1 (by omega))
    clear hz hz2
    have HBB : Hid (Below W3.heap.size W3 ((w2.alloc (.cells #[.bool false, .int .u8 0, .int .u8 0, .int .u8 0, .int .u8 0, .int .u8 0, .int .u8 0, .int .u8 0, .int .u8 0, .int .u8 0, .int .u8 0, .int .u8 0, .int .u8 0, .int .u8 0, .int .u8 0, .int .u8 0, .int .u8 0, .string ⟨#[]⟩, .string ⟨#[]⟩, .string ⟨#[]⟩, .bool false, .bool false, .int .u8 0, .int .u8 0, .int .u8 0, .int .u8 0, .int .u8 0, .int .u8 0, .int .u8 0, .int .u8 0, .int .u8 0, .int .u8 0, .int .u8 0, .int .u8 0, .int .u8 0, .int .u8 0, .int .u8 0, .int .u8 0, .int .i64 0, .int .i64 0] 55)).alloc (.cells #[.bool false, .int .u8 0, .int .u8 0, .int .u8 0, .int .u8 0, .int .u8 0, .int .u8 0, .int .u8 0, .int .u8 0, .int .u8 0, .int .u8 0, .int .u8 0, .int .u8 0, .int .u8 0, .int .u8 0, .int .u8 0, .int .u8 0, .string ⟨#[]⟩, .string ⟨#[]⟩, .string ⟨#[]⟩, .bool false, .bool false, .int .u8 0, .int .u8 0, .int .u8 0, .int .u8 0, .int .u8 0, .int .u8 0, .int .u8 0, .int .u8 0, .int .u8 0, .int .u8 0, .int .u8 0, .int .u8 0, .int .u8 0, .int .u8 0, .int .u8 0, .int .u8 0, .int .i64 0, .int .i64 0] 55)).drew) := Lib.hid ((HB2.out.alloc HB2.out.size (.cells #[.bool false, .int .u8 0, .int .u8 0, .int .u8 0, .int .u8 0, .int .u8 0, .int .u8 0, .int .u8 0, .int .u8 0, .int .u8 0, .int .u8 0, .int .u8 0, .int .u8 0, .int .u8 0, .int .u8 0, .int .u8 0, .int .u8 0, .string ⟨#[]⟩, .string ⟨#[]⟩, .string ⟨#[]⟩, .bool false, .bool false, .int .u8 0, .int .u8 0, .int .u8 0, .int .u8 0, .int .u8 0, .int .u8 0, .int .u8 0, .int .u8 0, .int .u8 0, .int .u8 0, .int .u8 0, .int .u8 0, .int .u8 0, .int .u8 0, .int .u8 0, .int .u8 0, .int .i64 0, .int .i64 0] 55)).alloc (size_alloc_le HB2.out _) (.cells #[.bool false, .int .u8 0, .int .u8 0, .int .u8 0, .int .u8 0, .int .u8 0, .int .u8 0, .int .u8 0, .int .u8 0, .int .u8 0, .int .u8 0, .int .u8 0, .int .u8 0, .int .u8 0, .int .u8 0, .int .u8 0, .int .u8 0, .string ⟨#[]⟩, .string ⟨#[]⟩, .string ⟨#[]⟩, .bool false, .bool false, .int .u8 0, .int .u8 0, .int .u8 0, .int .u8 0, .int .u8 0, .int .u8 0, .int .u8 0, .int .u8 0, .int .u8 0, .int .u8 0, .int .u8 0, .int .u8 0, .int .u8 0, .int .u8 0, .int .u8 0, .int .u8 0, .int .i64 0, .int .i64 0] 55)).drew
    have hsq : w2.heap.size + 1 + 1 = ((w2.alloc (.cells #[.bool false, .int .u8 0, .int .u8 0, .int .u8 0, .int .u8 0, .int .u8 0, .int .u8 0, .int .u8 0, .int .u8 0, .int .u8 0, .int .u8 0, .int .u8 0, .int .u8 0, .int .u8 0, .int .u8 0, .int .u8 0, .int .u8 0, .string ⟨#[]⟩, .string ⟨#[]⟩, .string ⟨#[]⟩, .bool false, .bool false, .int .u8 0, .int .u8 0, .int .u8 0, .int .u8 0, .int .u8 0, .int .u8 0, .int .u8 0, .int .u8 0, .int .u8 0, .int .u8 0, .int .u8 0, .int .u8 0, .int .u8 0, .int .u8 0, .int .u8 0, .int .u8 0, .int .i64 0, .int .i64 0] 55)).alloc (.cells #[.bool false, .int .u8 0, .int .u8 0, .int .u8 0, .int .u8 0, .int .u8 0, .int .u8 0, .int .u8 0, .int .u8 0, .int .u8 0, .int .u8 0, .int .u8 0, .int .u8 0, .int .u8 0, .int .u8 0, .int .u8 0, .int .u8 0, .string ⟨#[]⟩, .string ⟨#[]⟩, .string ⟨#[]⟩, .bool false, .bool false, .int .u8 0, .int .u8 0, .int .u8 0, .int .u8 0, .int .u8 0, .int .u8 0, .int .u8 0, .int .u8 0, .int .u8 0, .int .u8 0, .int .u8 0, .int .u8 0, .int .u8 0, .int .u8 0, .int .u8 0, .int .u8 0, .int .i64 0, .int .i64 0] 55)).drew.heap.size := by simp
    have HX1 : Hid (Below W3.heap.size W3 x1) := Lib.hid (below_alt HBB.out bx1 HBB.out.size (fun k hk => by have := HB2.out.size; omega))
    have HY1 : Hid (Below W3.heap.size W3 y1) := Lib.hid (below_alt HBB.out by1 HBB.out.size (fun k hk => by have := HB2.out.size; omega))
    have HX2 : Hid (Below W3.heap.size W3 x2) := Lib.hid (below_alt HX1.out bx2 HX1.out.size (fun k hk => by have := HB2.out.size; omega))
    have HY2 : Hid (Below W3.heap.size W3 y2) := Lib.hid (below_alt HY1.out by2 HY1.out.size (fun k hk => by have := HB2.out.size; omega))
    have KX : Hid (Blk w2.heap.size t.cells 55 x2 ∧ Blk (w2.heap.size + 1) u.cells 55 x2) := Lib.hid ⟨kx1.alt bx2 (by omega), kx2⟩
    have KY : Hid (Blk (w2.heap.size + 1) t.cells 55 y2 ∧ Blk w2.heap.size u.cells 55 y2) := Lib.hid ⟨ky1.alt by2 (by omega), ky2⟩
    clear hsq kx1 kx2 ky1 ky2 bx1 bx2 by1 by2
    obtain ⟨m7, m8, _, _⟩ := HS.out _ HX1.out
    obtain ⟨m9, m0, _, _⟩ := HS.out _ HY1.out
    obtain ⟨m1, m2, _, _⟩ := HS.out _ HB2.out.drew
    obtain ⟨m3, m4, _, _⟩ := HS.out _ (HB2.out.alloc HB2.out.size (.cells #[.bool false, .int .u8 0, .int .u8 0, .int .u8 0, .int .u8 0, .int .u8 0, .int .u8 0, .int .u8 0, .int .u8 0, .int .u8 0, .int .u8 0, .int .u8 0, .int .u8 0, .int .u8 0, .int .u8 0, .int .u8 0, .int .u8 0, .string ⟨#[]⟩, .string ⟨#[]⟩, .string ⟨#[]⟩, .bool false, .bool false, .int .u8 0, .int .u8 0, .int .u8 0, .int .u8 0, .int .u8 0, .int .u8 0, .int .u8 0, .int .u8 0, .int .u8 0, .int .u8 0, .int .u8 0, .int .u8 0, .int .u8 0, .int .u8 0, .int .u8 0, .int .u8 0, .int .i64 0, .int .i64 0] 55)).drew
    obtain ⟨m5, m6, _, _⟩ := HS.out _ ((HB2.out.alloc HB2.out.size (.cells #[.bool false, .int .u8 0, .int .u8 0, .int .u8 0, .int .u8 0, .int .u8 0, .int .u8 0, .int .u8 0, .int .u8 0, .int .u8 0, .int .u8 0, .int .u8 0, .int .u8 0, .int .u8 0, .int .u8 0, .int .u8 0, .int .u8 0, .string ⟨#[]⟩, .string ⟨#[]⟩, .string ⟨#[]⟩, .bool false, .bool false, .int .u8 0, .int .u8 0, .int .u8 0, .int .u8 0, .int .u8 0, .int .u8 0, .int .u8 0, .int .u8 0, .int .u8 0, .int .u8 0, .int .u8 0, .int .u8 0, .int .u8 0, .int .u8 0, .int .u8 0, .int .u8 0, .int .i64 0, .int .i64 0] 55)).alloc (size_alloc_le HB2.out _) (.cells #[.bool false, .int .u8 0, .int .u8 0, .int .u8 0, .int .u8 0, .int .u8 0, .int .u8 0, .int .u8 0, .int .u8 0, .int .u8 0, .int .u8 0, .int .u8 0, .int .u8 0, .int .u8 0, .int .u8 0, .int .u8 0, .int .u8 0, .string ⟨#[]⟩, .string ⟨#[]⟩, .string ⟨#[]⟩, .bool false, .bool false, .int .u8 0, .int .u8 0, .int .u8 0, .int .u8 0, .int .u8 0, .int .u8 0, .int .u8 0, .int .u8 0, .int .u8 0, .int .u8 0, .int .u8 0, .int .u8 0, .int .u8 0, .int .u8 0, .int .u8 0, .int .u8 0, .int .i64 0, .int .i64 0] 55)).drew
    have lt : ta.toList = t.cells := HTA.out
    have lu : ua.toList = u.cells := HUA.out
    go_region
    all_goals clear m1 m2 m3 m4 m5 m6 m7 m8 m9 m0
    · have HSX : Hid (∀ W, Below x2.heap.size x2 W → (loadCells ⟨w.heap.size, 0, none⟩ 40).run Try.prog W = .ok ta W ∧ (loadCells ⟨w.heap.size + 1, 0, none⟩ 40).run Try.prog W = .ok ua W ∧ W.cell? ⟨w.heap.size + 1 + 1, 0, none⟩ = some (.int .i64 a0) ∧ W.cell? ⟨w.heap.size + 1 + 1, 1, none⟩ = some (.int .i64 a1) ∧ (loadCells ⟨w2.heap.size, 0, none⟩ 40).run Try.prog W = .ok ta W ∧ (loadCells ⟨w2.heap.size + 1, 0, none⟩ 40).run Try.prog W = .ok ua W) := Lib.hid (fun W hW => by
        obtain ⟨p1, p2, p3, p4⟩ := HS.out W (HX2.out.trans (hW.mono HX2.out.size))
        exact ⟨p1, p2, p3, p4, (HLD.out _ _).1 (KX.out.1.below hW), (HLD.out _ _).2 (KX.out.2.below hW)⟩)
      have HD : Hid (Below x2.heap.size x2 x2.drew) := Lib.hid (Below.refl x2.heap.size x2).drew
      go_wp2
      go_region_held3 (fun W : World => (loadCells ⟨w.heap.size, 0, none⟩ 40).run Try.prog W = .ok ta W ∧ (loadCells ⟨w.heap.size + 1, 0, none⟩ 40).run Try.prog W = .ok ua W ∧ W.cell? ⟨w.heap.size + 1 + 1, 0, none⟩ = some (.int .i64 a0) ∧ W.cell? ⟨w.heap.size + 1 + 1, 1, none⟩ = some (.int .i64 a1) ∧ (loadCells ⟨w2.heap.size, 0, none⟩ 40).run Try.prog W = .ok ta W ∧ (loadCells ⟨w2.heap.size + 1, 0, none⟩ 40).run Try.prog W = .ok ua W) (first | exact HSX.out _ HD.out | exact HSX.out _ HV1.out | exact HSX.out _ HV2.out | exact HSX.out _ HV3.out | exact HSX.out _ HV4.out) (first
        | (go_at_call 20; ((with_reducible refine (KF.out _).mono ?_); rintro e v1 ⟨rfl, hb1⟩; have HV1 : Hid (Below x2.heap.size x2 v1) := Lib.hid (HD.out.trans hb1); clear hb1))
        | (go_at_call 21; ((with_reducible refine (KRF.out _).mono ?_); rintro e v2 ⟨rfl, hb2⟩; have HV2 : Hid (Below x2.heap.size x2 v2) := Lib.hid (HV1.out.trans (hb2.mono HV1.out.size)); clear hb2))
        | (go_at_call 22; ((with_reducible refine (KC.out _).mono ?_); rintro e v3 ⟨rfl, hb3⟩; have HV3 : Hid (Below x2.heap.size x2 v3) := Lib.hid (HV2.out.trans (hb3.mono HV2.out.size)); clear hb3))
        | (go_at_call 23; ((with_reducible refine (KRC.out _).mono ?_); rintro e v4 ⟨rfl, hb4⟩; have HV4 : Hid (Below x2.heap.size x2 v4) := Lib.hid (HV3.out.trans (hb4.mono HV3.out.size)); clear hb4)))
      all_goals go_wp2
      go_ret
      exact ⟨by simp [Act.put], HB.out.trans ((HX2.out.trans (HV4.out.mono HX2.out.size)).mono HB.out.size)⟩
    · have HSX : Hid (∀ W, Below y2.heap.size y2 W → (loadCells ⟨w.heap.size, 0, none⟩ 40).run Try.prog W = .ok ta W ∧ (loadCells ⟨w.heap.size + 1, 0, none⟩ 40).run Try.prog W = .ok ua W ∧ W.cell? ⟨w.heap.size + 1 + 1, 0, none⟩ = some (.int .i64 a0) ∧ W.cell? ⟨w.heap.size + 1 + 1, 1, none⟩ = some (.int .i64 a1) ∧ (loadCells ⟨w2.heap.size + 1, 0, none⟩ 40).run Try.prog W = .ok ta W ∧ (loadCells ⟨w2.heap.size, 0, none⟩ 40).run Try.prog W = .ok ua W) := Lib.hid (fun W hW => by
        obtain ⟨p1, p2, p3, p4⟩ := HS.out W (HY2.out.trans (hW.mono HY2.out.size))
        exact ⟨p1, p2, p3, p4, (HLD.out _ _).1 (KY.out.1.below hW), (HLD.out _ _).2 (KY.out.2.below hW)⟩)
      have HD : Hid (Below y2.heap.size y2 y2.drew) := Lib.hid (Below.refl y2.heap.size y2).drew
      go_wp2
      go_region_held3 (fun W : World => (loadCells ⟨w.heap.size, 0, none⟩ 40).run Try.prog W = .ok ta W ∧ (loadCells ⟨w.heap.size + 1, 0, none⟩ 40).run Try.prog W = .ok ua W ∧ W.cell? ⟨w.heap.size + 1 + 1, 0, none⟩ = some (.int .i64 a0) ∧ W.cell? ⟨w.heap.size + 1 + 1, 1, none⟩ = some (.int .i64 a1) ∧ (loadCells ⟨w2.heap.size + 1, 0, none⟩ 40).run Try.prog W = .ok ta W ∧ (loadCells ⟨w2.heap.size, 0, none⟩ 40).run Try.prog W = .ok ua W) (first | exact HSX.out _ HD.out | exact HSX.out _ HV1.out | exact HSX.out _ HV2.out | exact HSX.out _ HV3.out | exact HSX.out _ HV4.out) (first
        | (go_at_call 20; ((with_reducible refine (KF.out _).mono ?_); rintro e v1 ⟨rfl, hb1⟩; have HV1 : Hid (Below y2.heap.size y2 v1) := Lib.hid (HD.out.trans hb1); clear hb1))
        | (go_at_call 21; ((with_reducible refine (KRF.out _).mono ?_); rintro e v2 ⟨rfl, hb2⟩; have HV2 : Hid (Below y2.heap.size y2 v2) := Lib.hid (HV1.out.trans (hb2.mono HV1.out.size)); clear hb2))
        | (go_at_call 22; ((with_reducible refine (KC.out _).mono ?_); rintro e v3 ⟨rfl, hb3⟩; have HV3 : Hid (Below y2.heap.size y2 v3) := Lib.hid (HV2.out.trans (hb3.mono HV2.out.size)); clear hb3))
        | (go_at_call 23; ((with_reducible refine (KRC.out _).mono ?_); rintro e v4 ⟨rfl, hb4⟩; have HV4 : Hid (Below y2.heap.size y2 v4) := Lib.hid (HV3.out.trans (hb4.mono HV3.out.size)); clear hb4)))
      all_goals go_wp2
      go_ret
      exact ⟨by simp [Act.put], HB.out.trans ((HY2.out.trans (HV4.out.mono HY2.out.size)).mono HB.out.size)⟩
  · go_enter Try.func5, Try.ntmps5
    go_wp2_with (first
      | (go_at_call 18; ((with_reducible refine KA.out.mono ?_); rintro e w1 ⟨rfl, hb1⟩; have HB1 : Hid (Below W3.heap.size W3 w1) := Lib.hid (by rw [HW.out]; exact hb1); obtain ⟨l1, l2, c1, c2⟩ := HS.out _ HB1.out; clear hb1))
      | (go_at_call 19; ((with_reducible refine (KL.out _).mono ?_); rintro e w2 ⟨rfl, hb2⟩; have HB2 := Lib.hid (HB1.out.trans (hb2.mono HB1.out.size)); clear hb2)))
    go_ret
    exact ⟨rfl, HB.out.trans (HB2.out.mono HB.out.size)⟩
end Go.Proofs.Ytcfgffkjbkpfhaa.Tie
