/- slices.DeleteFunc at candidates. -/
import Derived.Test.YtcfgffkjbkpfhaaCand2
namespace Go.Proofs.Ytcfgffkjbkpfhaa.Cand
open Go.RowKit Go.Proofs.Ytcfgffkjbkpfhaa.Mem Go.Proofs.Ytcfgffkjbkpfhaa.Num Go.Proofs.Ytcfgffkjbkpfhaa.Key
open Go.Proofs.Ytcfgffkjbkpfhaa.Addr hiding below_allocd
set_option linter.unusedVariables false
set_option linter.unusedSimpArgs false
set_option maxRecDepth 100000
attribute [-go_sem] Builtin.append_ loadCells loadCellsFrom storeCells run_eql_struct
/-- Between two rounds: i of the first j are kept and stand ahead. -/
def DelSt (p : Cd → Bool) (xs : List Cd) (g cap i j : Nat) (wr : World) : Prop := ∃ ys cs, ys.length = xs.length ∧ i < j ∧ ys.take i = (xs.take j).filter (fun x => !p x) ∧ ys.drop j = xs.drop j ∧ Blk g cs 44 wr ∧ cs.length = cap * 23 ∧ cs.take (xs.length * 23) = eCd.all ys
theorem DelSt.below {p : Cd → Bool} {xs : List Cd} {g cap i j : Nat} {w w1 : World} (h : DelSt p xs g cap i j w) (hb : Below w.heap.size w w1) : DelSt p xs g cap i j w1 := by
  obtain ⟨ys, cs, h1, h2, h3, h4, h5, h6, h7⟩ := h
  exact ⟨ys, cs, h1, h2, h3, h4, h5.below hb, h6, h7⟩
theorem DelSt.row {p : Cd → Bool} {xs : List Cd} {g cap i j : Nat} {w : World} (h : DelSt p xs g cap i j w) (hj : j < xs.length) (hc : xs.length ≤ cap) (hm : cap ≤ maxLen) : (loadCells ((⟨g, 0, none⟩ : Addr).add (j * 23)) 23).run Try.prog w = .ok (xs[j].cells).toArray w := by
  obtain ⟨ys, cs, h1, h2, h3, h4, h5, h6, h7⟩ := h
  have hr := row_blk h5 h1 hc hm h7
  have := row_load (P := Try.prog) hr j (by omega)
  have e : ys[j]'(by omega) = xs[j] := by
    have a := List.getElem?_drop (xs := ys) (i := j) (j := 0)
    have b := List.getElem?_drop (xs := xs) (i := j) (j := 0)
    rw [h4, b] at a
    rw [Nat.add_zero, List.getElem?_eq_getElem hj, List.getElem?_eq_getElem (by omega)] at a
    exact (Option.some.inj a).symm
  rw [e] at this
  exact this
theorem filter_next (p : Cd → Bool) (xs : List Cd) (j : Nat) (hj : j < xs.length) : (xs.take (j + 1)).filter (fun x => !p x) = (xs.take j).filter (fun x => !p x) ++ (if p xs[j] then [] else [xs[j]]) := by
  rw [List.take_succ_eq_append_getElem hj, List.filter_append]
  congr 1
  cases h : p xs[j] <;> simp [h]
theorem DelSt.gone {p : Cd → Bool} {xs : List Cd} {g cap i j : Nat} {w : World} (h : DelSt p xs g cap i j w) (hj : j < xs.length) (hp : p xs[j] = true) : DelSt p xs g cap i (j + 1) w := by
  obtain ⟨ys, cs, h1, h2, h3, h4, h5, h6, h7⟩ := h
  refine ⟨ys, cs, h1, by omega, ?_, ?_, h5, h6, h7⟩
  · rw [filter_next p xs j hj, hp, h3]; simp
  · rw [← List.drop_drop, ← List.drop_drop, h4]
theorem DelSt.kept {p : Cd → Bool} {xs : List Cd} {g cap i j : Nat} {w : World} (h : DelSt p xs g cap i j w) (hj : j < xs.length) (hp : p xs[j] = false) (hc : xs.length ≤ cap) :
    ∃ w1, (storeCells ((⟨g, 0, none⟩ : Addr).add (i * 23)) xs[j].cells).run Try.prog w = .ok () w1 ∧ DelSt p xs g cap (i + 1) (j + 1) w1 ∧ Alt (fun k => k = g) w w1 := by
  obtain ⟨ys, cs, h1, h2, h3, h4, h5, h6, h7⟩ := h
  obtain ⟨w1, cs1, s1, k1, l1, t1, a1⟩ := put_cd (P := Try.prog) h5 h1 hc h6 h7 i (by omega) xs[j]
  refine ⟨w1, s1, ⟨ys.set i xs[j], cs1, by rw [List.length_set]; exact h1, by omega, ?_, ?_, k1, l1, t1⟩, a1⟩
  · rw [filter_next p xs j hj, hp, List.take_succ_eq_append_getElem (by rw [List.length_set]; omega), List.take_set_of_le (by omega), h3, List.getElem_set_self]; rfl
  · rw [List.drop_set_of_lt (by omega), ← List.drop_drop, ← List.drop_drop, h4]
theorem DelSt.start {p : Cd → Bool} {xs : List Cd} {g cap i : Nat} {w : World} {cs : List Value} (hi : idxN p xs = some i) (h5 : Blk g cs 44 w) (h6 : cs.length = cap * 23) (h7 : cs.take (xs.length * 23) = eCd.all xs) : DelSt p xs g cap i (i + 1) w := by
  obtain ⟨a, b, c⟩ := idxN_some hi
  exact ⟨xs, cs, rfl, by omega, c.symm, rfl, h5, h6, h7⟩
theorem DelSt.done {p : Cd → Bool} {xs : List Cd} {g cap i : Nat} {w : World} (h : DelSt p xs g cap i xs.length w) (hc : xs.length ≤ cap) (hm : cap ≤ maxLen) :
    i < xs.length ∧ ∀ ty, ∃ w1, (Builtin.clear_ #[22] ty #[.slice (some ((⟨g, 0, none⟩ : Addr).add (i * 23))) (xs.length - i) (cap - i)]).run Try.prog w = .ok (.tuple #[]) w1 ∧ Row eCd w1 (.slice (some ⟨g, 0, none⟩) i cap) (xs.filter (fun x => !p x)) ∧ Alt (fun k => k = g) w w1 := by
  obtain ⟨ys, cs, h1, h2, h3, h4, h5, h6, h7⟩ := h
  refine ⟨h2, fun ty => ?_⟩
  obtain ⟨w1, cs1, r1, k1, t1, a1⟩ := clear_cd h5 hc h6 h2 ty
  refine ⟨w1, r1, ?_, a1⟩
  rw [List.take_of_length_le (Nat.le_refl _)] at h3
  rw [← h3]
  refine row_blk k1 (by rw [List.length_take]; omega) (by omega) hm ?_
  rw [t1, eCd.all_take, ← h7, List.take_take]
  show cs.take (i * 23) = cs.take (min (i * 23) (xs.length * 23))
  rw [Nat.min_eq_left (by omega)]
theorem cut_front (g n cap i : Nat) (hi : i ≤ n) (hn : n ≤ cap) (h0 : 0 < n) : ∀ W, (Instr.slice 22 (.slice (some ⟨g, 0, none⟩) n cap) none (some (.int .i64 (i : Int))) none).run Try.prog W = .ok (.slice (some ⟨g, 0, none⟩) i cap) W := by
  obtain ⟨A', _, r2, _, r4, r5⟩ := run_cut (P := Try.prog) (E := eCd) 22 44 Try.underlying22 infoCd (some ⟨g, 0, none⟩) n cap 0 i (by omega) (by omega) (by simp)
  intro W
  rw [r2 rfl W .i64]
  cases A' with
  | none => have := r4 rfl; omega
  | some ad =>
    obtain ⟨a0, ha, hadd⟩ := r5 ad rfl
    cases ha
    rw [hadd (by omega), add_zero]
    simp
theorem cut_back (g n cap i : Nat) (hi : i < n) (hn : n ≤ cap) : ∀ W, (Instr.slice 22 (.slice (some ⟨g, 0, none⟩) n cap) (some (.int .i64 (i : Int))) none none).run Try.prog W = .ok (.slice (some ((⟨g, 0, none⟩ : Addr).add (i * 23))) (n - i) (cap - i)) W := by
  obtain ⟨A', _, _, r3, r4, r5⟩ := run_cut (P := Try.prog) (E := eCd) 22 44 Try.underlying22 infoCd (some ⟨g, 0, none⟩) n cap i n (by omega) (by omega) (by simp)
  intro W
  rw [r3 rfl W .i64]
  cases A' with
  | none => have := r4 rfl; omega
  | some ad =>
    obtain ⟨a0, ha, hadd⟩ := r5 ad rfl
    cases ha
    rw [hadd (by omega)]
    rfl
set_option maxHeartbeats 4000000 in
theorem delete_calls (g : Nat) (lb : Array Value) (p : Cd → Bool) (eg : ∀ args w, (callFunc g args).run Try.prog w = .ok (.enter g args) w) (base : Nat) (v : Value) (xs : List Cd) (w0 w : World) (hb : Below w0.heap.size w0 w) (hbase : w0.heap.size ≤ base) (ho : Own eCd 44 base w v xs) (hp : Pred g lb p xs w0) (hl : xs.length ≤ 100000) :
    Calls Try.prog 62 #[v, .func (.func g) #[] lb] w fun e w' => (∃ v', e = .returned v' ∧ Row eCd w' v' (xs.filter (fun x => !p x))) ∧ Below w0.heap.size w0 w' := by
  have hv := ho.row
  have KI := Lib.hid (index_calls g lb p eg v xs w0 w hb hv hp)
  have HBX := Lib.hid (fun (W : World) (x : Cd) => box_cd (P := Try.prog) W x 44 #[.bool false, .int .u8 0, .int .u8 0, .int .u8 0, .int .u8 0, .int .u8 0, .int .u8 0, .int .u8 0, .int .u8 0, .int .u8 0, .int .u8 0, .int .u8 0, .int .u8 0, .int .u8 0, .int .u8 0, .int .u8 0, .int .u8 0, .int .i64 0, .bool false, .bool false, .bool false, .bool false, .slice none 0 0] rfl)
  have HB := Lib.hid hb
  have HV := Lib.hid hv
  have HO := Lib.hid ho
  have HP := Lib.hid hp
  obtain ⟨fs, hfs⟩ : ∃ fs, fs = xs.filter (fun x => !p x) := ⟨_, rfl⟩
  rw [← hfs]
  have HFS := Lib.hid hfs
  clear hb hv ho hp hfs
  cases hi : idxN p xs with
  | none =>
    have hn := idxN_none hi
    have HN : Hid (fs = xs) := Lib.hid (HFS.out.trans hn)
    replace KI : Hid (Calls Try.prog 65 #[v, .func (.func g) #[] lb] w fun e w' => e = .returned (.int .i64 (-1)) ∧ Below w.heap.size w w') := Lib.hid (by have := KI.out; rw [hi] at this; exact this)
    clear hn hi
    go_enter Try.func62, Try.ntmps62
    go_wp2_with (go_at_call 65; ((with_reducible refine KI.out.mono ?_); rintro e w1 ⟨rfl, hb1⟩))
    go_ret
    exact ⟨⟨_, rfl, by rw [HN.out]; exact HV.out.below hb1⟩, HB.out.trans (hb1.mono HB.out.size)⟩
  | some i0 =>
    replace KI : Hid (Calls Try.prog 65 #[v, .func (.func g) #[] lb] w fun e w' => e = .returned (.int .i64 (i0 : Int)) ∧ Below w.heap.size w w') := Lib.hid (by have := KI.out; rw [hi] at this; exact this)
    obtain ⟨hi0, _, _⟩ := idxN_some hi
    obtain ⟨A, cap, rfl, hcap, hmm, hr⟩ := HV.out.parts
    obtain ⟨ad, rfl, _⟩ := hr.at hi0
    obtain ⟨gb, cs, rfl, hgb, _, hnc, hcm, hbk, hcl, hct⟩ := own_blk HO.out
    have HST : Hid (∀ W, Below w.heap.size w W → DelSt p xs gb cap i0 (i0 + 1) W) := Lib.hid (fun W hW => (DelSt.start hi hbk hcl hct).below hW)
    have HROW : Hid (∀ i j W, DelSt p xs gb cap i j W → ∀ hj : j < xs.length, (loadCells ((⟨gb, 0, none⟩ : Addr).add (j * 23)) 23).run Try.prog W = .ok (xs[j].cells).toArray W) := Lib.hid (fun i j W h hj => h.row hj hnc hcm)
    have HKEPT : Hid (∀ i j W, DelSt p xs gb cap i j W → ∀ hj : j < xs.length, p xs[j] = false → ∃ w1, (storeCells ((⟨gb, 0, none⟩ : Addr).add (i * 23)) xs[j].cells).run Try.prog W = .ok () w1 ∧ DelSt p xs gb cap (i + 1) (j + 1) w1 ∧ Alt (fun k => k = gb) W w1) := Lib.hid (fun i j W h hj hp => h.kept hj hp hnc)
    have HDONE : Hid (∀ i W, DelSt p xs gb cap i xs.length W → i < xs.length ∧ ∀ ty, ∃ w1, (Builtin.clear_ #[22] ty #[.slice (some ((⟨gb, 0, none⟩ : Addr).add (i * 23))) (xs.length - i) (cap - i)]).run Try.prog W = .ok (.tuple #[]) w1 ∧ Row eCd w1 (.slice (some ⟨gb, 0, none⟩) i cap) fs ∧ Alt (fun k => k = gb) W w1) := Lib.hid (fun i W h => by rw [HFS.out]; exact h.done hnc hcm)
    have HCF := Lib.hid (fun i hi => cut_front gb xs.length cap i hi hnc (by omega))
    have HCB := Lib.hid (fun i hi => cut_back gb xs.length cap i hi hnc)
    have HGE : Hid (w0.heap.size ≤ gb) := Lib.hid (by omega)
    have h1 : ((i0 : Int) == -1) = false := beq_eq_false_iff_ne.mpr (by omega)
    have hl' : (xs.length : Int) ≤ 100000 := by omega
    have hi0' : (i0 : Int) < (xs.length : Int) := by omega
    clear hr hbk hcl hct hgb hnc hi hcap HO HV
    obtain ⟨ad, had⟩ : ∃ ad : Addr, ad = ⟨gb, 0, none⟩ := ⟨_, rfl⟩
    rw [← had] at HROW HKEPT HDONE HCF HCB KI ⊢
    clear had
    go_enter Try.func62, Try.ntmps62
    go_wp2_with (go_at_call 65; ((with_reducible refine KI.out.mono ?_); rintro e w1 ⟨rfl, hb1⟩; have HS1 := Lib.hid (HST.out _ hb1); have HB1 := Lib.hid (HB.out.trans (hb1.mono HB.out.size)); clear hb1))
    go_loopw [5, 6] (fun iv jv wr => ∃ i j : Nat, j ≤ xs.length ∧ i < j ∧ iv = .int .i64 (i : Int) ∧ jv = .int .i64 (j : Int) ∧ Hid (DelSt p xs gb cap i j wr) ∧ Hid (Below w0.heap.size w0 wr)) (fun _ jv _ => xs.length - (intOf jv).toNat)
    case atStart => exact ⟨i0, i0 + 1, by omega, by omega, rfl, by go_num, HS1, HB1⟩
    case round =>
      clear HS1 HB1
      obtain ⟨i, j, hj, hij, rfl, rfl, HS, HW⟩ := hrel
      by_cases hlt : j < xs.length
      · have hld := HROW.out i j wr HS.out hlt
        have hcall := HP.out xs[j] (List.getElem_mem hlt)
        have HG : Hid (p xs[j] = true → ∀ W, Below wr.heap.size wr W → DelSt p xs gb cap i (j + 1) W) := Lib.hid (fun hp W hW => (HS.out.below hW).gone hlt hp)
        have HKP : Hid (p xs[j] = false → ∀ W, Below wr.heap.size wr W → ∃ w1, (storeCells (ad.add (i * 23)) xs[j].cells).run Try.prog W = .ok () w1 ∧ DelSt p xs gb cap (i + 1) (j + 1) w1 ∧ Alt (fun k => k = gb) W w1) := Lib.hid (fun hp W hW => HKEPT.out i j W (HS.out.below hW) hlt hp)
        obtain ⟨w2, s2, k2, b2⟩ := HBX.out wr xs[j]
        generalize xs[j] = x at hld hcall HG HKP s2 k2
        have lp2 : (loadCells ⟨wr.heap.size, 0, none⟩ 23).run Try.prog w2 = .ok x.cells.toArray w2 := k2.load 0 23 x.cells (by rw [List.drop_zero, List.take_of_length_le (by rw [Cd.len]; decide)]) (Cd.len x)
        have HLP : Hid (∀ W, Below w2.heap.size w2 W → (loadCells ⟨wr.heap.size, 0, none⟩ 23).run Try.prog W = .ok x.cells.toArray W) := Lib.hid (fun W hW => (k2.below hW).load 0 23 x.cells (by rw [List.drop_zero, List.take_of_length_le (by rw [Cd.len]; decide)]) (Cd.len x))
        have HB2 := Lib.hid b2
        have HW2 := Lib.hid (HW.out.trans (b2.mono HW.out.size))
        have HC := Lib.hid (hcall w2 HW2.out)
        have hsl : (x.cells.toArray).toList = x.cells := rfl
        have hsz : (x.cells.toArray).size = 23 := Cd.len x
        clear hcall k2 b2
        generalize x.cells.toArray = xa at hld lp2 HLP HC hsl hsz
        cases hq : p x with
        | true =>
          rw [hq] at HC
          have HT := Lib.hid (HG.out hq)
          clear hq
          go_wp2_with (go_at_fn g; refine HC.out.mono ?_; rintro e w3 ⟨rfl, hb3⟩; have HW3 := Lib.hid (HW2.out.trans (hb3.mono HW2.out.size)); have HT3 := Lib.hid (HT.out _ (HB2.out.trans (hb3.mono HB2.out.size))); clear hb3)
          go_roundw
          case rel => exact ⟨i, j + 1, by omega, by omega, rfl, by go_num, HT3, HW3⟩
          case measure => simp [intOf]; omega
        | false =>
          rw [hq] at HC
          have HT := Lib.hid (HKP.out hq)
          clear hq
          go_wp2_with (go_at_fn g; refine HC.out.mono ?_; rintro e w3 ⟨rfl, hb3⟩; have HW3 := Lib.hid (HW2.out.trans (hb3.mono HW2.out.size)); have lp3 := HLP.out _ hb3; obtain ⟨w4, s4, d4, a4⟩ := HT.out _ (HB2.out.trans (hb3.mono HB2.out.size)); have HD4 := Lib.hid d4; have HW4 := Lib.hid (below_alt HW3.out a4 HW3.out.size (fun k hk => by have := HGE.out; omega)); clear hb3 d4 a4)
          go_roundw
          case rel => exact ⟨i + 1, j + 1, by omega, by omega, by go_num, by go_num, HD4, HW4⟩
          case measure => simp [intOf]; omega
      · have hjn : j = xs.length := by omega
        subst hjn
        obtain ⟨hin, hcl⟩ := HDONE.out i wr HS.out
        have hcf := HCF.out i (by omega)
        have hcb := HCB.out i hin
        obtain ⟨w5, r5, row5, a5⟩ := hcl 0
        have HR5 := Lib.hid row5
        have HW5 := Lib.hid (below_alt HW.out a5 HW.out.size (fun k hk => by have := HGE.out; omega))
        clear row5 a5
        go_wp2
        go_ret
        exact ⟨⟨_, rfl, HR5.out⟩, HW5.out⟩
end Go.Proofs.Ytcfgffkjbkpfhaa.Cand
