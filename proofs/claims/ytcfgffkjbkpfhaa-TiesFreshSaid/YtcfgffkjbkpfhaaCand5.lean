/- Texts in lists; Meant, Count, Filter of package hints. -/
import Derived.Test.YtcfgffkjbkpfhaaCand4
namespace Go.Proofs.Ytcfgffkjbkpfhaa.Cand
open Go.RowKit Go.Proofs.Ytcfgffkjbkpfhaa.Mem Go.Proofs.Ytcfgffkjbkpfhaa.Num Go.Proofs.Ytcfgffkjbkpfhaa.Key
open Go.Proofs.Ytcfgffkjbkpfhaa.Addr hiding below_allocd
set_option linter.unusedVariables false
set_option linter.unusedSimpArgs false
set_option maxRecDepth 100000
attribute [-go_sem] Builtin.append_ loadCells loadCellsFrom storeCells run_eql_struct
/-- Is a text in a list? -/
def memS (s : ByteArray) (zs : List ByteArray) : Bool := zs.any (fun y => s.toList == y.toList)
theorem memS_step (s : ByteArray) (zs : List ByteArray) (k : Nat) (hk : k < zs.length) : memS s (zs.drop k) = (s.toList == zs[k].toList || memS s (zs.drop (k + 1))) := by
  rw [List.drop_eq_getElem_cons hk]; rfl
def SomeIdx (b : Bool) (w : World) (e : Ending) (w' : World) : Prop := ∃ i : Int, decide (0 ≤ i) = b ∧ e = .returned (.int .i64 i) ∧ w = w'
set_option maxHeartbeats 1000000 in
theorem sindex_calls (A : Option Addr) (c : Nat) (s : ByteArray) (zs : List ByteArray) (w : World) (hr : Row eStr w (.slice A zs.length c) zs) :
    Calls Try.prog 75 #[.slice A zs.length c, .string s] w (SomeIdx (memS s zs) w) := by
  have hl : zs.length ≤ 9223372036854775807 := by have := hr.cap; unfold maxLen at this; omega
  have HR := Lib.hid hr
  obtain ⟨b, hb⟩ : ∃ b, b = memS s zs := ⟨_, rfl⟩
  rw [← hb]
  have HB := Lib.hid hb
  clear hr hb
  go_enter Try.func75, Try.ntmps75
  go_wp2
  go_loop [8] (fun iv => ∃ k : Nat, k ≤ zs.length ∧ iv = .int .i64 (k : Int) ∧ Hid (b = memS s (zs.drop k))) (fun iv => zs.length - (intOf iv).toNat)
  case atStart => exact ⟨0, Nat.zero_le _, rfl, HB⟩
  case round =>
    obtain ⟨k, hk, rfl, HL⟩ := hrel
    by_cases hlt : k < zs.length
    · obtain ⟨ad, rfl, hcell⟩ := HR.out.at1 hlt
      have HS := Lib.hid (HL.out.trans (memS_step s zs k hlt))
      generalize zs[k] = y at hcell HS
      have he : (s == y) = (s.toList == y.toList) := beq_toListBytes s y
      generalize hq : (s.toList == y.toList) = q at HS he
      cases q
      · have HT : Hid (b = memS s (zs.drop (k + 1))) := Lib.hid (by rw [HS.out]; rfl)
        go_wp2
        go_round
        case rel => exact ⟨k + 1, by omega, by go_num, HT⟩
        case measure => simp [intOf]; omega
      · have HT : Hid (b = true) := Lib.hid (by rw [HS.out]; rfl)
        go_wp2
        go_ret
        exact ⟨(k : Int), by rw [HT.out]; exact decide_eq_true (by omega), rfl, rfl⟩
    · have HT : Hid (b = false) := Lib.hid (by rw [HL.out, List.drop_of_length_le (by omega)]; rfl)
      go_wp2
      go_ret
      exact ⟨-1, by rw [HT.out]; rfl, rfl, rfl⟩
theorem scontains_calls (A : Option Addr) (c : Nat) (s : ByteArray) (zs : List ByteArray) (w : World) (hr : Row eStr w (.slice A zs.length c) zs) :
    Calls Try.prog 59 #[.slice A zs.length c, .string s] w fun e w' => e = .returned (.bool (memS s zs)) ∧ w = w' := by
  have KI := Lib.hid (sindex_calls A c s zs w hr)
  generalize memS s zs = b at KI ⊢
  clear hr
  go_enter Try.func59, Try.ntmps59
  go_wp2_with (go_at_call 75; ((with_reducible refine KI.out.mono ?_); rintro e w1 ⟨i, hi, rfl, rfl⟩; have HI := Lib.hid hi; clear hi))
  go_ret
  exact ⟨by rw [← HI.out]; rfl, rfl⟩
theorem meant_calls (x : Cd) (s : ByteArray) (zs : List ByteArray) (w : World) (hr : Row eStr w (.slice x.A x.n x.c) zs) :
    Calls Try.prog 27 #[.agg x.cells.toArray, .string s] w fun e w' => e = .returned (.bool (memS s zs)) ∧ Below w.heap.size w w' := by
  have hn := hr.len
  obtain ⟨_, _, _, _, _, c5⟩ := boxed w _ x 44 (Below.refl _ _)
  have KC : Hid (Calls Try.prog 59 #[.slice x.A x.n x.c, .string s] (w.alloc (.cells x.cells.toArray 44)) fun e w' => e = .returned (.bool (memS s zs)) ∧ (w.alloc (.cells x.cells.toArray 44)) = w') := Lib.hid (by rw [hn] at hr ⊢; exact scontains_calls _ _ _ _ _ (hr.alloc _))
  clear hr hn
  generalize x.cells.toArray = xa at c5 KC ⊢
  generalize memS s zs = b at KC ⊢
  go_enter Try.func27, Try.ntmps27
  go_wp2_with (go_at_call 59; ((with_reducible refine KC.out.mono ?_); rintro e w1 ⟨rfl, rfl⟩))
  go_ret
  exact ⟨rfl, (Below.refl _ _).alloc (Nat.le_refl _) _⟩
theorem count2_pred (s : ByteArray) (z : Cd → List ByteArray) (xs : List Cd) (w : World) (B : Nat) (hB : B < w.heap.size) (hc : w.cell? ⟨B, 0, none⟩ = some (.string s)) (hz : ∀ x ∈ xs, Row eStr w (.slice x.A x.n x.c) (z x)) :
    Pred 61 #[.pointer (some ⟨B, 0, none⟩)] (fun x => memS s (z x)) xs w := by
  intro x hx W hW
  obtain ⟨hld, _⟩ := boxed W _ x 44 (Below.refl _ _)
  have hc' : (W.alloc (.cells x.cells.toArray 44)).cell? ⟨B, 0, none⟩ = some (.string s) := cell_below (hW.alloc hW.size _) hc
  have KM := Lib.hid (meant_calls x s (z x) (W.alloc (.cells x.cells.toArray 44)) (((hz x hx).below hW).alloc _))
  have hsz : (x.cells.toArray).size = 23 := Cd.len x
  show Calls Try.prog 61 #[.agg x.cells.toArray, .pointer (some ⟨B, 0, none⟩)] W fun e w' => e = .returned (.bool (memS s (z x))) ∧ Below W.heap.size W w'
  generalize memS s (z x) = b at KM ⊢
  generalize x.cells.toArray = xa at hld hc' KM hsz ⊢
  clear hz hc hx
  go_enter Try.func61, Try.ntmps61
  go_wp2_with (go_at_call 27; ((with_reducible refine KM.out.mono ?_); rintro e w1 ⟨rfl, hb1⟩))
  go_ret
  exact ⟨rfl, below_allocd hb1⟩
theorem filter1_pred (s : ByteArray) (z : Cd → List ByteArray) (xs : List Cd) (w : World) (B : Nat) (hB : B < w.heap.size) (hc : w.cell? ⟨B, 0, none⟩ = some (.string s)) (hz : ∀ x ∈ xs, Row eStr w (.slice x.A x.n x.c) (z x)) :
    Pred 56 #[.pointer (some ⟨B, 0, none⟩)] (fun x => memS s (z x)) xs w := by
  intro x hx W hW
  obtain ⟨hld, _⟩ := boxed W _ x 44 (Below.refl _ _)
  have hc' : (W.alloc (.cells x.cells.toArray 44)).cell? ⟨B, 0, none⟩ = some (.string s) := cell_below (hW.alloc hW.size _) hc
  have KM := Lib.hid (meant_calls x s (z x) (W.alloc (.cells x.cells.toArray 44)) (((hz x hx).below hW).alloc _))
  have hsz : (x.cells.toArray).size = 23 := Cd.len x
  show Calls Try.prog 56 #[.agg x.cells.toArray, .pointer (some ⟨B, 0, none⟩)] W fun e w' => e = .returned (.bool (memS s (z x))) ∧ Below W.heap.size W w'
  generalize memS s (z x) = b at KM ⊢
  generalize x.cells.toArray = xa at hld hc' KM hsz ⊢
  clear hz hc hx
  go_enter Try.func56, Try.ntmps56
  go_wp2_with (go_at_call 27; ((with_reducible refine KM.out.mono ?_); rintro e w1 ⟨rfl, hb1⟩))
  go_ret
  exact ⟨rfl, below_allocd hb1⟩
theorem ready_calls (v : Value) (xs : List Cd) (w : World) (hv : Row eCd w v xs) (hl : xs.length ≤ 100000) :
    Calls Try.prog 54 #[v] w fun e w' => (∃ v', e = .returned v' ∧ Row eCd w' v' (xs.filter (fun x => x.rdy))) ∧ Below w.heap.size w w' := by
  have KK := Lib.hid (kept_calls 71 #[] (fun x => x.rdy) (enters_of Try.func71 (by kernel_rfl) rfl) v xs w w (Below.refl _ _) hv (ready1_pred xs w) hl)
  clear hv
  go_enter Try.func54, Try.ntmps54
  go_wp2_with (go_at_call 55; ((with_reducible refine KK.out.mono ?_); rintro e w1 ⟨⟨v1, rfl, hr1⟩, hb1⟩; have HR1 := Lib.hid hr1; have HB1 := Lib.hid hb1; clear hr1 hb1))
  go_ret
  exact ⟨⟨_, rfl, HR1.out⟩, HB1.out⟩
end Go.Proofs.Ytcfgffkjbkpfhaa.Cand
