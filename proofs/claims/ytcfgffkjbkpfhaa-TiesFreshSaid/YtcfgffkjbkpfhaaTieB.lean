/- Texts and numbers held against each other: cmp.Compare, cmp.Or, names.Compare, linkboyref02.Compare, linkboyref05.Compare. -/
import Derived.Test.YtcfgffkjbkpfhaaTieA
import Derived.Test.YtcfgffkjbkpfhaaMemR
import Derived.Test.YtcfgffkjbkpfhaaSeq
import Derived.Laws.Cover1
namespace Go.Proofs.Ytcfgffkjbkpfhaa.Tie
open Go.RowKit Go.Proofs.Ytcfgffkjbkpfhaa.Mem Go.Proofs.Ytcfgffkjbkpfhaa.Num Go.Proofs.Ytcfgffkjbkpfhaa.Key
open Go.Proofs.Ytcfgffkjbkpfhaa.Addr hiding below_allocd
set_option linter.unusedVariables false
set_option linter.unusedSimpArgs false
set_option maxRecDepth 100000
attribute [-go_sem] Builtin.append_ loadCells loadCellsFrom storeCells run_eql_struct
def cmpS (a b : ByteArray) : Int := if Op.bytesLess a.toList b.toList = true then -1 else if (a.toList == b.toList) = true then 0 else 1
theorem scompare_calls (a b : ByteArray) (w : World) : Calls Try.prog 49 #[.string a, .string b] w fun e w' => e = .returned (.int .i64 (cmpS a b)) ∧ w = w' := by
  have hl : Op.bytesLess a.toList b.toList = true ∨ Op.bytesLess a.toList b.toList = false := by cases Op.bytesLess a.toList b.toList <;> simp
  have he : (a.toList == b.toList) = true ∨ (a.toList == b.toList) = false := by cases (a.toList == b.toList) <;> simp
  have n1 : (a != a) = false := by unfold bne; rw [beq_toListBytes a a]; simp
  have n2 : (b != b) = false := by unfold bne; rw [beq_toListBytes b b]; simp
  have n3 : (a.toList != a.toList) = false := by simp
  have n4 : (b.toList != b.toList) = false := by simp
  unfold cmpS
  rcases hl with hl | hl <;> rcases he with he | he <;> rw [hl, he]
  all_goals
    go_enter Try.func49, Try.ntmps49
    go_wp2
    go_ret
    exact ⟨rfl, rfl⟩
def cmpI (a b : Int) : Int := if a < b then -1 else if b < a then 1 else 0
theorem icompare_calls (a b : Int) (w : World) : Calls Try.prog 50 #[.int .i64 a, .int .i64 b] w fun e w' => e = .returned (.int .i64 (cmpI a b)) ∧ w = w' := by
  unfold cmpI
  by_cases h1 : a < b
  · rw [if_pos h1]
    go_enter Try.func50, Try.ntmps50
    go_wp2
    go_ret
    exact ⟨rfl, rfl⟩
  · rw [if_neg h1]
    by_cases h2 : b < a
    · rw [if_pos h2]
      go_enter Try.func50, Try.ntmps50
      go_wp2
      go_ret
      exact ⟨rfl, rfl⟩
    · rw [if_neg h2]
      go_enter Try.func50, Try.ntmps50
      go_wp2
      go_ret
      exact ⟨rfl, rfl⟩
theorem number_calls (b : Bool) (w : World) : Calls Try.prog 51 #[.bool b] w fun e w' => e = .returned (.int .i64 (if b then 1 else 0)) ∧ w = w' := by
  cases b
  all_goals
    go_enter Try.func51, Try.ntmps51
    go_wp2
    go_ret
    exact ⟨rfl, rfl⟩
def orL : List Int → Int
  | [] => 0
  | x :: r => if x ≠ 0 then x else orL r
theorem orL_step (xs : List Int) (k : Nat) (hk : k < xs.length) : orL (xs.drop k) = if xs[k] ≠ 0 then xs[k] else orL (xs.drop (k + 1)) := by
  rw [List.drop_eq_getElem_cons hk]; rfl
theorem or_calls (v : Value) (xs : List Int) (w : World) (hv : Row eInt w v xs) (hl : xs.length ≤ 1000) : Calls Try.prog 46 #[v] w fun e w' => e = .returned (.int .i64 (orL xs)) ∧ w = w' := by
  obtain ⟨A, c, rfl, _, _, hr⟩ := hv.parts
  have HR := Lib.hid hr
  have hl2 : xs.length ≤ 9223372036854775807 := by omega
  obtain ⟨R, hR⟩ : ∃ R, R = orL xs := ⟨_, rfl⟩
  rw [← hR]
  have HRR := Lib.hid hR
  clear hv hr hR hl
  go_enter Try.func46, Try.ntmps46
  go_wp2
  go_loop [8] (fun iv => ∃ k : Nat, k ≤ xs.length ∧ iv = .int .i64 (k : Int) ∧ Hid (R = orL (xs.drop k))) (fun iv => xs.length - (intOf iv).toNat)
  case atStart => exact ⟨0, Nat.zero_le _, rfl, HRR⟩
  case round =>
    obtain ⟨k, hk, rfl, HL⟩ := hrel
    by_cases hlt : k < xs.length
    · obtain ⟨ad, rfl, hcell⟩ := HR.out.atInt hlt
      have HS := Lib.hid (HL.out.trans (orL_step xs k hlt))
      generalize xs[k] = x at hcell HS
      by_cases h0 : x = 0
      · subst h0
        have HT : Hid (R = orL (xs.drop (k + 1))) := Lib.hid (by rw [HS.out]; rfl)
        go_wp2
        go_round
        case rel => exact ⟨k + 1, by omega, by go_num, HT⟩
        case measure => simp [intOf]; omega
      · have hb : (x != 0) = true := bne_iff_ne.2 h0
        have HT : Hid (R = x) := Lib.hid (by rw [HS.out, if_pos h0])
        go_wp2
        go_ret
        exact ⟨by rw [HT.out]; rfl, rfl⟩
    · have HT : Hid (R = 0) := Lib.hid (by rw [HL.out, List.drop_of_length_le (by omega)]; rfl)
      go_wp2
      go_ret
      exact ⟨by rw [HT.out]; rfl, rfl⟩
set_option maxHeartbeats 2000000 in
theorem ncompare_calls (a b c d : ByteArray) (w : World) : Calls Try.prog 48 #[.agg #[.string a, .string b], .agg #[.string c, .string d]] w fun e w' => e = .returned (.int .i64 (orL [cmpS a c, cmpS b d])) ∧ Below w.heap.size w w' := by
  have hmx : Try.prog.follows .mixedOrders = true := by kernel_rfl
  obtain ⟨W2, hW2⟩ : ∃ W2, W2 = (w.alloc (.cells #[.string a, .string b] 47)).alloc (.cells #[.string c, .string d] 47) := ⟨_, rfl⟩
  have hB : Below w.heap.size w W2 := by rw [hW2]; exact ((Below.refl _ _).alloc (Nat.le_refl _) _).alloc (by simp) _
  have K1 := Lib.hid (fun W => scompare_calls a c W)
  have K2 := Lib.hid (fun W => scompare_calls b d W)
  have KO : Hid (Calls Try.prog 46 #[.slice (some ⟨w.heap.size + 1 + 1, 0, none⟩) 2 2] (((w.alloc (.cells #[.string a, .string b] 47)).alloc (.cells #[.string c, .string d] 47)).alloc (.cells #[.int .i64 (cmpS a c), .int .i64 (cmpS b d)] 3)).drew fun e w' => e = .returned (.int .i64 (orL [cmpS a c, cmpS b d])) ∧ Below W2.heap.size W2 w') := Lib.hid (by
    have hr : Row eInt (((w.alloc (.cells #[.string a, .string b] 47)).alloc (.cells #[.string c, .string d] 47)).alloc (.cells #[.int .i64 (cmpS a c), .int .i64 (cmpS b d)] 3)).drew (.slice (some ⟨w.heap.size + 1 + 1, 0, none⟩) 2 2) [cmpS a c, cmpS b d] := (Own.lit' _ (w.heap.size + 1 + 1) (by simp) 0 eInt 3 [cmpS a c, cmpS b d] 2 rfl #[.int .i64 (cmpS a c), .int .i64 (cmpS b d)] rfl (Nat.zero_le _) (by simp)).row.drewN 1
    refine (or_calls _ _ _ hr (by simp)).mono ?_
    rintro e w' ⟨rfl, rfl⟩
    exact ⟨rfl, by rw [hW2]; exact ((Below.refl _ _).alloc (Nat.le_refl _) _).drew⟩)
  generalize cmpS a c = x at K1 KO ⊢
  generalize cmpS b d = y at K2 KO ⊢
  have HC : Hid (∀ W, Below W2.heap.size W2 W → W.cell? ⟨w.heap.size, 0, none⟩ = some (.string a) ∧ W.cell? ⟨w.heap.size, 1, none⟩ = some (.string b) ∧ W.cell? ⟨w.heap.size + 1, 0, none⟩ = some (.string c) ∧ W.cell? ⟨w.heap.size + 1, 1, none⟩ = some (.string d)) := Lib.hid (fun W hW => by
    have k1 : Blk w.heap.size [.string a, .string b] 47 W := by rw [hW2] at hW; exact ((Blk.new w _ _ _ _ rfl rfl).alloc _).below hW
    have k2 : Blk (w.heap.size + 1) [.string c, .string d] 47 W := by rw [hW2] at hW; exact (Blk.new _ _ _ _ _ rfl (by simp)).below hW
    exact ⟨k1.cell 0 _ rfl, k1.cell 1 _ rfl, k2.cell 0 _ rfl, k2.cell 1 _ rfl⟩)
  have HD : Hid (Below W2.heap.size W2 W2) := Lib.hid (Below.refl _ _)
  have HB := Lib.hid hB
  have HW2 := Lib.hid hW2
  clear hW2 hB
  go_enter Try.func48, Try.ntmps48
  go_wp2
  go_region_held3 (fun W : World => W.cell? ⟨w.heap.size, 0, none⟩ = some (.string a) ∧ W.cell? ⟨w.heap.size, 1, none⟩ = some (.string b) ∧ W.cell? ⟨w.heap.size + 1, 0, none⟩ = some (.string c) ∧ W.cell? ⟨w.heap.size + 1, 1, none⟩ = some (.string d)) (first | exact HC.out _ (HD.out.drew) | exact HC.out _ HD.out | exact HC.out _ (HD.out.drew.alloc (by simp; omega) _) | exact HC.out _ HB5.out | go_keep) (first
    | (go_at_call 49; ((with_reducible refine (K1.out _).mono ?_); rintro e w3 ⟨rfl, rfl⟩; clear K1))
    | (go_at_call 49; ((with_reducible refine (K2.out _).mono ?_); rintro e w4 ⟨rfl, rfl⟩; clear K2))
    | (go_at_call 46; ((with_reducible refine KO.out.mono ?_); rintro e w5 ⟨rfl, hb5⟩; have HB5 := Lib.hid hb5; clear hb5)))
  all_goals go_wp2
  go_ret
  exact ⟨rfl, HB.out.trans (HB5.out.mono HB.out.size)⟩
end Go.Proofs.Ytcfgffkjbkpfhaa.Tie
