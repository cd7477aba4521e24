/- The document's Compare of addresses and of keys. -/
import Derived.Test.YtcfgffkjbkpfhaaTieB
import Derived.Sort.Walk0
namespace Go.Proofs.Ytcfgffkjbkpfhaa.Tie
open Go.RowKit Go.Proofs.Ytcfgffkjbkpfhaa.Mem Go.Proofs.Ytcfgffkjbkpfhaa.Num Go.Proofs.Ytcfgffkjbkpfhaa.Key
open Go.Proofs.Ytcfgffkjbkpfhaa.Addr hiding below_allocd
set_option linter.unusedVariables false
set_option linter.unusedSimpArgs false
set_option maxRecDepth 100000
attribute [-go_sem] Builtin.append_ loadCells loadCellsFrom storeCells run_eql_struct
set_option maxHeartbeats 2000000 in
theorem racompare_calls (s1 : Bool) (b1 : List UInt8) (h1 : b1.length = 16) (s2 : Bool) (b2 : List UInt8) (h2 : b2.length = 16) (w : World) :
    Calls Try.prog 52 #[adV s1 b1, adV s2 b2] w fun e w' => e = .returned (.int .i64 (cmpAd s1 b1 s2 b2)) ∧ Below w.heap.size w w' := by
  have hmx : Try.prog.follows .mixedOrders = true := by kernel_rfl
  obtain ⟨W1, hW1⟩ : ∃ W1, W1 = w.alloc (.cells (adA s1 b1) 39) := ⟨_, rfl⟩
  obtain ⟨W2, hW2⟩ : ∃ W2, W2 = W1.alloc (.cells (adA s2 b2) 39) := ⟨_, rfl⟩
  have hz : W1.heap.size = w.heap.size + 1 := by rw [hW1]; simp
  have hb1 : Below (w.alloc (.cells (adA s1 b1) 39)).heap.size (w.alloc (.cells (adA s1 b1) 39)) W2 := by rw [hW2, hW1]; exact (Below.refl _ _).alloc (Nat.le_refl _) _
  have hb2 : Below (W1.alloc (.cells (adA s2 b2) 39)).heap.size (W1.alloc (.cells (adA s2 b2) 39)) W2 := by rw [hW2]; exact Below.refl _ _
  have c1 := cell_six w W2 s1 b1 39 hb1
  have c2 := cell_six W1 W2 s2 b2 39 hb2
  have HC1 : Hid (∀ (m k : Nat) (hk : k < b1.length), (W2.drewN m).cell? ⟨w.heap.size, 1 + k, none⟩ = some (.int .u8 (b1[k].toNat : Int))) := Lib.hid (fun m k hk => cell_box w W2 (adCells s1 b1) 39 hb1 (1 + k) _ (by
    unfold adCells
    rw [Nat.add_comm, List.getElem?_cons_succ, List.getElem?_map, List.getElem?_eq_getElem hk]; rfl))
  have HC2 : Hid (∀ (m k : Nat) (hk : k < b2.length), (W2.drewN m).cell? ⟨w.heap.size + 1, 1 + k, none⟩ = some (.int .u8 (b2[k].toNat : Int))) := Lib.hid (fun m k hk => by
    have := cell_box W1 W2 (adCells s2 b2) 39 hb2 (1 + k) (.int .u8 (b2[k].toNat : Int)) (by
      unfold adCells
      rw [Nat.add_comm, List.getElem?_cons_succ, List.getElem?_map, List.getElem?_eq_getElem hk]; rfl)
    rw [hz] at this
    exact this)
  rw [hz] at c2
  have HB : Hid (∀ m, Below w.heap.size w (W2.drewN m)) := Lib.hid (fun m => below_drewN (below_allocd hb1) m)
  have HW : Hid (W2 = (w.alloc (.cells (adA s1 b1) 39)).alloc (.cells (adA s2 b2) 39)) := Lib.hid (by rw [hW2, hW1])
  rw [hW2, hW1] at c1 c2
  show Calls Try.prog 52 #[.agg (adA s1 b1), .agg (adA s2 b2)] w fun e w' => e = .returned (.int .i64 (cmpAd s1 b1 s2 b2)) ∧ Below w.heap.size w w'
  unfold cmpAd
  have hsz1 := adA_size s1 b1 h1
  have hsz2 := adA_size s2 b2 h2
  obtain ⟨R, hR⟩ : ∃ R, R = Lib.compareBytes b1 b2 := ⟨_, rfl⟩
  rw [← hR]
  have HR := Lib.hid hR
  clear hb1 hb2 hW1 hW2 hz hR
  generalize adA s1 b1 = xa at c1 c2 HW hsz1 ⊢
  generalize adA s2 b2 = ya at c1 c2 HW hsz2 ⊢
  cases s1 <;> cases s2
  case false.true | true.false =>
    go_enter Try.func52, Try.ntmps52
    go_wp2
    go_ret
    exact ⟨rfl, by rw [← HW.out]; exact HB.out 0⟩
  all_goals
    go_enter Try.func52, Try.ntmps52
    go_wp2
    rw [← HW.out]
    clear c1 c2
    go_loopw [13] (fun iv wr => ∃ k m : Nat, k ≤ 16 ∧ iv = .int .i64 (k : Int) ∧ Hid (R = Lib.compareBytes (b1.drop k) (b2.drop k)) ∧ wr = W2.drewN m) (fun iv _ => 16 - (intOf iv).toNat)
    case atStart => exact ⟨0, 0, Nat.zero_le _, rfl, HR, rfl⟩
    case round =>
      obtain ⟨k, m, hk, rfl, HL, rfl⟩ := hrel
      by_cases hlt : k < 16
      · have hc1 := HC1.out m k (by omega)
        have hc2 := HC2.out m k (by omega)
        have hd1 : W2.cell? ⟨w.heap.size, 1 + k, none⟩ = some (.int .u8 ((b1[k]'(by omega)).toNat : Int)) := HC1.out 0 k (by omega)
        have hd2 : W2.cell? ⟨w.heap.size + 1, 1 + k, none⟩ = some (.int .u8 ((b2[k]'(by omega)).toNat : Int)) := HC2.out 0 k (by omega)
        have HS := Lib.hid (HL.out.trans (bcompare_step b1 b2 k (by omega) (by omega)))
        have hki : (k : Int) < 16 := by omega
        have hk0 : (0 : Int) ≤ (k : Int) := by omega
        generalize b1[k]'(by omega) = x at hc1 hd1 HS
        generalize b2[k]'(by omega) = y at hc2 hd2 HS
        have hx := x.toNat_lt
        have hy := y.toNat_lt
        by_cases hxy : x < y
        · have HT : Hid (R = -1) := Lib.hid (by rw [HS.out, if_pos hxy])
          have h3 : (x.toNat : Int) < (y.toNat : Int) := by have := UInt8.lt_iff_toNat_lt.1 hxy; omega
          clear hxy
          go_wp2
          go_quiet (fail)
          go_wp2
          go_ret
          exact ⟨by rw [HT.out]; rfl, HB.out _⟩
        · have h3 : ¬ (x.toNat : Int) < (y.toNat : Int) := by have := mt UInt8.lt_iff_toNat_lt.2 hxy; omega
          by_cases hyx : y < x
          · have HT : Hid (R = 1) := Lib.hid (by rw [HS.out, if_neg hxy, if_pos hyx])
            have h4 : (y.toNat : Int) < (x.toNat : Int) := by have := UInt8.lt_iff_toNat_lt.1 hyx; omega
            clear hxy hyx
            go_wp2
            go_quiet (fail)
            go_wp2
            go_quiet (fail)
            go_wp2
            go_ret
            exact ⟨by rw [HT.out]; rfl, HB.out _⟩
          · have HT : Hid (R = Lib.compareBytes (b1.drop (k + 1)) (b2.drop (k + 1))) := Lib.hid (by rw [HS.out, if_neg hxy, if_neg hyx])
            have h4 : ¬ (y.toNat : Int) < (x.toNat : Int) := by have := mt UInt8.lt_iff_toNat_lt.2 hyx; omega
            clear hxy hyx
            go_wp2
            go_quiet (fail)
            go_wp2
            go_quiet (fail)
            go_wp2
            first
              | exact ⟨⟨k + 1, _, by omega, by go_num, HT, rfl⟩, by simp [intOf]; omega⟩
              | (go_roundw
                 case rel => exact ⟨k + 1, _, by omega, by go_num, HT, rfl⟩
                 case measure => simp [intOf]; omega)
      · have HT : Hid (R = 0) := Lib.hid (by rw [HL.out, List.drop_of_length_le (by omega), List.drop_of_length_le (by omega)]; rfl)
        go_wp2
        go_ret
        exact ⟨by rw [HT.out]; rfl, HB.out _⟩
theorem eq_keys (a b c d : ByteArray) (w : World) : (binOp .eql 47 (.agg #[.string a, .string b]) (.agg #[.string c, .string d])).run Try.prog w = .ok (.bool ((a.toList == c.toList) && (b.toList == d.toList))) w := by
  refine Seq.eql_of w 47 _ _ _ (fun dd => ?_)
  rw [show dd + 4 = (dd + 3) + 1 from rfl, Seq.equalIn_sig w (dd + 3) 47 _ _ [(true, 9, 0), (true, 9, 1)] (by kernel_rfl) (by kernel_rfl) (by kernel_rfl)]
  simp only [Seq.eqSig]
  cases h1 : (a.toList == c.toList) <;> cases h2 : (b.toList == d.toList) <;> simp_all [go_sem]
theorem rncompare_calls (a b c d : ByteArray) (w : World) : Calls Try.prog 53 #[.agg #[.string a, .string b], .agg #[.string c, .string d]] w fun e w' => e = .returned (.int .i64 (orL [cmpS a c, cmpS b d])) ∧ Below w.heap.size w w' := by
  have heq := eq_keys a b c d
  have l1 : (loadCells ⟨w.heap.size, 0, none⟩ 2).run Try.prog ((w.alloc (.cells #[.string a, .string b] 47)).alloc (.cells #[.string c, .string d] 47)) = .ok #[.string a, .string b] _ := ((Blk.new w [.string a, .string b] _ 47 _ rfl rfl).alloc _).load 0 2 _ rfl rfl
  have l2 : (loadCells ⟨w.heap.size + 1, 0, none⟩ 2).run Try.prog ((w.alloc (.cells #[.string a, .string b] 47)).alloc (.cells #[.string c, .string d] 47)) = .ok #[.string c, .string d] _ := (Blk.new _ [.string c, .string d] _ 47 _ rfl (by simp)).load 0 2 _ rfl rfl
  have hex : ∀ x y : ByteArray, Op.bytesLess x.toList y.toList = true → (x.toList == y.toList) = false := fun x y h => by
    cases he : (x.toList == y.toList)
    · rfl
    · rw [eq_of_beq he] at h
      rw [bytesLess_eq] at h
      exact absurd (of_decide_eq_true h) (List.lt_irrefl _)
  have q1 := hex a c
  have q2 := hex b d
  unfold cmpS
  have hl1 : Op.bytesLess a.toList c.toList = true ∨ Op.bytesLess a.toList c.toList = false := by cases Op.bytesLess a.toList c.toList <;> simp
  have he1 : (a.toList == c.toList) = true ∨ (a.toList == c.toList) = false := by cases (a.toList == c.toList) <;> simp
  have hl2 : Op.bytesLess b.toList d.toList = true ∨ Op.bytesLess b.toList d.toList = false := by cases Op.bytesLess b.toList d.toList <;> simp
  have he2 : (b.toList == d.toList) = true ∨ (b.toList == d.toList) = false := by cases (b.toList == d.toList) <;> simp
  clear hex
  rcases hl1 with hl1 | hl1 <;> rcases he1 with he1 | he1 <;> rcases hl2 with hl2 | hl2 <;> rcases he2 with he2 | he2
  all_goals first
    | exact absurd (q1 hl1) (by rw [he1]; decide)
    | exact absurd (q2 hl2) (by rw [he2]; decide)
    | (rw [hl1, he1, hl2, he2]
       rw [he1, he2] at heq
       clear q1 q2
       go_enter Try.func53, Try.ntmps53
       go_wp2
       go_ret
       exact ⟨rfl, ((Below.refl _ _).alloc (Nat.le_refl _) _).alloc (by simp) _⟩)
end Go.Proofs.Ytcfgffkjbkpfhaa.Tie
