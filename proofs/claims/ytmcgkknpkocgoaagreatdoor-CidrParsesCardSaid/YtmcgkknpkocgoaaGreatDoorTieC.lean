/- The document's Compare of addresses and of keys. -/
import Derived.Test.YtmcgkknpkocgoaaGreatDoorTieB
import Derived.Sort.Walk0
namespace Go.Proofs.YtmcgkknpkocgoaaGreatDoor.Tie
open Go.RowKit Go.Proofs.YtmcgkknpkocgoaaGreatDoor.Mem Go.Proofs.YtmcgkknpkocgoaaGreatDoor.Num Go.Proofs.YtmcgkknpkocgoaaGreatDoor.Key
open Go.Proofs.YtmcgkknpkocgoaaGreatDoor.Addr hiding below_allocd
set_option linter.unusedVariables false
set_option linter.unusedSimpArgs false
set_option maxRecDepth 100000
attribute [-go_sem] Builtin.append_ loadCells loadCellsFrom storeCells run_eql_struct
set_option maxHeartbeats 2000000 in
theorem racompare_calls (s1 : Bool) (b1 : List UInt8) (h1 : b1.length = 16) (s2 : Bool) (b2 : List UInt8) (h2 : b2.length = 16) (w : World) :
    Calls Tryz.prog 22 #[adV s1 b1, adV s2 b2] w fun e w' => e = .returned (.int .i64 (cmpAd s1 b1 s2 b2)) ∧ Below w.heap.size w w' := by
  have hmx : Tryz.prog.follows .mixedOrders = true := by kernel_rfl
  obtain ⟨W1, hW1⟩ : ∃ W1, W1 = w.alloc (.cells (adA s1 b1) 24) := ⟨_, rfl⟩
  obtain ⟨W2, hW2⟩ : ∃ W2, W2 = W1.alloc (.cells (adA s2 b2) 24) := ⟨_, rfl⟩
  have hz : W1.heap.size = w.heap.size + 1 := by rw [hW1]; simp
  have hb1 : Below (w.alloc (.cells (adA s1 b1) 24)).heap.size (w.alloc (.cells (adA s1 b1) 24)) W2 := by rw [hW2, hW1]; exact (Below.refl _ _).alloc (Nat.le_refl _) _
  have hb2 : Below (W1.alloc (.cells (adA s2 b2) 24)).heap.size (W1.alloc (.cells (adA s2 b2) 24)) W2 := by rw [hW2]; exact Below.refl _ _
  have c1 := cell_six w W2 s1 b1 24 hb1
  have c2 := cell_six W1 W2 s2 b2 24 hb2
  have HC1 : Hid (∀ (m k : Nat) (hk : k < b1.length), (W2.drewN m).cell? ⟨w.heap.size, 1 + k, none⟩ = some (.int .u8 (b1[k].toNat : Int))) := Lib.hid (fun m k hk => cell_box w W2 (adCells s1 b1) 24 hb1 (1 + k) _ (by
    unfold adCells
    rw [Nat.add_comm, List.getElem?_cons_succ, List.getElem?_map, List.getElem?_eq_getElem hk]; rfl))
  have HC2 : Hid (∀ (m k : Nat) (hk : k < b2.length), (W2.drewN m).cell? ⟨w.heap.size + 1, 1 + k, none⟩ = some (.int .u8 (b2[k].toNat : Int))) := Lib.hid (fun m k hk => by
    have := cell_box W1 W2 (adCells s2 b2) 24 hb2 (1 + k) (.int .u8 (b2[k].toNat : Int)) (by
      unfold adCells
      rw [Nat.add_comm, List.getElem?_cons_succ, List.getElem?_map, List.getElem?_eq_getElem hk]; rfl)
    rw [hz] at this
    exact this)
  rw [hz] at c2
  have HB : Hid (∀ m, Below w.heap.size w (W2.drewN m)) := Lib.hid (fun m => below_drewN (below_allocd hb1) m)
  have HW : Hid (W2 = (w.alloc (.cells (adA s1 b1) 24)).alloc (.cells (adA s2 b2) 24)) := Lib.hid (by rw [hW2, hW1])
  rw [hW2, hW1] at c1 c2
  show Calls Tryz.prog 22 #[.agg (adA s1 b1), .agg (adA s2 b2)] w fun e w' => e = .returned (.int .i64 (cmpAd s1 b1 s2 b2)) ∧ Below w.heap.size w w'
  unfold cmpAd
  have hsz1 := adA_size s1 b1 h1
  have hsz2 := adA_size s2 b2 h2
  obtain ⟨R, hR⟩ : ∃ R, R = Lib.compareBytes b1 b2 := ⟨_, rfl⟩
  rw [← hR]
  have HR := Lib.hid hR
  clear hb1 hb2 hW1 hW2 hz hR
  generalize adA s1 b1 = xa at c1 c2 HW hsz1 ⊢
  generalize adA s2 b2 = ya at c1 c2 HW hsz2 ⊢
  cases s1 <;> cases s2
  case false.true | true.false =>
    go_enter Tryz.func22, Tryz.ntmps22
    go_wp2
    go_ret
    exact ⟨rfl, by rw [← HW.out]; exact HB.out 0⟩
  all_goals
    go_enter Tryz.func22, Tryz.ntmps22
    go_wp2
    rw [← HW.out]
    clear c1 c2
    go_loopw [13] (fun iv wr => ∃ k m : Nat, k ≤ 16 ∧ iv = .int .i64 (k : Int) ∧ Hid (R = Lib.compareBytes (b1.drop k) (b2.drop k)) ∧ wr = W2.drewN m) (fun iv _ => 16 - (intOf iv).toNat)
    case atStart => exact ⟨0, 0, Nat.zero_le _, rfl, HR, rfl⟩
    case round =>
      obtain ⟨k, m, hk, rfl, HL, rfl⟩ := hrel
      by_cases hlt : k < 16
      · have hc1 := HC1.out m k (by omega)
        have hc2 := HC2.out m k (by omega)
        have hd1 : W2.cell? ⟨w.heap.size, 1 + k, none⟩ = some (.int .u8 ((b1[k]'(by omega)).toNat : Int)) := HC1.out 0 k (by omega)
        have hd2 : W2.cell? ⟨w.heap.size + 1, 1 + k, none⟩ = some (.int .u8 ((b2[k]'(by omega)).toNat : Int)) := HC2.out 0 k (by omega)
        have HS := Lib.hid (HL.out.trans (bcompare_step b1 b2 k (by omega) (by omega)))
        have hki : (k : Int) < 16 := by omega
        have hk0 : (0 : Int) ≤ (k : Int) := by omega
        generalize b1[k]'(by omega) = x at hc1 hd1 HS
        generalize b2[k]'(by omega) = y at hc2 hd2 HS
        have hx := x.toNat_lt
        have hy := y.toNat_lt
        by_cases hxy : x < y
        · have HT : Hid (R = -1) := Lib.hid (by rw [HS.out, if_pos hxy])
          have h3 : (x.toNat : Int) < (y.toNat : Int) := by have := UInt8.lt_iff_toNat_lt.1 hxy; omega
          clear hxy
          go_wp2
          go_quiet (fail)
          go_wp2
          go_ret
          exact ⟨by rw [HT.out]; rfl, HB.out _⟩
        · have h3 : ¬ (x.toNat : Int) < (y.toNat : Int) := by have := mt UInt8.lt_iff_toNat_lt.2 hxy; omega
          by_cases hyx : y < x
          · have HT : Hid (R = 1) := Lib.hid (by rw [HS.out, if_neg hxy, if_pos hyx])
            have h4 : (y.toNat : Int) < (x.toNat : Int) := by have := UInt8.lt_iff_toNat_lt.1 hyx; omega
            clear hxy hyx
            go_wp2
            go_quiet (fail)
            go_wp2
            go_quiet (fail)
            go_wp2
            go_ret
            exact ⟨by rw [HT.out]; rfl, HB.out _⟩
          · have HT : Hid (R = Lib.compareBytes (b1.drop (k + 1)) (b2.drop (k + 1))) := Lib.hid (by rw [HS.out, if_neg hxy, if_neg hyx])
            have h4 : ¬ (y.toNat : Int) < (x.toNat : Int) := by have := mt UInt8.lt_iff_toNat_lt.2 hyx; omega
            clear hxy hyx
            go_wp2
            go_quiet (fail)
            go_wp2
            go_quiet (fail)
            go_wp2
            first
              | exact ⟨⟨k + 1, _, by omega, by go_num, HT, rfl⟩, by simp [intOf]; omega⟩
              | (go_roundw
                 case rel => exact ⟨k + 1, _, by omega, by go_num, HT, rfl⟩
                 case measure => simp [intOf]; omega)
      · have HT : Hid (R = 0) := Lib.hid (by rw [HL.out, List.drop_of_length_le (by omega), List.drop_of_length_le (by omega)]; rfl)
        go_wp2
        go_ret
        exact ⟨by rw [HT.out]; rfl, HB.out _⟩
end Go.Proofs.YtmcgkknpkocgoaaGreatDoor.Tie
