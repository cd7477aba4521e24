/- Points as bytes: the document's. -/
import Derived.Test.YtmpdcdfnbkfabaaPorts
namespace Go.Proofs.Ytmpdcdfnbkfabaa.Addr
open Go.RowKit Go.Proofs.Ytmpdcdfnbkfabaa.Mem Go.Proofs.Ytmpdcdfnbkfabaa.Num Go.Proofs.Ytmpdcdfnbkfabaa.Clone
set_option linter.unusedVariables false
set_option linter.unusedSimpArgs false
set_option maxRecDepth 100000
attribute [-go_sem] Builtin.append_ loadCells loadCellsFrom
theorem refput_calls (six : Bool) (b : List UInt8) (hb : b.length = 16) (w : World) : Calls Try.prog 40 #[adV six b] w fun e w' => (∃ v, e = .returned v ∧ Own eU8 5 w.heap.size w' v (putL six b)) ∧ Below w.heap.size w w' := by
  have hle := adLen_le six
  have hrow := fun w1 h => box_row w w1 six b 24 (adLen six) (by rw [hb]; exact hle) hb h
  have hll : (b.take (adLen six)).length ≤ 16 := by rw [List.length_take]; omega
  have hp : putL six b = [if six then 6 else 4] ++ b.take (adLen six) := rfl
  have hc := adA_six six b
  have hsz1 : (w.alloc (.cells (adA six b) 24)).heap.size = w.heap.size + 1 := by simp
  rw [hp]
  generalize b.take (adLen six) = L at hrow hll ⊢
  clear hp hb
  cases six
  · simp only [adLen, Bool.false_eq_true, if_false, if_true] at hrow ⊢
    have HROW := Lib.hid (hrow _ ((Below.refl _ _).alloc (Nat.le_refl _) (.cells #[.int .u8 4] 5)))
    have HO := Own.lit (w.alloc (.cells (adA false b) 24)) w.heap.size eU8 5 [4] 1 rfl _ rfl (by simp) (by simp)
    rw [hsz1] at HO
    clear hrow
    go_enter Try.func40, Try.ntmps40
    go_wp2_with (at_builtin; (refine wp_append (E := eU8) w.heap.size rfl (.tmp 9) (.tmp 11) 29 5 _ 1 rfl Try.underlying29 infoU8 rfl (by decide) _ _ [4] L rfl rfl HO HROW.out (by simp; omega) (by simp; omega) ?_; intro v1 w2 ho1 hg1 hat1))
    go_ret
    exact ⟨⟨_, rfl, ho1⟩, below_app (((Below.refl _ _).alloc (Nat.le_refl _) _).alloc (by simp) _) (by simp; omega) HO hg1⟩
  · simp only [adLen, Bool.false_eq_true, if_false, if_true] at hrow ⊢
    have HROW := Lib.hid (hrow _ ((Below.refl _ _).alloc (Nat.le_refl _) (.cells #[.int .u8 6] 5)))
    have HO := Own.lit (w.alloc (.cells (adA true b) 24)) w.heap.size eU8 5 [6] 1 rfl _ rfl (by simp) (by simp)
    rw [hsz1] at HO
    clear hrow
    go_enter Try.func40, Try.ntmps40
    go_wp2_with (at_builtin; (refine wp_append (E := eU8) w.heap.size rfl (.tmp 5) (.tmp 7) 29 5 _ 1 rfl Try.underlying29 infoU8 rfl (by decide) _ _ [6] L rfl rfl HO HROW.out (by simp; omega) (by simp; omega) ?_; intro v1 w2 ho1 hg1 hat1))
    go_ret
    exact ⟨⟨_, rfl, ho1⟩, below_app (((Below.refl _ _).alloc (Nat.le_refl _) _).alloc (by simp) _) (by simp; omega) HO hg1⟩
theorem nine_mod (n : Int) : IntKind.u64.wrap n % 65536 = n % 65536 := by
  rw [IntKind.wrap_u64]; omega
set_option maxHeartbeats 4000000 in
theorem refports_calls (six : Bool) (b : List UInt8) (n : Int) (hb : b.length = 16) (w : World) : Calls Try.prog 24 #[ptV six b n] w fun e w' => (∃ v, e = .returned v ∧ Own eU8 5 w.heap.size w' v (pointL six b n)) ∧ Below w.heap.size w w' := by
  have hsz := fun W => refput_calls six b hb W
  have hll := putL_len six b
  have hld := fun w1 h => pt_loads six b n hb w w1 26 h
  have hpa := part_addr six b n hb
  have hpp := part_port six b n hb
  have e0 : (IntKind.u64.wrap n).tmod 65536 = n % 65536 := by rw [Int.tmod_eq_emod_of_nonneg (by rw [IntKind.wrap_u64]; omega)]; exact nine_mod n
  have e3 := Int.emod_nonneg n (show (65536 : Int) ≠ 0 by omega)
  have e4 := Int.emod_lt_of_pos n (show (0 : Int) < 65536 by omega)
  have hb1 : byteOf (n % 65536 / 256) = byteOf (n / 256) := by unfold byteOf; congr 2; omega
  have hb2 : byteOf (n % 65536 % 256) = byteOf n := by unfold byteOf; congr 2; omega
  have hp : pointL six b n = putL six b ++ [byteOf (n / 256), byteOf n] := rfl
  rw [hp, ← hb1, ← hb2]
  generalize n % 65536 = q at e0 e3 e4 ⊢
  have e1 := wrap8 (q / 256)
  have e2 := wrap8 (q % 256)
  generalize putL six b = L at hsz hll ⊢
  have HS := Lib.hid hsz
  have HLD := Lib.hid hld
  clear hsz hb hp hld hb1 hb2
  obtain ⟨l0, l1, l2⟩ := HLD.out _ (Below.refl _ _)
  obtain ⟨d0, d1, d2⟩ := HLD.out _ (Below.refl _ _).drew
  go_enter Try.func24, Try.ntmps24
  go_wp2_with (first
    | (go_at_call 40; ((with_reducible refine (HS.out _).mono ?_); rintro e w1 ⟨⟨v, rfl, hO⟩, hB⟩; obtain ⟨m0, m1, m2⟩ := HLD.out _ hB; have hO1 := Lib.hid (hO.lower (show w.heap.size ≤ _ by simp <;> omega)); have HB1 := Lib.hid (below_allocd hB); have hle1 := HB1.out.size; clear hO hB))
    | (at_builtin; go_loud (refine wp_append (E := eU8) w.heap.size rfl (.tmp 10) (.tmp 17) 29 5 _ 1 rfl Try.underlying29 infoU8 rfl (by decide) _ _ L [byteOf (q / 256), byteOf (q % 256)] rfl rfl (hO1.out.alloc _) (Own.lit w1 w.heap.size eU8 5 [byteOf (q / 256), byteOf (q % 256)] 2 rfl #[.int .u8 ((byteOf (q / 256)).toNat : Int), .int .u8 ((byteOf (q % 256)).toNat : Int)] rfl hle1 (by simp)).row (Nat.le_trans hle1 (by simp)) (by simp; omega) ?_; intro v1 w2 ho1 hg1 hat1)))
  go_ret
  exact ⟨⟨_, rfl, ho1⟩, below_app (HB1.out.alloc hle1 _) (Nat.le_trans hle1 (by simp)) (hO1.out.alloc _) hg1⟩
end Go.Proofs.Ytmpdcdfnbkfabaa.Addr
