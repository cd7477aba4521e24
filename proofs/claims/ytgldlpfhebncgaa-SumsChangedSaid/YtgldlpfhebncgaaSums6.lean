/- The law SumsChanged. -/
import Derived.Test.YtgldlpfhebncgaaSums5
namespace Go.Proofs.Ytgldlpfhebncgaa.Sums
open Go.RowKit Go.Proofs.Ytgldlpfhebncgaa.Mem Go.Proofs.Ytgldlpfhebncgaa.Num Go.Proofs.Ytgldlpfhebncgaa.SumsP
attribute [-go_sem] Builtin.append_
set_option linter.unusedVariables false
set_option linter.unusedSimpArgs false
set_option maxHeartbeats 2000000 in
theorem sumschanged_calls (v u : Value) (b nw : List UInt8) (at_ : Int) (w : World) (hv : Row eU8 w v b) (hu : Row eU8 w u nw) :
    Calls Try.prog 9 #[v, u, .int .i64 at_] w fun e w' => e = .returned (.bool true) ∧ Below w.heap.size w w' := by
  obtain ⟨A, ca, rfl, hca, hma, hra⟩ := hv.parts
  obtain ⟨B, cb, rfl, hcb, hmb, hrb⟩ := hu.parts
  have HA := Lib.hid hra
  have HB := Lib.hid hrb
  clear hv hu hra hrb
  by_cases h5 : 500 < b.length
  · go_enter Try.func9, Try.ntmps9
    go_wp2_with (go_at_call 24; ((with_reducible refine (alive_calls _).mono ?_); rintro e w1 ⟨rfl, hB1⟩; have HB1 := Lib.hid hB1; clear hB1))
    go_ret
    exact ⟨rfl, HB1.out⟩
  by_cases h5' : 500 < nw.length
  · go_enter Try.func9, Try.ntmps9
    go_wp2_with (go_at_call 24; ((with_reducible refine (alive_calls _).mono ?_); rintro e w1 ⟨rfl, hB1⟩; have HB1 := Lib.hid hB1; clear hB1))
    go_ret
    exact ⟨rfl, HB1.out⟩
  have hmx : Try.prog.follows .mixedOrders = true := by kernel_rfl
  obtain ⟨P, hP, hPl⟩ : ∃ P : Nat, (IntKind.u64.wrap at_).tmod ((b.length : Int) + 1) = (P : Int) ∧ P ≤ b.length := by
    have h0 : 0 ≤ IntKind.u64.wrap at_ := by rw [IntKind.wrap_u64]; omega
    rw [Int.tmod_eq_emod_of_nonneg h0]
    have h1 := Int.emod_nonneg (IntKind.u64.wrap at_) (show (b.length : Int) + 1 ≠ 0 by omega)
    have h2 := Int.emod_lt_of_pos (IntKind.u64.wrap at_) (show 0 < (b.length : Int) + 1 by omega)
    exact ⟨(IntKind.u64.wrap at_ % ((b.length : Int) + 1)).toNat, by omega, by omega⟩
  obtain ⟨q, hq, hql⟩ : ∃ q : Nat, (P : Int).tdiv 2 = (q : Int) ∧ q * 2 ≤ P := ⟨P / 2, by rw [Int.tdiv_eq_ediv_of_nonneg (by omega)]; omega, by omega⟩
  have hz : ((b.length : Int) + 1 == 0) = false := by rw [beq_eq_false_iff_ne]; omega
  obtain ⟨r, hrl1, hrl2, hcase⟩ : ∃ r : Nat, q * 2 + r * 2 ≤ b.length ∧ r * 2 ≤ nw.length ∧ (((b.length : Int) - (q : Int) * 2 < (nw.length : Int) ∧ ((b.length : Int) - (q : Int) * 2).tdiv 2 = (r : Int)) ∨ (¬ (b.length : Int) - (q : Int) * 2 < (nw.length : Int) ∧ (nw.length : Int).tdiv 2 = (r : Int))) := by
    by_cases hn : (b.length : Int) - (q : Int) * 2 < (nw.length : Int)
    · exact ⟨(b.length - q * 2) / 2, by omega, by omega, .inl ⟨hn, by rw [Int.tdiv_eq_ediv_of_nonneg (by omega)]; omega⟩⟩
    · exact ⟨nw.length / 2, by omega, by omega, .inr ⟨hn, by rw [Int.tdiv_eq_ediv_of_nonneg (by omega)]; omega⟩⟩
  obtain ⟨A1, hc1, _, _, hrow1⟩ := HA.out.cut (P := Try.prog) 26 5 Try.underlying26 infoU8 (q * 2) (q * 2 + r * 2) (by omega) (by omega)
  obtain ⟨A2, _, hc2, _, hrow2⟩ := HA.out.cut (P := Try.prog) 26 5 Try.underlying26 infoU8 0 (q * 2) (by omega) (by omega)
  obtain ⟨A3, _, _, hc3, hrow3⟩ := HA.out.cut (P := Try.prog) 26 5 Try.underlying26 infoU8 (q * 2 + r * 2) b.length (by omega) (by omega)
  obtain ⟨B1, _, hc4, _, hrow4⟩ := HB.out.cut (P := Try.prog) 26 5 Try.underlying26 infoU8 0 (r * 2) (by omega) (by omega)
  have cut1 : ∀ W, (Instr.slice 26 (.slice A b.length ca) (some (.int .i64 ((q : Int) * 2))) (some (.int .i64 ((q : Int) * 2 + (r : Int) * 2))) none).run Try.prog W = .ok (.slice A1 (q * 2 + r * 2 - q * 2) (ca - q * 2)) W := fun W => by simpa using hc1 W .i64 .i64
  have cut2 : ∀ W, (Instr.slice 26 (.slice A b.length ca) none (some (.int .i64 ((q : Int) * 2))) none).run Try.prog W = .ok (.slice A2 (q * 2) ca) W := fun W => by simpa using hc2 rfl W .i64
  have cut3 : ∀ W, (Instr.slice 26 (.slice A b.length ca) (some (.int .i64 ((q : Int) * 2 + (r : Int) * 2))) none none).run Try.prog W = .ok (.slice A3 (b.length - (q * 2 + r * 2)) (ca - (q * 2 + r * 2))) W := fun W => by simpa using hc3 rfl W .i64
  have cut4 : ∀ W, (Instr.slice 26 (.slice B nw.length cb) none (some (.int .i64 ((r : Int) * 2))) none).run Try.prog W = .ok (.slice B1 (r * 2) cb) W := fun W => by simpa using hc4 rfl W .i64
  have HW1 : Hid (∀ W, (∀ a v, w.cell? a = some v → W.cell? a = some v) → Row eU8 W (.slice A1 (r * 2) (ca - q * 2)) ((b.take (q * 2 + r * 2)).drop (q * 2))) := Lib.hid fun W hW => by have := hrow1 W hW; rwa [Nat.add_sub_cancel_left] at this
  have HW2 : Hid (∀ W, (∀ a v, w.cell? a = some v → W.cell? a = some v) → Row eU8 W (.slice A2 (q * 2) ca) (b.take (q * 2))) := Lib.hid fun W hW => by simpa using hrow2 W hW
  have HW3 : Hid (∀ W, (∀ a v, w.cell? a = some v → W.cell? a = some v) → Row eU8 W (.slice A3 (b.length - (q * 2 + r * 2)) (ca - (q * 2 + r * 2))) (b.drop (q * 2 + r * 2))) := Lib.hid fun W hW => by simpa using hrow3 W hW
  have HW4 : Hid (∀ W, (∀ a v, w.cell? a = some v → W.cell? a = some v) → Row eU8 W (.slice B1 (r * 2) cb) (nw.take (r * 2))) := Lib.hid fun W hW => by simpa using hrow4 W hW
  have hlaw := same_law b (nw.take (r * 2)) q r hrl1 (by rw [List.length_take]; omega)
  have hsm0 := fun W => same_calls (chgAll (checkN b) ((b.take (q * 2 + r * 2)).drop (q * 2)) (nw.take (r * 2))) (checkN ((b.take (q * 2) ++ nw.take (r * 2)) ++ b.drop (q * 2 + r * 2))) W
  rw [hlaw] at hsm0
  obtain ⟨nx, hnx⟩ : ∃ nx, (b.take (q * 2) ++ nw.take (r * 2)) ++ b.drop (q * 2 + r * 2) = nx := ⟨_, rfl⟩
  have hnl : nx.length ≤ 1500 := by rw [← hnx]; simp; omega
  rw [hnx] at hsm0
  have hsm := Lib.hid hsm0
  clear hsm0 hlaw
  clear hc1 hc2 hc3 hc4 hrow1 hrow2 hrow3 hrow4
  rcases hcase with ⟨hn, hr⟩ | ⟨hn, hr⟩
  all_goals
    go_enter Try.func9, Try.ntmps9
    go_wp2_with (go_at_call 24; ((with_reducible refine (alive_calls _).mono ?_); rintro e w1 ⟨rfl, hB1⟩; have HB1 := Lib.hid hB1; clear hB1))
    have hb0 : Below w.heap.size w (w1.alloc (.cells #[] 5)).drew := below_drewN (HB1.out.alloc HB1.out.size _) 1
    have hs0 : w.heap.size ≤ (w1.alloc (.cells #[] 5)).drew.heap.size := hb0.size
    have HO0 : Mem.Own eU8 5 w.heap.size (w1.alloc (.cells #[] 5)).drew (.slice (some ⟨w1.heap.size, 0, none⟩) 0 0) [] := (Own.lit w1 w.heap.size eU8 5 [] 0 rfl #[] rfl HB1.out.size (by simp)).drewN 1
    obtain ⟨v2, w2, hr2, ho2, hg2, hat2⟩ := run_append (P := Try.prog) (E := eU8) w.heap.size 26 26 5 _ 1 Try.underlying26 infoU8 rfl (by decide) _ _ (.slice A2 (q * 2) ca) [] (b.take (q * 2)) HO0 (HW2.out _ (fun a v h => cell_below hb0 h)) hs0 (by simp; omega)
    have hb2 := below_app hb0 hs0 HO0 hg2
    obtain ⟨v3, w3, hr3, ho3, hg3, hat3⟩ := run_append (P := Try.prog) (E := eU8) w.heap.size 26 26 5 _ 1 Try.underlying26 infoU8 rfl (by decide) w2 v2 (.slice B1 (r * 2) cb) _ (nw.take (r * 2)) ho2 (HW4.out _ (fun a v h => cell_below hb2 h)) hb2.size (by simp; omega)
    have hb3 := below_app hb2 hb2.size ho2 hg3
    obtain ⟨v4, w4, hr4, ho4, hg4, hat4⟩ := run_append (P := Try.prog) (E := eU8) w.heap.size 26 26 5 _ 1 Try.underlying26 infoU8 rfl (by decide) w3 v3 (.slice A3 (b.length - (q * 2 + r * 2)) (ca - (q * 2 + r * 2))) _ (b.drop (q * 2 + r * 2)) ho3 (HW3.out _ (fun a v h => cell_below hb3 h)) hb3.size (by simp; omega)
    have hb4 := below_app hb3 hb3.size ho3 hg4
    simp only [List.nil_append] at ho4
    rw [hnx] at ho4
    have HO4 := Lib.hid ho4
    have HB4 := Lib.hid hb4
    have HB4d : Hid (Below w.heap.size w w4.drew) := Lib.hid (below_drewN hb4 1)
    have HO4d : Hid (Mem.Own eU8 5 w.heap.size w4.drew v4 _) := Lib.hid (ho4.drewN 1)
    have hck := Lib.hid (check_calls _ b w4.drew (HA.out.below HB4d.out) (by omega))
    clear ho2 ho3 ho4 hb0 hs0 HO0 hb2 hb3 hb4 hg2 hg3 hg4 hat2 hat3 hat4
    go_region_o
    go_wp2
    go_region_with_o (first
      | (go_at_call 25; ((with_reducible refine hck.out.mono ?_); rintro e w5 ⟨rfl, hB5⟩; have HB5 := Lib.hid (below_next HB4d.out hB5); have HO5 := Lib.hid (HO4d.out.below hB5); clear hB5))
      | (go_at_call 35; ((with_reducible refine (changed_calls _ _ _ _ _ _ (HW1.out _ (fun a v h => cell_below HB5.out h)) (HW4.out _ (fun a v h => cell_below HB5.out h)) (by simp; omega) (by simp; omega)).mono ?_); rintro e w6 ⟨rfl, k6, rfl⟩; have HB6 := Lib.hid (below_drewN HB5.out k6); have HO6 := Lib.hid (HO5.out.drewN k6))))
    go_wp2
    have hrc := Lib.hid (fun n => refcheck_calls _ b (w5.drewN n) (HA.out.below (below_drewN HB5.out n)) (by omega))
    have hrd := Lib.hid (fun n => refchanged_calls (checkN b) _ _ _ _ (w5.drewN n) (HW1.out _ (fun a v h => cell_below (below_drewN HB5.out n) h)) (HW4.out _ (fun a v h => cell_below (below_drewN HB5.out n) h)) (by simp; omega) (by simp; omega))
    have hcn := Lib.hid (fun n => check_calls v4 _ (w5.drewN n) (HO5.out.drewN n).row (by omega))
    go_region_with_o (first
      | (go_at_call 26; ((with_reducible refine (hrc.out _).mono ?_); rintro e w' ⟨rfl, rfl⟩))
      | (go_at_call 36; ((with_reducible refine (hrd.out _).mono ?_); rintro e w7 ⟨rfl, k7, rfl⟩))
      | (go_at_call 25; ((with_reducible refine (hcn.out _).mono ?_); rintro e w8 ⟨rfl, hB8⟩; have HB8 := Lib.hid (below_next (below_drewN HB5.out _) hB8); clear hB8))
      | (go_at_call 33; ((with_reducible refine (hsm.out _).mono ?_); rintro e w' ⟨rfl, rfl⟩)))
    clear hnx
    all_goals go_wp2
    all_goals go_ret
    all_goals exact ⟨rfl, by assumption⟩
theorem changed_row (W : World) (v : Value) (l : List UInt8) (hv : Row eU8 W v l) (u : Value) (m : List UInt8) (hu : Row eU8 W u m) (n : Int) (hn : (Lit.int .i64 n).wf = true) : Calls Try.prog 9 #[v, u, .int .i64 n] W fun e W' => e = .returned (.bool true) ∧ Below W.heap.size W W' := sumschanged_calls _ _ _ _ _ _ hv hu
end Go.Proofs.Ytgldlpfhebncgaa.Sums
