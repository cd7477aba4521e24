/- addr.Right and the document's. -/
import Derived.Test.YtmcgkknpkocgoaaGreatDoorAdS
import Derived.Test.YtmcgkknpkocgoaaGreatDoorAdM
import Derived.Test.YtmcgkknpkocgoaaGreatDoorShelf3
namespace Go.Proofs.YtmcgkknpkocgoaaGreatDoor.Ad
open Go.RowKit Go.Proofs.YtmcgkknpkocgoaaGreatDoor.Mem Go.Proofs.YtmcgkknpkocgoaaGreatDoor.Num Go.Proofs.YtmcgkknpkocgoaaGreatDoor.Err Go.Proofs.YtmcgkknpkocgoaaGreatDoor.AdP
open Go.Proofs.YtmcgkknpkocgoaaGreatDoor.Head (pad pad_len adCells_one adCells_len infoAd splice_ad)
open Go.Proofs.YtmcgkknpkocgoaaGreatDoor.Addr (adV adA adCells adA_size cell_box load_box cell_six)
set_option linter.unusedVariables false
set_option linter.unusedSimpArgs false
set_option maxRecDepth 100000
attribute [-go_sem] Builtin.append_ loadCells loadCellsFrom storeCells
theorem drop_nil {α : Type} (p : α → Bool) : ∀ l : List α, l.dropWhile p = [] ↔ ∀ x ∈ l, p x = true
  | [] => by simp
  | a :: l => by
    have ih := drop_nil p l
    by_cases h : p a = true
    · rw [List.dropWhile_cons_of_pos h, ih]; simp [h]
    · rw [List.dropWhile_cons_of_neg h]; simp [h]
theorem drop_head {α : Type} (p : α → Bool) : ∀ (l : List α) (a : α) (r : List α), l.dropWhile p = a :: r → p a = false
  | [], a, r, h => by simp at h
  | b :: l, a, r, h => by
    by_cases hb : p b = true
    · rw [List.dropWhile_cons_of_pos hb] at h; exact drop_head p l a r h
    · rw [List.dropWhile_cons_of_neg hb] at h
      injection h with h1 h2
      subst h1
      simpa using hb
theorem trim_nil (l : List UInt8) : Lib.trimS l [0] = [] ↔ ∀ x ∈ l, x = 0 := by
  unfold Lib.trimS Lib.trimLeftS Lib.trimRightS
  have hp : ∀ x : UInt8, (([0] : List UInt8).contains x) = true ↔ x = 0 := by intro x; simp
  rw [drop_nil]
  constructor
  · intro h
    cases hd : l.reverse.dropWhile (([0] : List UInt8).contains ·) with
    | nil =>
      intro x hx
      exact (hp x).1 ((drop_nil _ _).1 hd x (by simpa using hx))
    | cons a r =>
      have h1 := drop_head _ _ _ _ hd
      have h2 := h a (by rw [hd]; simp)
      rw [h2] at h1; cases h1
  · intro h x hx
    have : x ∈ l := by
      have h1 : x ∈ l.reverse.dropWhile (([0] : List UInt8).contains ·) := by simpa using hx
      have := (List.dropWhile_sublist (l := l.reverse) (([0] : List UInt8).contains ·)).subset h1
      simpa using this
    exact (hp x).2 (h x this)
theorem trim_le (l cs : List UInt8) : (Lib.trimS l cs).length ≤ (Lib.trimRightS l cs).length := by
  unfold Lib.trimS Lib.trimLeftS
  exact (List.dropWhile_sublist _).length_le
/-- Is an address right? -/
def rightA (six : Bool) (b : List UInt8) : Bool := six || (b.drop 4).all (· == 0)
theorem trim_calls (g : Nat) (b : List UInt8) (n : Nat) (W : World) (hb : b.length = n) (hn : 0 < n) (hn2 : n ≤ 1000) (hc : ∀ (i : Nat) (hi : i < n), W.cell? ⟨g, 5 + i, none⟩ = some (.int .u8 ((b.getD i 0).toNat : Int))) :
    Calls Tryz.prog 83 #[.slice (some ⟨g, 5, none⟩) n n, .string ⟨#[0]⟩] W fun e w' => (∃ A k c, e = .returned (.slice A k c) ∧ decide (k = 0) = b.all (· == 0) ∧ k ≤ 1000) ∧ Below W.heap.size W w' := by
  refine (Tryz.bytes_Trim_one (some ⟨g, 5, none⟩) n n b 0 W hb (Nat.le_refl _) (by omega) (fun _ => ⟨g, 5, rfl, fun i hi => hc i hi⟩) hn (by decide)).mono ?_
  rintro e w' ⟨rfl, q, rfl⟩
  have hle := trim_le b [0]
  have hle2 : (Lib.trimRightS b [0]).length ≤ b.length := by
    unfold Lib.trimRightS
    rw [List.length_reverse]
    exact Nat.le_trans (List.dropWhile_sublist _).length_le (by simp)
  have hnil := trim_nil b
  have hall : b.all (· == 0) = true ↔ ∀ x ∈ b, x = 0 := by simp
  refine ⟨?_, below_drewN (Below.refl _ _) q⟩
  unfold Lib.leftV Lib.fromV
  by_cases h0 : (Lib.trimS b [0]).length = 0
  · rw [if_pos (by omega)]
    refine ⟨_, _, _, rfl, ?_, by omega⟩
    rw [hall.2 (hnil.1 (List.eq_nil_of_length_eq_zero h0))]
    rfl
  · rw [if_neg (by omega)]
    refine ⟨_, _, _, rfl, ?_, by omega⟩
    have h1 : b.all (· == 0) = false := by
      rw [Bool.eq_false_iff]
      intro h
      exact h0 (by rw [hnil.2 (hall.1 h)]; rfl)
    rw [h1]
    exact decide_eq_false (by omega)
set_option maxHeartbeats 1000000 in
theorem right_calls' (six : Bool) (b : List UInt8) (hb : b.length = 16) (w : World) :
    Calls Tryz.prog 16 #[adV six b] w fun e w' => e = .returned (.bool (rightA six b)) ∧ Below w.heap.size w w' := by
  cases six with
  | true => exact right_six b hb w
  | false =>
    have c0 := cell_six w (w.alloc (.cells (adA false b) 24)) false b 24 (Below.refl _ _)
    have hsz := adA_size false b hb
    have hcs : ∀ (i : Nat) (hi : i < 12), (w.alloc (.cells (adA false b) 24)).cell? ⟨w.heap.size, 5 + i, none⟩ = some (.int .u8 (((b.drop 4).getD i 0).toNat : Int)) := fun i hi => by
      refine cell_box w _ (adCells false b) 24 (Below.refl _ _) (5 + i) _ ?_
      unfold adCells
      rw [show 5 + i = (4 + i) + 1 by omega, List.getElem?_cons_succ, List.getElem?_map, List.getElem?_eq_getElem (by omega), List.getD_eq_getElem?_getD, List.getElem?_drop, List.getElem?_eq_getElem (by omega)]
      rfl
    have KT := Lib.hid (trim_calls w.heap.size (b.drop 4) 12 (w.alloc (.cells (adA false b) 24)) (by simp [hb]) (by omega) (by omega) hcs)
    show Calls Tryz.prog 16 #[.agg (adA false b)] w fun e w' => e = .returned (.bool (rightA false b)) ∧ Below w.heap.size w w'
    unfold rightA
    generalize (b.drop 4).all (· == 0) = q at KT ⊢
    generalize adA false b = ca at *
    clear hcs
    go_enter Tryz.func16, Tryz.ntmps16
    go_wp2_with (go_at_call 83; ((with_reducible refine KT.out.mono ?_); rintro e w1 ⟨⟨A, k, c, rfl, hk, hk2⟩, hb1⟩; have HK := Lib.hid hk; have HB := Lib.hid (below_allocd hb1); have hki : (k : Int) ≤ 1000 := (by omega); clear hk hk2 hb1))
    go_ret
    have e : ((k : Int) == 0) = decide (k = 0) := by rw [Bool.eq_iff_iff]; simp
    exact ⟨by rw [Bool.false_or, ← HK.out, ← e]; rfl, HB.out⟩
theorem all_drop (b : List UInt8) (i : Nat) (hi : i < b.length) : (b.drop i).all (· == 0) = ((b[i] == 0) && (b.drop (i + 1)).all (· == 0)) := by
  rw [List.drop_eq_getElem_cons hi, List.all_cons]
set_option maxHeartbeats 1000000 in
theorem rright_calls' (six : Bool) (b : List UInt8) (hb : b.length = 16) (w : World) :
    Calls Tryz.prog 17 #[adV six b] w fun e w' => e = .returned (.bool (rightA six b)) ∧ Below w.heap.size w w' := by
  have c0 := cell_six w (w.alloc (.cells (adA six b) 24)) six b 24 (Below.refl _ _)
  have hsz := adA_size six b hb
  have hcs : ∀ (i : Nat) (hi : i < 16), (w.alloc (.cells (adA six b) 24)).cell? ⟨w.heap.size, 1 + i, none⟩ = some (.int .u8 ((b[i]'(by omega)).toNat : Int)) := fun i hi => by
    refine cell_box w _ (adCells six b) 24 (Below.refl _ _) (1 + i) _ ?_
    unfold adCells
    rw [Nat.add_comm, List.getElem?_cons_succ, List.getElem?_map, List.getElem?_eq_getElem (by omega)]
    rfl
  have HCS := Lib.hid hcs
  have HD := Lib.hid (fun i hi => all_drop b i hi)
  have HB16 := Lib.hid hb
  show Calls Tryz.prog 17 #[.agg (adA six b)] w fun e w' => e = .returned (.bool (rightA six b)) ∧ Below w.heap.size w w'
  generalize adA six b = ca at *
  have HBA := Lib.hid ((Below.refl w.heap.size w).alloc (Nat.le_refl _) (.cells ca 24))
  clear hcs
  go_enter Tryz.func17, Tryz.ntmps17
  go_wp2
  generalize w.alloc (.cells ca 24) = W at *
  go_loop [3] (fun iv => ∃ i : Nat, i ≤ 16 ∧ 4 ≤ i ∧ iv = .int .i64 (i : Int) ∧ Hid (rightA six b = (six || (b.drop i).all (· == 0)))) (fun iv => 16 - (intOf iv).toNat)
  case atStart => exact ⟨4, by omega, by omega, rfl, Lib.hid rfl⟩
  case round =>
    obtain ⟨i, hi, hi4, rfl, HR⟩ := hrel
    by_cases hlt : i < 16
    · have hc := HCS.out i hlt
      have hst := HR.out
      rw [HD.out i (by have := HB16.out; omega)] at hst
      have hii : (i : Int) < 16 := by omega
      have hi0 : (0 : Int) ≤ (i : Int) := by omega
      generalize b[i]'(by have := HB16.out; omega) = x at *
      cases six with
      | true =>
        have HS : Hid (rightA true b = (true || (b.drop (i + 1)).all (· == 0))) := Lib.hid rfl
        clear hst HR
        go_wp2
        go_round
        case rel => exact ⟨i + 1, by omega, by omega, by go_num, HS⟩
        case measure => simp [intOf]; omega
      | false =>
        by_cases hx : x = 0
        · subst hx
          have HS : Hid (rightA false b = (false || (b.drop (i + 1)).all (· == 0))) := Lib.hid (by rw [hst]; rfl)
          have hc : W.cell? ⟨w.heap.size, 1 + i, none⟩ = some (.int .u8 0) := hc
          clear hst HR
          go_wp2
          go_round
          case rel => exact ⟨i + 1, by omega, by omega, by go_num, HS⟩
          case measure => simp [intOf]; omega
        · have hx0 : ((x.toNat : Int) == 0) = false := beq_eq_false_iff_ne.mpr (fun h => hx (by
            have : x.toNat = 0 := by omega
            exact UInt8.toNat_inj.1 (by simpa using this)))
          have hx1 : ((x.toNat : Int) != 0) = true := by rw [bne, hx0]; rfl
          have HS : Hid (rightA false b = false) := Lib.hid (by rw [hst, beq_eq_false_iff_ne.mpr hx]; rfl)
          clear hst HR hx
          generalize x.toNat = X at *
          go_wp2
          go_ret
          exact ⟨by rw [HS.out]; rfl, HBA.out⟩
    · obtain rfl : i = 16 := by omega
      have HS : Hid (rightA six b = true) := Lib.hid (by rw [HR.out, List.drop_of_length_le (by have := HB16.out; omega)]; simp)
      go_wp2
      go_ret
      exact ⟨by rw [HS.out]; rfl, HBA.out⟩
end Go.Proofs.YtmcgkknpkocgoaaGreatDoor.Ad
