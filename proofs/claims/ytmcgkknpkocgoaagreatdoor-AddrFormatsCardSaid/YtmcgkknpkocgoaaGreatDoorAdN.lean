/- The chapter's example (addresses); the plain law of orders. -/
import Derived.Test.YtmcgkknpkocgoaaGreatDoorAdM
import Derived.Test.YtmcgkknpkocgoaaGreatDoorTieC
namespace Go.Proofs.YtmcgkknpkocgoaaGreatDoor.Ad
open Go.RowKit Go.Proofs.YtmcgkknpkocgoaaGreatDoor.Mem Go.Proofs.YtmcgkknpkocgoaaGreatDoor.Num Go.Proofs.YtmcgkknpkocgoaaGreatDoor.Err Go.Proofs.YtmcgkknpkocgoaaGreatDoor.AdP Go.Proofs.YtmcgkknpkocgoaaGreatDoor.Key
open Go.Proofs.YtmcgkknpkocgoaaGreatDoor.Head (pad pad_len infoAd splice_ad)
open Go.Proofs.YtmcgkknpkocgoaaGreatDoor.Addr (adV adA adCells adA_size cell_box load_box cell_six)
open Go.Proofs.YtmcgkknpkocgoaaGreatDoor.Tie (cmpAd acompare_calls racompare_calls)
set_option linter.unusedVariables false
set_option linter.unusedSimpArgs false
set_option maxRecDepth 100000
attribute [-go_sem] Builtin.append_ loadCells loadCellsFrom storeCells run_eql_struct
abbrev b2001 : List UInt8 := [32, 1, 13, 184, 0, 0, 0, 0, 0, 0, 0, 0, 0, 0, 0, 1]
abbrev c2001 : List Value := [.int .u8 32, .int .u8 1, .int .u8 13, .int .u8 184, .int .u8 0, .int .u8 0, .int .u8 0, .int .u8 0, .int .u8 0, .int .u8 0, .int .u8 0, .int .u8 0, .int .u8 0, .int .u8 0, .int .u8 0, .int .u8 1]
abbrev a2001 : List Value := [.bool true, .int .u8 32, .int .u8 1, .int .u8 13, .int .u8 184, .int .u8 0, .int .u8 0, .int .u8 0, .int .u8 0, .int .u8 0, .int .u8 0, .int .u8 0, .int .u8 0, .int .u8 0, .int .u8 0, .int .u8 0, .int .u8 1]
theorem a2001_one : ∀ v ∈ a2001, v.oneCell' = true := by decide
theorem eq2001 (W : World) : (binOp .eql 22 (.agg c2001.toArray) (.agg c2001.toArray)).run Tryz.prog W = .ok (.bool true) W := by
  have h := key_b16 3 b2001 rfl
  exact (eql_deep (D := 5) (D' := 5) (by kernel_rfl) true ⟨fun _ => rfl, fun _ => rfl⟩ (by kernel_rfl) (by kernel_rfl) h h W).1
set_option maxHeartbeats 1000000 in
theorem alive2_calls (ea : Addr) (w : World) (hE : Env ea w) : Calls Tryz.prog 14 #[] w fun e w' => e = .returned (.bool true) ∧ Below w.heap.size w w' := by
  have KP : Hid (∀ W, Env ea W → Calls Tryz.prog 19 #[.string ⟨#[50, 48, 48, 49, 58, 100, 98, 56, 58, 58, 49]⟩] W fun e w' => e = .returned (.tuple #[.agg a2001.toArray, .nilIface]) ∧ Below W.heap.size W w') := Lib.hid (fun W hE => by
    refine (parse_colon ea ⟨#[50, 48, 48, 49, 58, 100, 98, 56, 58, 58, 49]⟩ W hE (by decide) (by decide)).mono ?_
    rintro e w' ⟨h, hb⟩
    have e1 : coloned [50, 48, 48, 49, 58, 100, 98, 56, 58, 58, 49] = some b2001 := by decide
    rw [show ((⟨#[50, 48, 48, 49, 58, 100, 98, 56, 58, 58, 49]⟩ : ByteArray).data.toList) = [50, 48, 48, 49, 58, 100, 98, 56, 58, 58, 49] from rfl, e1] at h
    exact ⟨h, hb⟩)
  have KF : Hid (∀ W, Env ea W → Calls Tryz.prog 15 #[.agg a2001.toArray] W fun e w' => e = .returned (.string ⟨#[50, 48, 48, 49, 58, 100, 98, 56, 58, 58, 49]⟩) ∧ Below W.heap.size W w') := Lib.hid (fun W hE => by
    have := format_six ea b2001 rfl W hE
    rw [show fmt6 b2001 = [50, 48, 48, 49, 58, 100, 98, 56, 58, 58, 49] by decide +kernel] at this
    exact this)
  have HE := Lib.hid hE
  have heq := eq2001
  clear hE
  go_enter Tryz.func14, Tryz.ntmps14
  go_wp2_with (first
    | (go_at_call 19; ((with_reducible refine (KP.out _ HE.out).mono ?_); rintro e w1 ⟨rfl, hb⟩; have HB1 := Lib.hid hb; clear hb))
    | (refine wp_store_blk rfl 24 (.tmp 1) (.tmp 5) rfl w1.heap.size 0 (adCells false zero16) a2001 24 _ rfl rfl rfl (Blk.new _ _ _ _ _ rfl rfl) (by decide) infoAd a2001_one (by decide) ?_; intro w5 hk5 ha5; have hld : (loadCells ⟨w1.heap.size, 0, none⟩ 17).run Tryz.prog w5 = .ok a2001.toArray w5 := Blk.load (cs := a2001) hk5 0 17 a2001 rfl rfl; have hld2 : (loadCells ⟨w1.heap.size, 1, none⟩ 16).run Tryz.prog w5 = .ok c2001.toArray w5 := Blk.load (cs := a2001) hk5 1 16 c2001 rfl rfl; have hc0 : w5.cell? ⟨w1.heap.size, 0, none⟩ = some (.bool true) := Blk.cell (cs := a2001) hk5 0 (.bool true) rfl; have HB5 := Lib.hid (HB1.out.trans ((below_alt (below_own_alloc w1 _) ha5 (by simp) (fun k hk => by omega)).mono HB1.out.size)); clear hk5 ha5)
    | (go_at_call 15; ((with_reducible refine (KF.out _ (HE.out.below HB5.out)).mono ?_); rintro e w6 ⟨rfl, hb⟩; have HB6 := Lib.hid (HB5.out.trans (hb.mono HB5.out.size)); clear hb)))
  go_ret
  exact ⟨rfl, HB6.out⟩
/-! Orders, plainly. -/
theorem cmp_self : ∀ l : List UInt8, Lib.compareBytes l l = 0
  | [] => rfl
  | a :: l => by
    have := cmp_self l
    simp [Lib.compareBytes, this]
theorem cmp_swap : ∀ l r : List UInt8, Lib.compareBytes r l = - Lib.compareBytes l r
  | [], [] => rfl
  | [], _ :: _ => rfl
  | _ :: _, [] => rfl
  | a :: l, b :: r => by
    have ih := cmp_swap l r
    simp only [Lib.compareBytes]
    have h1 : ¬ (a < b ∧ b < a) := fun ⟨h, h'⟩ => by
      have := UInt8.lt_iff_toNat_lt.1 h; have := UInt8.lt_iff_toNat_lt.1 h'; omega
    by_cases hab : a < b
    · by_cases hba : b < a
      · exact absurd ⟨hab, hba⟩ h1
      · simp [hab, hba]
    · by_cases hba : b < a
      · simp [hab, hba]
      · simp [hab, hba, ih]
theorem cmp_vals : ∀ l r : List UInt8, Lib.compareBytes l r = -1 ∨ Lib.compareBytes l r = 0 ∨ Lib.compareBytes l r = 1
  | [], [] => .inr (.inl rfl)
  | [], _ :: _ => .inl rfl
  | _ :: _, [] => .inr (.inr rfl)
  | a :: l, b :: r => by
    have ih := cmp_vals l r
    simp only [Lib.compareBytes]
    by_cases hab : a < b
    · simp [hab]
    · by_cases hba : b < a
      · simp [hab, hba]
      · simp [hab, hba]; exact ih
theorem cmp_trans : ∀ l m r : List UInt8, Lib.compareBytes l m ≤ 0 → Lib.compareBytes m r ≤ 0 → Lib.compareBytes l r ≤ 0
  | [], _, [], _, _ => by simp [Lib.compareBytes]
  | [], _, _ :: _, _, _ => by simp [Lib.compareBytes]
  | _ :: _, [], _, h, _ => by simp [Lib.compareBytes] at h
  | _ :: _, _ :: _, [], _, h => by simp [Lib.compareBytes] at h
  | a :: l, b :: m, c :: r, h1, h2 => by
    have ih := cmp_trans l m r
    simp only [Lib.compareBytes] at h1 h2 ⊢
    have e : ∀ x y : UInt8, x < y ↔ x.toNat < y.toNat := fun x y => UInt8.lt_iff_toNat_lt
    simp only [e] at h1 h2 ⊢
    by_cases hab : a.toNat < b.toNat
    · by_cases hbc : b.toNat < c.toNat
      · rw [if_pos (by omega)]; decide
      · rw [if_neg hbc] at h2
        by_cases hcb : c.toNat < b.toNat
        · rw [if_pos hcb] at h2; omega
        · rw [if_pos (by omega)]; decide
    · rw [if_neg hab] at h1
      by_cases hba : b.toNat < a.toNat
      · rw [if_pos hba] at h1; omega
      · rw [if_neg hba] at h1
        by_cases hbc : b.toNat < c.toNat
        · rw [if_pos (by omega)]; decide
        · rw [if_neg hbc] at h2
          by_cases hcb : c.toNat < b.toNat
          · rw [if_pos hcb] at h2; omega
          · rw [if_neg hcb] at h2
            rw [if_neg (by omega), if_neg (by omega)]
            exact ih h1 h2
theorem ad_self (s : Bool) (b : List UInt8) : cmpAd s b s b = 0 := by unfold cmpAd; simp [cmp_self]
theorem ad_swap (s1 : Bool) (b1 : List UInt8) (s2 : Bool) (b2 : List UInt8) : cmpAd s2 b2 s1 b1 = - cmpAd s1 b1 s2 b2 := by
  unfold cmpAd
  cases s1 <;> cases s2 <;> simp [cmp_swap b1 b2]
theorem ad_vals (s1 : Bool) (b1 : List UInt8) (s2 : Bool) (b2 : List UInt8) : cmpAd s1 b1 s2 b2 = -1 ∨ cmpAd s1 b1 s2 b2 = 0 ∨ cmpAd s1 b1 s2 b2 = 1 := by
  have := cmp_vals b1 b2
  unfold cmpAd
  cases s1 <;> cases s2 <;> simp [this]
theorem ad_trans (s1 : Bool) (b1 : List UInt8) (s2 : Bool) (b2 : List UInt8) (s3 : Bool) (b3 : List UInt8) (h1 : cmpAd s1 b1 s2 b2 ≤ 0) (h2 : cmpAd s2 b2 s3 b3 ≤ 0) : cmpAd s1 b1 s3 b3 ≤ 0 := by
  have := cmp_trans b1 b2 b3
  unfold cmpAd at *
  cases s1 <;> cases s2 <;> cases s3 <;> simp_all
end Go.Proofs.YtmcgkknpkocgoaaGreatDoor.Ad
