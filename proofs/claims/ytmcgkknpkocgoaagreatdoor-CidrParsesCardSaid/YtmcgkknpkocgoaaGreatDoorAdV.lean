/- The document's number. -/
import Derived.Test.YtmcgkknpkocgoaaGreatDoorAdU
namespace Go.Proofs.YtmcgkknpkocgoaaGreatDoor.Ad
open Go.RowKit Go.Proofs.YtmcgkknpkocgoaaGreatDoor.Mem Go.Proofs.YtmcgkknpkocgoaaGreatDoor.Num Go.Proofs.YtmcgkknpkocgoaaGreatDoor.Err Go.Proofs.YtmcgkknpkocgoaaGreatDoor.AdP
open Go.Proofs.YtmcgkknpkocgoaaGreatDoor.Head (pad pad_len adCells_one adCells_len infoAd splice_ad)
open Go.Proofs.YtmcgkknpkocgoaaGreatDoor.Addr (adV adA adCells adA_size cell_box load_box cell_six)
set_option linter.unusedVariables false
set_option linter.unusedSimpArgs false
set_option maxRecDepth 100000
attribute [-go_sem] Builtin.append_
theorem pow16' (k : Nat) (h : k ≤ 4) : (16 : Int) ^ k ≤ 65536 := by
  rcases (show k = 0 ∨ k = 1 ∨ k = 2 ∨ k = 3 ∨ k = 4 by omega) with rfl | rfl | rfl | rfl | rfl <;> decide
set_option maxHeartbeats 2000000 in
theorem rnumber_calls (s : ByteArray) (base : Int) (most : Nat) (hbm : (base = 16 ∧ most = 4) ∨ (base = 10 ∧ most = 3)) (w : World) (hs : s.size ≤ 1000) :
    Calls Tryz.prog 92 #[.string s, .int .i64 base, .int .i64 (most : Int)] w fun e w' => e = .returned (.int .i64 (number s.data.toList base most)) ∧ w = w' := by
  have hsl : s.data.toList.length = s.size := Array.length_toList
  have hsi : (s.size : Int) ≤ 1000 := by omega
  by_cases hbad : s.data.toList.length < 1 ∨ most < s.data.toList.length
  · rw [number_small _ _ _ hbad]
    have hm4 : (most : Int) ≤ 4 := by omega
    by_cases h0 : s.size < 1
    · have h0i : (s.size : Int) < 1 := by omega
      clear hbad hsl hs h0 hbm
      go_enter Tryz.func92, Tryz.ntmps92
      go_wp2
      go_ret
      exact ⟨rfl, rfl⟩
    · have h0i : (1 : Int) ≤ (s.size : Int) := by omega
      have h1i : (most : Int) < (s.size : Int) := by omega
      clear hbad hsl hs h0 hbm
      go_enter Tryz.func92, Tryz.ntmps92
      go_wp2
      go_ret
      exact ⟨rfl, rfl⟩
  · have en : number s.data.toList base most = numL base 0 s.data.toList := by unfold number; rw [if_neg hbad]
    rw [en]
    have h0i : (1 : Int) ≤ (s.size : Int) := by omega
    have h1i : (s.size : Int) ≤ (most : Int) := by omega
    have hs4 : s.size ≤ 4 := by omega
    have HSL := Lib.hid hsl
    have HS4 := Lib.hid hs4
    have KF := Lib.hid (fun c W => figure_calls c W)
    clear hbad en hsl hs hs4
    rcases hbm with ⟨rfl, rfl⟩ | ⟨rfl, rfl⟩
    all_goals
      go_enter Tryz.func92, Tryz.ntmps92
      go_wp2
      go_loop [7, 8] (fun nv iv => ∃ (i : Nat) (n : Int), iv = .int .i64 (i : Int) ∧ nv = .int .i64 n ∧ i ≤ s.size ∧ Hid (0 ≤ n ∧ n < 16 ^ i) ∧ Hid (numL _ 0 s.data.toList = numL _ n (s.data.toList.drop i))) (fun _ iv => s.size - (intOf iv).toNat)
      case atStart => exact ⟨0, 0, rfl, rfl, Nat.zero_le _, Lib.hid (by decide), Lib.hid rfl⟩
      case round =>
        obtain ⟨i, n, rfl, rfl, hi, HN, HR⟩ := hrel
        by_cases hlt : i < s.size
        · have hil : i < s.data.toList.length := by rw [HSL.out]; exact hlt
          have hst := HR.out
          rw [List.drop_eq_getElem_cons hil, numL] at hst
          have hcc : s.data.toList[i] = s[i] := rfl
          rw [hcc] at hst
          have KF1 := Lib.hid (KF.out s[i])
          have hfr := fig_range s[i]
          have hn0 := HN.out.1
          have hn1 : n ≤ 65536 := by
            have h1 := pow16' i (by have := HS4.out; omega)
            have h2 := HN.out.2
            omega
          have hii : (i : Int) < (s.size : Int) := by omega
          clear hcc
          generalize fig s[i] = d at *
          by_cases hd : d < 0
          · have HS := Lib.hid (show numL _ 0 s.data.toList = -1 by rw [hst, if_pos (.inl hd)])
            obtain rfl : d = -1 := by omega
            clear hst hfr hd
            go_wp2_with (go_at_call 139; ((with_reducible refine (KF1.out _).mono ?_); rintro e w2 ⟨rfl, rfl⟩))
            go_ret
            exact ⟨by rw [HS.out]; rfl, rfl⟩
          · have hd0 : 0 ≤ d := by omega
            first
              | (by_cases hd10 : (10 : Int) ≤ d
                 · have HS := Lib.hid (show numL 10 0 s.data.toList = -1 by rw [hst, if_pos (.inr hd10)])
                   clear hst hfr hd
                   go_wp2_with (go_at_call 139; ((with_reducible refine (KF1.out _).mono ?_); rintro e w2 ⟨rfl, rfl⟩))
                   go_ret
                   exact ⟨by rw [HS.out]; rfl, rfl⟩
                 · have hd9 : d < 10 := by omega
                   have HS := Lib.hid (show numL 10 0 s.data.toList = numL 10 (n * 10 + d) (s.data.toList.drop (i + 1)) by rw [hst, if_neg (by omega)])
                   have HN1 := Lib.hid (show 0 ≤ n * 10 + d ∧ n * 10 + d < 16 ^ (i + 1) from ⟨by omega, by have := HN.out.2; rw [Int.pow_succ]; omega⟩)
                   clear hst hfr hd hd10
                   go_wp2_with (go_at_call 139; ((with_reducible refine (KF1.out _).mono ?_); rintro e w2 ⟨rfl, rfl⟩))
                   go_round
                   case rel => exact ⟨i + 1, _, by go_num, rfl, by omega, HN1, HS⟩
                   case measure => simp [intOf]; omega)
              | (have hd9 : d < 16 := by omega
                 have HS := Lib.hid (show numL 16 0 s.data.toList = numL 16 (n * 16 + d) (s.data.toList.drop (i + 1)) by rw [hst, if_neg (by omega)])
                 have HN1 := Lib.hid (show 0 ≤ n * 16 + d ∧ n * 16 + d < 16 ^ (i + 1) from ⟨by omega, by have := HN.out.2; rw [Int.pow_succ]; omega⟩)
                 clear hst hfr hd
                 go_wp2_with (go_at_call 139; ((with_reducible refine (KF1.out _).mono ?_); rintro e w2 ⟨rfl, rfl⟩))
                 go_round
                 case rel => exact ⟨i + 1, _, by go_num, rfl, by omega, HN1, HS⟩
                 case measure => simp [intOf]; omega)
        · have HS := Lib.hid (show numL _ 0 s.data.toList = n by rw [HR.out, List.drop_of_length_le (by have := HSL.out; omega)]; rfl)
          have hii : (s.size : Int) ≤ (i : Int) := by omega
          go_wp2
          go_ret
          exact ⟨by rw [HS.out]; rfl, rfl⟩
end Go.Proofs.YtmcgkknpkocgoaaGreatDoor.Ad
