/- addr.decimal; addr.dotted. -/
import Derived.Test.YtmcgkknpkocgoaaGreatDoorAdF
import Derived.Test.YtmcgkknpkocgoaaGreatDoorShelf2
import Derived.Test.YtmcgkknpkocgoaaGreatDoorAdJ
import Derived.Lib.AppendIntMem
namespace Go.Proofs.YtmcgkknpkocgoaaGreatDoor.Ad
open Go.RowKit Go.Proofs.YtmcgkknpkocgoaaGreatDoor.Mem Go.Proofs.YtmcgkknpkocgoaaGreatDoor.Num Go.Proofs.YtmcgkknpkocgoaaGreatDoor.Err Go.Proofs.YtmcgkknpkocgoaaGreatDoor.AdP
open Go.Proofs.YtmcgkknpkocgoaaGreatDoor.Head (pad pad_len adCells_one adCells_len infoAd splice_ad)
open Go.Proofs.YtmcgkknpkocgoaaGreatDoor.Addr (adV adA adCells)
set_option linter.unusedVariables false
set_option linter.unusedSimpArgs false
set_option maxRecDepth 100000
attribute [-go_sem] Builtin.append_ loadCells loadCellsFrom storeCells
/-- What addr.decimal answers, in the library's words. -/
def decP (s : List UInt8) : Int := match Lib.parseUintB 8 s with
  | .ok u => if 3 < s.length then -1 else if Lib.decDigits u = s then (u : Int) else -1
  | _ => -1
theorem itoa_calls (ea : Addr) (n : Nat) (hn : n ≤ 1000000) (w : World) (hE : Env ea w) :
    Calls Tryz.prog 79 #[.int .i64 (n : Int)] w fun e w' => e = .returned (.string (str (Lib.decDigits n))) ∧ Below w.heap.size w w' := by
  refine (Tryz.strconv_Itoa (n : Int) (by omega) (by omega) w (hE.pow w (Below.refl _ _))).mono ?_
  rintro e w' ⟨rfl, k, os, rfl⟩
  refine ⟨?_, Lib.below_grow _ w (Nat.le_refl _) k os⟩
  have : Lib.itoa (n : Int) = Lib.decDigits n := by unfold Lib.itoa; rw [if_neg (by omega)]; simp
  rw [this]
theorem par_le : ∀ (l : List UInt8) (acc u : Nat), acc ≤ 255 → Lib.parseUintM 255 acc l = .ok u → u ≤ 255
  | [], acc, u, ha, h => by
    simp only [Lib.parseUintM] at h
    injection h with h
    omega
  | c :: r, acc, u, ha, h => by
    simp only [Lib.parseUintM] at h
    split at h
    · split at h
      · cases h
      · split at h
        · cases h
        · exact par_le r _ u (by omega) h
    · cases h
theorem parB_le (l : List UInt8) (u : Nat) (h : Lib.parseUintB 8 l = .ok u) : u ≤ 255 := by
  unfold Lib.parseUintB at h
  split at h
  · cases h
  · exact par_le l 0 u (by omega) h
set_option maxHeartbeats 1000000 in
theorem decimal_calls (ea : Addr) (s : ByteArray) (w : World) (hE : Env ea w) (hs : s.size ≤ 1000) :
    Calls Tryz.prog 137 #[.string s] w fun e w' => e = .returned (.int .i64 (decP s.data.toList)) ∧ Below w.heap.size w w' := by
  have hsl : s.data.toList.length = s.size := Array.length_toList
  have HE := Lib.hid hE
  unfold decP
  match hp : Lib.parseUintB 8 s.data.toList with
  | .ok u =>
    have hu := parB_le _ u hp
    have KP := Lib.hid (fun W => Tryz.strconv_ParseUint_10_at8_ok s (by omega) u hp W)
    have KI := Lib.hid (fun W hE => itoa_calls ea u (by omega) W hE)
    have hui : (u : Int) ≤ 255 := by omega
    simp only
    by_cases h3 : 3 < s.data.toList.length
    · rw [if_pos h3]
      have h3i : (3 : Int) < (s.size : Int) := by omega
      have h3b : decide ((3 : Int) < (s.size : Int)) = true := decide_eq_true h3i
      clear hE hs hsl hp hu h3
      go_enter Tryz.func137, Tryz.ntmps137
      go_wp2_with (go_at_call 166; ((with_reducible refine (KP.out _).mono ?_); rintro e w1 ⟨rfl, hw⟩; have HB : Hid (Below w.heap.size w w1) := Lib.hid (by rcases hw with rfl | ⟨t, rfl⟩; exact Below.refl _ _; exact Joins.below_bytesWorld _ w 5 _ (Nat.le_refl _)); clear hw))
      go_ret
      exact ⟨rfl, HB.out⟩
    · rw [if_neg h3]
      have h3i : (s.size : Int) ≤ 3 := by omega
      by_cases he : Lib.decDigits u = s.data.toList
      · rw [if_pos he]
        have hes : str (Lib.decDigits u) = s := by rw [he]
        rw [hes] at KI
        clear hE hs hsl hp hu h3 he hes
        go_enter Tryz.func137, Tryz.ntmps137
        go_wp2_with (first
          | (go_at_call 166; ((with_reducible refine (KP.out _).mono ?_); rintro e w1 ⟨rfl, hw⟩; have HB : Hid (Below w.heap.size w w1) := Lib.hid (by rcases hw with rfl | ⟨t, rfl⟩; exact Below.refl _ _; exact Joins.below_bytesWorld _ w 5 _ (Nat.le_refl _)); clear hw))
          | (go_at_call 79; ((with_reducible refine (KI.out _ (HE.out.below HB.out)).mono ?_); rintro e w2 ⟨rfl, hb2⟩; have HB2 := Lib.hid (HB.out.trans (hb2.mono HB.out.size)); clear hb2)))
        go_ret
        exact ⟨rfl, HB2.out⟩
      · rw [if_neg he]
        have hq : ((str (Lib.decDigits u)).toList == s.toList) = false := by
          rw [ByteArray.toList_eq, ByteArray.toList_eq]
          exact beq_eq_false_iff_ne.mpr he
        clear hE hs hsl hp hu h3 he
        generalize str (Lib.decDigits u) = d at *
        go_enter Tryz.func137, Tryz.ntmps137
        go_wp2_with (first
          | (go_at_call 166; ((with_reducible refine (KP.out _).mono ?_); rintro e w1 ⟨rfl, hw⟩; have HB : Hid (Below w.heap.size w w1) := Lib.hid (by rcases hw with rfl | ⟨t, rfl⟩; exact Below.refl _ _; exact Joins.below_bytesWorld _ w 5 _ (Nat.le_refl _)); clear hw))
          | (go_at_call 79; ((with_reducible refine (KI.out _ (HE.out.below HB.out)).mono ?_); rintro e w2 ⟨rfl, hb2⟩; have HB2 := Lib.hid (HB.out.trans (hb2.mono HB.out.size)); clear hb2)))
        go_ret
        exact ⟨rfl, HB2.out⟩
  | Lib.NumEnd.syntax =>
    obtain ⟨te, pe, hv⟩ := hE.eS
    have KP := Lib.hid (Tryz.strconv_ParseUint_10_at8_syntax s (by omega) hp (.iface te pe) w hv (.inr ⟨te, pe, rfl⟩))
    clear hE hs hsl hp hv
    go_enter Tryz.func137, Tryz.ntmps137
    go_wp2_with (go_at_call 166; ((with_reducible refine KP.out.mono ?_); rintro e w1 ⟨N, rfl, _, _, hb⟩; have HB := Lib.hid hb; clear hb))
    go_ret
    exact ⟨rfl, HB.out⟩
  | Lib.NumEnd.range =>
    obtain ⟨te, pe, hv⟩ := hE.eR
    have KP := Lib.hid (Tryz.strconv_ParseUint_10_at8_range s (by omega) hp (.iface te pe) w hv (.inr ⟨te, pe, rfl⟩))
    clear hE hs hsl hp hv
    go_enter Tryz.func137, Tryz.ntmps137
    go_wp2_with (go_at_call 166; ((with_reducible refine KP.out.mono ?_); rintro e w1 ⟨N, rfl, _, _, hb⟩; have HB := Lib.hid hb; clear hb))
    go_ret
    exact ⟨rfl, HB.out⟩
end Go.Proofs.YtmcgkknpkocgoaaGreatDoor.Ad
