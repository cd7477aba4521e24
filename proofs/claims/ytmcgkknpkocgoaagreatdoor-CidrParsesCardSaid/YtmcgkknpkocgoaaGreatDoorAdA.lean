/- addr.group: a group's number. -/
import Derived.Test.YtmcgkknpkocgoaaGreatDoorAdE
import Derived.LoopTactic
import Derived.Handy
import Derived.Outline
import Derived.Lib.SmallJoins
import Derived.Laws.BitsLemmas
namespace Go.Proofs.YtmcgkknpkocgoaaGreatDoor.Ad
open Go.RowKit Go.Proofs.YtmcgkknpkocgoaaGreatDoor.Mem Go.Proofs.YtmcgkknpkocgoaaGreatDoor.Num Go.Proofs.YtmcgkknpkocgoaaGreatDoor.Err Go.Proofs.YtmcgkknpkocgoaaGreatDoor.AdP
set_option linter.unusedVariables false
set_option linter.unusedSimpArgs false
set_option maxRecDepth 100000
theorem conv_bytes (w1 : World) (l : List UInt8) : ∃ c W2, (convert 9 39 (.string ⟨l.toArray⟩)).run Tryz.prog w1 = .ok (.slice (some ⟨w1.heap.size, 0, none⟩) l.length c) W2 ∧
    (Hid (∀ (j : Nat) (hj : j < l.length), W2.cell? ⟨w1.heap.size, j, none⟩ = some (.int .u8 (l[j].toNat : Int)))) ∧ Hid (Below w1.heap.size w1 W2) :=
  ⟨_, _, Lib.run_convert_string_bytes w1 9 39 5 ⟨l.toArray⟩ Tryz.underlying9 Tryz.underlying39 Tryz.underlying5,
    Lib.hid (fun j hj => by rw [Lib.bytesWorld_cell w1 5 ⟨l.toArray⟩ j (by show j < l.toArray.size; simpa using hj)]; simp [List.getD_eq_getElem?_getD, List.getElem?_eq_getElem hj]),
    Lib.hid (Joins.below_bytesWorld _ w1 5 _ (Nat.le_refl _))⟩
theorem join4 (m x : Int) (hm : 0 ≤ m) (hm2 : m < 4096) (hx : 0 ≤ x) (hx2 : x < 16) : bits .or .i64 (m * 16) x = m * 16 + x :=
  by
  obtain ⟨a, rfl⟩ : ∃ a : Nat, m = a := ⟨m.toNat, by omega⟩
  obtain ⟨b, rfl⟩ : ∃ b : Nat, x = b := ⟨x.toNat, by omega⟩
  have ha : (BitVec.ofInt 64 ((a : Int) * 16)).toNat = a * 16 := by
    rw [show ((a : Int) * 16) = ((a * 16 : Nat) : Int) by simp, BitVec.ofInt_natCast, BitVec.toNat_ofNat]; exact Nat.mod_eq_of_lt (by omega)
  have hb : (BitVec.ofInt 64 (b : Int)).toNat = b := by
    rw [BitVec.ofInt_natCast, BitVec.toNat_ofNat]; exact Nat.mod_eq_of_lt (by omega)
  show IntKind.i64.wrap ((BitVec.ofInt 64 ((a : Int) * 16) ||| BitVec.ofInt 64 (b : Int)).toNat : Int) = _
  rw [BitVec.toNat_or, ha, hb, IntKind.wrap_i64]
  have : a * 16 ||| b = a * 16 + b := by
    rw [show a * 16 = 2 ^ 4 * a by omega]
    exact (Nat.two_pow_add_eq_or_of_lt (by omega) a).symm
  rw [this]
  omega
theorem pow16 (k : Nat) (h : k ≤ 3) : (16 : Int) ^ k ≤ 4096 := by
  rcases (show k = 0 ∨ k = 1 ∨ k = 2 ∨ k = 3 by omega) with rfl | rfl | rfl | rfl <;> decide
def RetInt (n : Int) (e : Ending) : Prop := e = .returned (.int .i64 n)
theorem number_small (s : List UInt8) (b : Int) (m : Nat) (h : s.length < 1 ∨ m < s.length) : number s b m = -1 := by unfold number; rw [if_pos h]
set_option maxHeartbeats 1000000 in
theorem group_calls (ea : Addr) (s : ByteArray) (w : World) (hE : Env ea w) (hs : s.size ≤ 4294967000) :
    Calls Tryz.prog 164 #[.string s] w fun e w' => e = .returned (.int .i64 (number s.data.toList 16 4)) ∧ Below w.heap.size w w' := by
  have hsl : s.data.toList.length = s.size := Array.length_toList
  by_cases h0 : s.size = 0
  · rw [number_small _ _ _ (.inl (by omega))]
    obtain rfl : s = ByteArray.empty := ByteArray.ext (Array.eq_empty_of_size_eq_zero h0)
    clear h0 hsl hs
    go_enter Tryz.func164, Tryz.ntmps164
    go_wp2
    go_ret
    exact ⟨rfl, Below.refl _ _⟩
  · have hne : s.toList.isEmpty = false := by
      rw [ByteArray.toList_eq]
      cases h : s.data.toList with
      | nil => rw [h] at hsl; simp at hsl; omega
      | cons a l => rfl
    have hne2 : (s.toList = []) = False := by
      rw [eq_iff_iff, iff_false]; intro e; rw [e] at hne; simp at hne
    by_cases h4 : 4 < s.size
    · rw [number_small _ _ _ (.inr (by omega))]
      have h4i : (4 : Int) < (s.size : Int) := by omega
      have HS := Lib.hid hs
      clear h0 hsl hs h4
      go_enter Tryz.func164, Tryz.ntmps164
      go_wp2
      go_ret
      exact ⟨rfl, Below.refl _ _⟩
    · have en : number s.data.toList 16 4 = hexL 0 (Lib.toLowerD s.data.toList) := by
        unfold number; rw [if_neg (by omega), hexL_lower]
      rw [en]
      have HSH := Lib.hid (fun k hk h => Nat.le_trans (lower_short s.data.toList k hk h) (by omega : s.data.toList.length ≤ 4))
      have KL := Lib.hid (fun W hcs hu => Tryz.strings_ToLower_any s W (by omega) hcs hu)
      have h4i : (s.size : Int) ≤ 4 := by omega
      have HE := Lib.hid hE
      clear en h0 hsl hs h4 hE
      generalize Lib.toLowerD s.data.toList = t at *
      go_enter Tryz.func164, Tryz.ntmps164
      go_wp2_with (go_at_call 197; ((with_reducible refine (KL.out _ HE.out.cs HE.out.u8).mono ?_); rintro e w1 ⟨rfl, hb1⟩; obtain ⟨c2, W2, hcv, HC2, HB2⟩ := conv_bytes w1 t; have HB1 := Lib.hid hb1; clear hb1))
      have HBB := Lib.hid (HB1.out.trans (HB2.out.mono HB1.out.size))
      have h0h : Hid (hexL 0 t = hexL 0 (t.drop 0)) := Lib.hid rfl
      go_loop [3, 18] (fun nv iv => ∃ (k : Nat) (n : Int), k ≤ t.length ∧ iv = .int .i64 (k : Int) ∧ nv = .int .i64 n ∧ Hid (hexL 0 t = hexL n (t.drop k)) ∧ Hid (0 ≤ n ∧ n < 16 ^ k) ∧ Hid (∀ (j : Nat) (c : UInt8), j < k → t[j]? = some c → 0 ≤ hx c)) (fun _ iv => t.length - (intOf iv).toNat)
      case atStart => exact ⟨0, 0, Nat.zero_le _, rfl, rfl, h0h, Lib.hid (by decide), Lib.hid (fun j c hj => by omega)⟩
      case round =>
        obtain ⟨k, n, hk, rfl, rfl, HR, HN, HP⟩ := hrel
        have hk4 : k ≤ 4 := HSH.out k hk HP.out
        by_cases hlt : k < t.length
        · have hcell : W2.cell? ⟨w1.heap.size, k, none⟩ = some (.int .u8 (t[k].toNat : Int)) := HC2.out k hlt
          have hd : t.drop k = t[k] :: t.drop (k + 1) := List.drop_eq_getElem_cons hlt
          have hstep : hexL 0 t = if hx t[k] < 0 then -1 else hexL (n * 16 + hx t[k]) (t.drop (k + 1)) := by rw [HR.out, hd, hexL]
          have HG := Lib.hid (show t[k]? = some t[k] from List.getElem?_eq_getElem hlt)
          have hxr := hx_range t[k]
          have hcb := t[k].toNat_lt
          generalize t[k] = x at hcell hstep HG hxr hcb
          have hbyte : ((x.toNat : Int).toNat.toUInt8) = x := by simp
          have KI := Lib.hid (fun W => Tryz.strings_IndexByte ⟨hexes.toArray⟩ (x.toNat : Int) W)
          rw [hbyte] at KI
          have KI2 : Hid (∀ W, Calls Tryz.prog 198 #[.string ⟨#[48, 49, 50, 51, 52, 53, 54, 55, 56, 57, 97, 98, 99, 100, 101, 102]⟩, .int .u8 (x.toNat : Int)] W fun e w' => e = .returned (.int .i64 (hx x)) ∧ w' = W) := KI
          clear KI hd hbyte
          by_cases hneg : hx x < 0
          · rw [if_pos hneg] at hstep
            have HST := Lib.hid hstep
            have hm1 : hx x = -1 := by omega
            rw [hm1] at KI2
            clear hstep hneg hxr hm1 hcb hk4
            go_wp2_with (go_at_call 198; ((with_reducible refine (KI2.out _).mono ?_); rintro e w3 ⟨rfl, rfl⟩))
            go_ret
            exact ⟨by rw [HST.out]; rfl, HBB.out⟩
          · rw [if_neg hneg] at hstep
            have hp1 : ∀ (j : Nat) (c : UInt8), j < k + 1 → t[j]? = some c → 0 ≤ hx c := fun j c hj hc => by
              by_cases hjk : j < k
              · exact HP.out j c hjk hc
              · obtain rfl : j = k := by omega
                have := HG.out.symm.trans hc
                injection this with this
                subst this
                omega
            have hk1 := HSH.out (k + 1) (by omega) hp1
            have HP1 := Lib.hid hp1
            have hn16 : n < 4096 := Int.lt_of_lt_of_le HN.out.2 (pow16 k (by omega))
            have hn0 := HN.out.1
            have hnp := HN.out.2
            have HST := Lib.hid hstep
            clear hp1 hstep hk4
            generalize hx x = d at *
            have hd0 : 0 ≤ d := by omega
            have hd1 : d < 16 := by omega
            have hn1 : n < 4096 := hn16
            have hj := join4 n d hn0 hn1 hd0 hd1
            have HN1 : Hid (0 ≤ n * 16 + d ∧ n * 16 + d < 16 ^ (k + 1)) := Lib.hid ⟨by omega, by rw [Int.pow_succ]; omega⟩
            clear hneg hxr hn16 hnp hcb
            go_wp2_with (go_at_call 198; ((with_reducible refine (KI2.out _).mono ?_); rintro e w3 ⟨rfl, rfl⟩))
            go_round
            case rel => exact ⟨k + 1, _, by omega, by go_num, rfl, HST, HN1, HP1⟩
            case measure => simp [intOf]; omega
        · have hkt : t.length ≤ k := by omega
          have HST : Hid (hexL 0 t = n) := Lib.hid (by rw [HR.out, List.drop_of_length_le hkt]; rfl)
          go_wp2
          go_ret
          exact ⟨by rw [HST.out]; rfl, HBB.out⟩
end Go.Proofs.YtmcgkknpkocgoaaGreatDoor.Ad
