/- Package octets and its document's answer: numbers, texts and flags as bytes. -/
import Derived.Test.YtmpdcdfnbkfabaaDoorErrNum
import Derived.Test.YtmpdcdfnbkfabaaDoorNum
import Derived.BigQuiet
import Derived.Deep.QuietTactic
namespace Go.Proofs.YtmpdcdfnbkfabaaDoor.Octets
open Go.RowKit Go.Proofs.YtmpdcdfnbkfabaaDoor.Mem Go.Proofs.YtmpdcdfnbkfabaaDoor.Err Go.Proofs.YtmpdcdfnbkfabaaDoor.Num
set_option linter.unusedVariables false
set_option linter.unusedSimpArgs false
theorem ret_i64 {a b : Int} (h : a = b) : Ending.returned (.int .i64 a) = .returned (.int .i64 b) := by rw [h]

/-- The i-th of k bytes of a number. -/
def beByte (n k i : Nat) : UInt8 := UInt8.ofNat (n / 2 ^ (8 * (k - 1 - i)) % 256)
/-- The k bytes of a number. -/
def beBytes (n k : Nat) : List UInt8 := (List.range k).map (beByte n k)
theorem beBytes_len (n k : Nat) : (beBytes n k).length = k := by simp [beBytes]
theorem beBytes_take (n k j : Nat) (h : j < k) : (beBytes n k).take (j + 1) = (beBytes n k).take j ++ [beByte n k j] := by
  rw [List.take_succ_eq_append_getElem (by rw [beBytes_len]; exact h)]
  simp [beBytes]
theorem beByte_int (n k i : Nat) : ((beByte n k i).toNat : Int) = (n : Int) / 2 ^ (8 * (k - 1 - i)) % 256 := by
  unfold beByte
  rw [UInt8.toNat_ofNat_of_lt' (Nat.mod_lt _ (by decide))]
  simp
/-- Is it no number of so many bytes? -/
def numBad (n size : Int) : Prop := size < 1 ∨ 8 < size ∨ n < 0 ∨ 4611686018427387904 < n ∨ size < 8 ∧ 0 < n / 2 ^ (8 * size).toNat
theorem num_no (n size : Int) (w : World) (e0 : Addr) (h : numBad n size) (he : Holds w 2 e0) (hs : size ≤ 9223372036854775807) :
    Calls Tryd.prog 47 #[.int .i64 n, .int .i64 size] w fun e w' => e = .returned (.tuple #[.slice none 0 0, .iface 131 (.pointer (some e0))]) ∧ ∃ k, w' = w.drewN k := by
  have hc : w.cell? ⟨2, 0, none⟩ = some (.iface 131 (.pointer (some e0))) := he.1
  have H := Lib.hid h
  clear h he
  by_cases h1 : size < 1
  · go_enter Tryd.func47, Tryd.ntmps47
    go_wp2
    go_quiet (fail)
    go_wp2
    go_ret2
    exact ⟨rfl, _, rfl⟩
  · by_cases h2 : 8 < size
    · go_enter Tryd.func47, Tryd.ntmps47
      go_wp2
      go_quiet (fail)
      go_wp2
      go_ret2
      exact ⟨rfl, _, rfl⟩
    · by_cases h3 : n < 0
      · go_enter Tryd.func47, Tryd.ntmps47
        go_wp2
        go_quiet (fail)
        go_wp2
        go_ret2
        exact ⟨rfl, _, rfl⟩
      · by_cases h4 : 4611686018427387904 < n
        · go_enter Tryd.func47, Tryd.ntmps47
          go_wp2
          go_quiet (fail)
          go_wp2
          go_ret2
          exact ⟨rfl, _, rfl⟩
        · have h5 : size < 8 ∧ 0 < n / 2 ^ (8 * size).toNat := by
            rcases H.out with h | h | h | h | h <;> first | exact h | omega
          obtain ⟨h6, h7⟩ := h5
          have h8 : 0 ≤ 8 * size := by omega
          have h9 : 8 * size ≤ 64 := by omega
          go_enter Tryd.func47, Tryd.ntmps47
          go_wp2
          go_quiet (fail)
          go_wp2
          go_ret2
          exact ⟨rfl, _, rfl⟩
def RetBytes (base : Nat) (w' : World) (l : List UInt8) (e : Ending) : Prop := ∃ v, Own eU8 5 base w' v l ∧ e = .returned (.tuple #[v, .nilIface])
theorem num_calls (n size : Nat) (w : World) (h1 : 1 ≤ size) (h2 : size ≤ 8) (h3 : n ≤ 4611686018427387904) (h4 : size < 8 → n / 2 ^ (8 * size) = 0) :
    Calls Tryd.prog 47 #[.int .i64 (n : Int), .int .i64 (size : Int)] w fun e w' => RetBytes w.heap.size w' (beBytes n size) e ∧ Below w.heap.size w w' := by
  have h5 : ((size : Int) < 8) → (n : Int) / 2 ^ (8 * size) = 0 := fun h => by
    have := h4 (by omega)
    rw [show ((n : Int) / 2 ^ (8 * size)) = ((n / 2 ^ (8 * size) : Nat) : Int) by simp, this]; rfl
  have H5 := Lib.hid h5
  clear h4 h5
  by_cases h8 : size < 8
  all_goals
    first
      | (have q := H5.out (by omega); have q' : decide (0 < (n : Int) / 2 ^ (8 * size)) = false := by rw [q]; rfl
         clear q
         go_enter Tryd.func47, Tryd.ntmps47
         go_wp2)
      | (go_enter Tryd.func47, Tryd.ntmps47
         go_wp2)
    go_loopw [6, 7] (fun v i wr => ∃ j : Nat, j ≤ size ∧ i = .int .i64 ((j : Int) - 1) ∧ Own eU8 5 w.heap.size wr v ((beBytes n size).take (size - j)) ∧ Below w.heap.size w wr) (fun _ i _ => (intOf i + 1).toNat)
    case atStart => exact ⟨size, Nat.le_refl _, rfl, by rw [Nat.sub_self]; exact Own.nil _ _ _ _, Below.refl _ _⟩
    case round =>
      obtain ⟨j, hj, hi, ho, hb⟩ := hrel
      cases j with
      | zero =>
        subst hi
        rw [Nat.sub_zero, List.take_of_length_le (by rw [beBytes_len]; omega)] at ho
        have HO := Lib.hid ho
        clear ho
        go_wp2
        go_ret2
        exact ⟨⟨_, HO.out, rfl⟩, hb⟩
      | succ j =>
        rw [show (((j + 1 : Nat) : Int) - 1) = (j : Int) by omega] at hi
        subst hi
        have HO := Lib.hid ho
        have g1 : 8 * (j : Int) ≤ 64 := by omega
        clear ho
        go_wp2_with (at_builtin; refine wp_append (E := eU8) w.heap.size rfl (.tmp 40) (.tmp 46) 27 5 _ 1 rfl Tryd.underlying27 infoU8 rfl (by decide) _ _ _ [beByte n size (size - (j + 1))] rfl rfl (HO.out.alloc _) (Own.lit _ 0 eU8 5 [beByte n size (size - (j + 1))] 1 rfl _ (by rw [all_u8, List.map_cons, List.map_nil, beByte_int, show size - 1 - (size - (j + 1)) = j by omega]) (Nat.zero_le _) (by simp)).row (size_alloc_le hb _) (by simp; omega) ?_; intro v1 w1 ho1 hg1 hat1)
        go_roundw
        case rel => exact ⟨j, by omega, by simp, by rw [show size - j = (size - (j + 1)) + 1 by omega, beBytes_take _ _ _ (by omega)]; exact ho1, below_app (hb.alloc hb.size _) (size_alloc_le hb _) (HO.out.alloc _) hg1⟩
        case measure => simp [intOf]

/-- What a number's bytes are, and the error's number. -/
def numL (n size : Int) : List UInt8 × Nat := if size < 1 ∨ 8 < size ∨ n < 0 ∨ 4611686018427387904 < n ∨ size < 8 ∧ 0 < n / 2 ^ (8 * size).toNat then ([], 1) else (beBytes n.toNat size.toNat, 0)
/-- A call answered bytes and an error. -/
def BytesErr (es : List Addr) (l : List UInt8) (r : Nat) (w' : World) (e : Ending) : Prop := ∃ v u, e = .returned (.tuple #[v, u]) ∧ Row eU8 w' v l ∧ ErrIs es r u
theorem numU_calls (n size : Int) (w : World) (es : List Addr) (he : Errs w es) (hs : size ≤ 9223372036854775807) :
    Calls Tryd.prog 47 #[.int .i64 n, .int .i64 size] w fun e w' => BytesErr es (numL n size).1 (numL n size).2 w' e ∧ Below w.heap.size w w' := by
  have hl := he.1
  by_cases hb : size < 1 ∨ 8 < size ∨ n < 0 ∨ 4611686018427387904 < n ∨ size < 8 ∧ 0 < n / 2 ^ (8 * size).toNat
  · have hh : Holds w 2 (es[0]'(by omega)) := he.2.2 0 (by omega)
    refine (num_no n size w _ hb hh hs).mono ?_
    rintro e w' ⟨rfl, k, rfl⟩
    unfold numL
    rw [if_pos hb]
    exact ⟨⟨_, _, rfl, Row.nil _ _, .inr ⟨0, by omega, rfl, rfl⟩⟩, below_drewN (Below.refl _ _) k⟩
  · obtain ⟨m, rfl⟩ : ∃ m : Nat, n = m := ⟨n.toNat, by omega⟩
    obtain ⟨k, rfl⟩ : ∃ k : Nat, size = k := ⟨size.toNat, by omega⟩
    have h4 : k < 8 → m / 2 ^ (8 * k) = 0 := by
      intro hk
      have h5 : ¬ (0 : Int) < (m : Int) / 2 ^ (8 * (k : Int)).toNat := fun h => hb (.inr (.inr (.inr (.inr ⟨by omega, h⟩))))
      rw [show (8 * (k : Int)).toNat = 8 * k by omega, show ((m : Int) / 2 ^ (8 * k)) = ((m / 2 ^ (8 * k) : Nat) : Int) by simp] at h5
      rcases Nat.eq_zero_or_pos (m / 2 ^ (8 * k)) with h6 | h6
      · exact h6
      · exact absurd (Int.natCast_pos.2 h6) h5
    refine (num_calls m k w (by omega) (by omega) (by omega) h4).mono ?_
    rintro e w' ⟨⟨v, hv, rfl⟩, h⟩
    unfold numL
    rw [if_neg hb]
    exact ⟨⟨_, _, rfl, hv.row, .inl ⟨rfl, rfl⟩⟩, h⟩
theorem text_no (s : ByteArray) (w : World) (e0 : Addr) (h : 255 < s.size) (he : Holds w 4 e0) (hs : s.size ≤ 9223372036854775807) :
    Calls Tryd.prog 48 #[.string s] w fun e w' => e = .returned (.tuple #[.slice none 0 0, .iface 131 (.pointer (some e0))]) ∧ ∃ k, w' = w.drewN k := by
  have hc : w.cell? ⟨4, 0, none⟩ = some (.iface 131 (.pointer (some e0))) := he.1
  clear he
  go_enter Tryd.func48, Tryd.ntmps48
  go_wp2
  go_quiet (fail)
  go_wp2
  go_ret2
  exact ⟨rfl, _, rfl⟩
def textBytes (s : ByteArray) : List UInt8 := UInt8.ofNat s.size :: s.toList
theorem text_calls (s : ByteArray) (w : World) (h : s.size ≤ 255) :
    Calls Tryd.prog 48 #[.string s] w fun e w' => RetBytes w.heap.size w' (textBytes s) e ∧ Below w.heap.size w w' := by
  have hb : ((UInt8.ofNat s.size).toNat : Int) = (s.size : Int) := by rw [UInt8.toNat_ofNat_of_lt' (by show s.size < 256; omega)]
  have HB := Lib.hid hb
  clear hb
  go_enter Tryd.func48, Tryd.ntmps48
  go_wp2_with (at_builtin; refine wp_append_str w.heap.size rfl (.tmp 11) (.tmp 12) 27 9 5 rfl Tryd.underlying27 Tryd.underlying9 infoU8 _ [UInt8.ofNat s.size] s rfl rfl (Own.lit w w.heap.size eU8 5 [UInt8.ofNat s.size] 1 rfl _ (by rw [all_u8, List.map_cons, List.map_nil, HB.out]) (Nat.le_refl _) (by simp)) (by simp) (by simp; omega) ?_; intro v1 w1 ho1 hg1)
  go_ret2
  exact ⟨⟨_, ho1, rfl⟩, below_app ((Below.refl _ _).alloc (Nat.le_refl _) _) (by simp) (Own.lit w w.heap.size eU8 5 [UInt8.ofNat s.size] 1 rfl _ (by rw [all_u8, List.map_cons, List.map_nil, HB.out]) (Nat.le_refl _) (by simp)) hg1⟩
theorem flag_calls (b : Bool) (w : World) :
    Calls Tryd.prog 46 #[.bool b] w fun e w' => (∃ v, Own eU8 5 w.heap.size w' v [if b then 1 else 0] ∧ e = .returned v) ∧ Below w.heap.size w w' := by
  cases b with
  | true =>
    go_enter Tryd.func46, Tryd.ntmps46
    go_wp2
    go_ret
    exact ⟨⟨_, Own.lit w w.heap.size eU8 5 [1] 1 rfl _ rfl (Nat.le_refl _) (by simp), rfl⟩, (Below.refl _ _).alloc (Nat.le_refl _) _⟩
  | false =>
    go_enter Tryd.func46, Tryd.ntmps46
    go_wp2
    go_ret
    exact ⟨⟨_, Own.lit w w.heap.size eU8 5 [0] 1 rfl _ rfl (Nat.le_refl _) (by simp), rfl⟩, (Below.refl _ _).alloc (Nat.le_refl _) _⟩
end Go.Proofs.YtmpdcdfnbkfabaaDoor.Octets
