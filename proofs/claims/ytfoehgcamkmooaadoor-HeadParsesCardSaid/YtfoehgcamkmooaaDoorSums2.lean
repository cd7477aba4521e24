/- Package sums: Fold, Check, Change, Same, and the document's answer. -/
import Derived.Test.YtfoehgcamkmooaaDoorSums
import Derived.LoopTactic
import Derived.Lib.Hide
namespace Go.Proofs.YtfoehgcamkmooaaDoor.Sums
open Go.RowKit Go.Proofs.YtfoehgcamkmooaaDoor.Mem Go.Proofs.YtfoehgcamkmooaaDoor.Num Go.Proofs.YtfoehgcamkmooaaDoor.SumsP
set_option linter.unusedVariables false
set_option linter.unusedSimpArgs false
theorem low_bits (x : Int) (h0 : 0 ≤ x) (h1 : x < 9223372036854775808) : bits .and .i64 x 65535 = x % 65536 := by
  have := bits_mask .i64 63 (by decide) (fun n h0 h1 => by rw [IntKind.wrap_i64]; omega) 16 (by decide) x h0 (by omega)
  simpa using this
theorem mask_any (x : Int) : bits .and .i64 x 65535 = x % 65536 := by
  have hp : IntKind.i64.bits = 64 := rfl
  have h : BitVec.ofInt 64 x &&& BitVec.ofInt 64 65535 = BitVec.ofNat 64 (x % 65536).toNat := by
    apply BitVec.eq_of_toNat_eq
    rw [BitVec.toNat_and, BitVec.toNat_ofInt, BitVec.toNat_ofInt, BitVec.toNat_ofNat]
    rw [show ((65535 : Int) % ((2 ^ 64 : Nat) : Int)).toNat = 2 ^ 16 - 1 by decide, Nat.and_two_pow_sub_one_eq_mod]
    omega
  have hb : bits .and .i64 x 65535 = IntKind.i64.wrap ((BitVec.ofInt 64 x &&& BitVec.ofInt 64 65535).toNat : Int) := rfl
  rw [hb, h, BitVec.toNat_ofNat, IntKind.wrap_i64]
  omega
theorem mod65536 (c : Int) : 0 ≤ c % 65536 ∧ c % 65536 < 65536 := by omega
/-- A checksum behind a change. -/
def changeN (c a b : Int) : Int := 65535 - foldN (65535 - c % 65536 + 65535 - a % 65536 + b % 65536)
def sameN (a b : Int) : Bool := a % 65536 == b % 65536 || (a % 65536 == 0 && b % 65536 == 65535 || a % 65536 == 65535 && b % 65536 == 0)
def checkN (l : List UInt8) : Int := 65535 - foldN (total l)
theorem fold_calls (s : Int) (w : World) (hs : s ≤ 9223372036854775807) : Calls Tryd.prog 64 #[.int .i64 s] w fun e w' => e = .returned (.int .i64 (foldN s)) ∧ w = w' := by
  by_cases h0 : s < 0
  · have hf : foldN s = 0 := by unfold foldN; rw [if_pos (by omega)]
    rw [hf]
    go_enter Tryd.func64, Tryd.ntmps64
    go_wp2
    go_loop [0] (fun v => v = .int .i64 0) (fun _ => 0)
    case atStart => rfl
    case round =>
      subst hrel
      go_wp2
      go_ret
      exact ⟨rfl, rfl⟩
  · go_enter Tryd.func64, Tryd.ntmps64
    go_wp2
    go_loop [0] (fun v => ∃ k : Int, v = .int .i64 k ∧ 0 ≤ k ∧ k ≤ 9223372036854775807 ∧ Hid (foldN k = foldN s)) (fun v => (intOf v).toNat)
    case atStart => exact ⟨s, rfl, by omega, hs, Lib.hid rfl⟩
    case round =>
      obtain ⟨k, rfl, hk0, hk1, hf⟩ := hrel
      have hb := low_bits k hk0 (by omega)
      by_cases hlt : 65535 < k
      · have hst := foldN_step k hlt
        go_wp2
        go_round
        case rel => exact ⟨k / 65536 + k % 65536, by first | rw [← hb] | skip, by omega, by omega, Lib.hid (hst.trans hf.out)⟩
        case measure => simp [intOf]; omega
      · have := hf.out
        rw [foldN_small k hk0 (by omega)] at this
        go_wp2
        go_ret
        exact ⟨rfl, rfl⟩
theorem check_calls (v : Value) (l : List UInt8) (w : World) (hv : Row eU8 w v l) (hl : l.length ≤ 1000000) :
    Calls Tryd.prog 67 #[v] w fun e w' => e = .returned (.int .i64 (checkN l)) ∧ Below w.heap.size w w' := by
  have hadd := add_calls 0 v l w hv hl
  rw [show clampN 0 = 0 from rfl, Int.zero_add] at hadd
  have htl := total_le l
  have hfr := foldN_range (total l : Nat)
  have hfc := fun W => fold_calls ((total l : Nat) : Int) W (by omega)
  unfold checkN
  generalize hT : total l = T at hadd htl hfr hfc ⊢
  have HA := Lib.hid hadd
  have HF := Lib.hid hfc
  clear hadd hfc hT
  generalize foldN (T : Int) = R at HF hfr ⊢
  go_enter Tryd.func67, Tryd.ntmps67
  go_wp2_with (first | (go_at_call 53; ((with_reducible refine HA.out.mono ?_); rintro e w' ⟨rfl, hB⟩)) | (go_at_call 64; ((with_reducible refine (HF.out _).mono ?_); rintro e w' ⟨rfl, rfl⟩)))
  go_ret
  exact ⟨rfl, by assumption⟩
theorem change_calls (c a b : Int) (w : World) : Calls Tryd.prog 92 #[.int .i64 c, .int .i64 a, .int .i64 b] w fun e w' => e = .returned (.int .i64 (changeN c a b)) ∧ w = w' := by
  have h1 := mask_any c
  have h2 := mask_any a
  have h3 := mask_any b
  have m1 := mod65536 c
  have m2 := mod65536 a
  have m3 := mod65536 b
  unfold changeN
  have hfr := foldN_range (65535 - c % 65536 + 65535 - a % 65536 + b % 65536)
  have hfc := fun W => fold_calls (65535 - c % 65536 + 65535 - a % 65536 + b % 65536) W (by omega)
  have HF := Lib.hid hfc
  clear hfc
  generalize foldN (65535 - c % 65536 + 65535 - a % 65536 + b % 65536) = R at HF hfr ⊢
  go_enter Tryd.func92, Tryd.ntmps92
  go_wp2_with (go_at_call 64; ((with_reducible refine (HF.out _).mono ?_); rintro e w' ⟨rfl, rfl⟩))
  go_ret
  exact ⟨rfl, rfl⟩
theorem tmod65535 (x : Int) (h0 : -65536 < x) (h1 : x < 65536) : (x.tmod 65535 == 0) = (x == 0 || (x == 65535 || x == -65535)) := by
  rw [Bool.eq_iff_iff]
  simp only [Bool.or_eq_true, beq_iff_eq]
  constructor
  · intro h
    have := Int.mul_tdiv_add_tmod x 65535
    omega
  · rintro (h | h | h) <;> subst h <;> decide
end Go.Proofs.YtfoehgcamkmooaaDoor.Sums
