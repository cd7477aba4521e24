/- Package hash and its document's answer: contracts. -/
import Derived.Test.YtmpdcdfnbkfabaaDoorMix
import Derived.Test.YtmpdcdfnbkfabaaDoorNum
import Derived.LoopTactic
import Derived.Lib.Hide
import Derived.Outline
namespace Go.Proofs.YtmpdcdfnbkfabaaDoor.Hash
open Go.RowKit Go.Proofs.YtmpdcdfnbkfabaaDoor.U64 Go.Proofs.YtmpdcdfnbkfabaaDoor.Mix Go.Proofs.YtmpdcdfnbkfabaaDoor.Mem Go.Proofs.YtmpdcdfnbkfabaaDoor.Num
set_option linter.unusedVariables false
set_option linter.unusedSimpArgs false

/-- FNV-1a, gone on with. -/
def fnv (h : BitVec 64) : List UInt8 → BitVec 64
  | [] => h
  | c :: l => fnv ((h ^^^ BitVec.ofNat 64 c.toNat) * 1099511628211#64) l
theorem fnv_append (h : BitVec 64) (a b : List UInt8) : fnv h (a ++ b) = fnv (fnv h a) b := by
  induction a generalizing h with
  | nil => rfl
  | cons c l ih => exact ih _
theorem prime_nat : (1099511628211 : Int) = ((1099511628211#64).toNat : Int) := by decide
theorem byte_nat (c : UInt8) : IntKind.u64.wrap (c.toNat : Int) = ((BitVec.ofNat 64 c.toNat).toNat : Int) := by
  have := c.toNat_lt
  rw [wrap_nat _ (by omega), BitVec.toNat_ofNat, Nat.mod_eq_of_lt (by omega)]
theorem fnv_take (h : BitVec 64) (l : List UInt8) (k : Nat) (hk : k < l.length) : fnv h (l.take (k + 1)) = (fnv h (l.take k) ^^^ BitVec.ofNat 64 l[k].toNat) * 1099511628211#64 := by
  rw [List.take_succ_eq_append_getElem hk, fnv_append]; rfl

theorem on_calls (x : BitVec 64) (v : Value) (l : List UInt8) (w : World) (hv : Row eU8 w v l) :
    Calls Tryd.prog 86 #[.int .u64 (x.toNat : Int), v] w fun e w' => e = .returned (.int .u64 ((fnv x l).toNat : Int)) ∧ w = w' := by
  obtain ⟨A, c, rfl, hc, hm, hr⟩ := hv.parts
  clear hv
  have HR : Hid (Row eU8 w (.slice A l.length c) l) := Lib.hid hr
  clear hr
  go_enter Tryd.func86, Tryd.ntmps86
  go_wp2
  go_loop [0, 9] (fun h i => ∃ k : Nat, k ≤ l.length ∧ i = .int .i64 k ∧ h = .int .u64 ((fnv x (l.take k)).toNat : Int)) (fun _ i => l.length - (intOf i).toNat)
  case atStart => exact ⟨0, Nat.zero_le _, rfl, rfl⟩
  case round =>
    obtain ⟨k, hk, rfl, rfl⟩ := hrel
    by_cases hlt : k < l.length
    · obtain ⟨ad, rfl, hcell⟩ := HR.out.atU8 hlt
      go_wp2
      go_round
      case rel => exact ⟨k + 1, by omega, by go_num, by rw [fnv_take _ _ _ hlt, prime_nat, byte_nat, xor_, mul_]⟩
      case measure => simp [intOf]; omega
    · go_wp2
      go_ret
      exact ⟨by rw [List.take_of_length_le (by omega)]; rfl, rfl⟩

def offset : BitVec 64 := 14695981039346656037#64
theorem offset_nat : (14695981039346656037 : Int) = ((offset.toNat : Nat) : Int) := by decide
theorem refmix_calls (x : BitVec 64) (w : World) : Calls Tryd.prog 88 #[.int .u64 (x.toNat : Int)] w fun e w' => e = .returned (.int .u64 ((mix x).toNat : Int)) ∧ w = w' := by
  go_enter Tryd.func88, Tryd.ntmps88
  go_wp2
  go_ret
  refine ⟨ret_u64 ?_, rfl⟩
  show bits .xor .u64 _ _ = _
  rw [c1_nat, c2_nat]
  simp only [shr33, tdiv33, xor_, mul_]
  rfl
/-- The eight bytes of a seed. -/
def sbyte (x : BitVec 64) (k : Nat) : UInt8 := UInt8.ofNat (x.toNat / 2 ^ (56 - 8 * k) % 256)
def sbytes (x : BitVec 64) : List UInt8 := (List.range 8).map (sbyte x)
def hof (x : BitVec 64) (l : List UInt8) : BitVec 64 := mix (fnv offset (sbytes x ++ l))
theorem sbytes_take (x : BitVec 64) (k : Nat) (hk : k < 8) : (sbytes x).take (k + 1) = (sbytes x).take k ++ [sbyte x k] := by
  rw [List.take_succ_eq_append_getElem (by simpa [sbytes] using hk)]
  simp [sbytes]
theorem sbyte_int (x : BitVec 64) (k : Nat) : ((sbyte x k).toNat : Int) = (x.toNat : Int) / 2 ^ (56 - 8 * k) % 256 := by
  unfold sbyte
  rw [UInt8.toNat_ofNat_of_lt' (Nat.mod_lt _ (by decide))]
  simp
theorem refplain_calls (v : Value) (l : List UInt8) (w : World) (hv : Row eU8 w v l) :
    Calls Tryd.prog 89 #[v] w fun e w' => e = .returned (.int .u64 ((fnv offset l).toNat : Int)) ∧ w = w' := by
  obtain ⟨A, c, rfl, hc, hm, hr⟩ := hv.parts
  clear hv
  have HR : Hid (Row eU8 w (.slice A l.length c) l) := Lib.hid hr
  clear hr
  go_enter Tryd.func89, Tryd.ntmps89
  go_wp2
  go_loop [3, 4] (fun h i => ∃ k : Nat, k ≤ l.length ∧ i = .int .i64 k ∧ h = .int .u64 ((fnv offset (l.take k)).toNat : Int)) (fun _ i => l.length - (intOf i).toNat)
  case atStart => exact ⟨0, Nat.zero_le _, rfl, rfl⟩
  case round =>
    obtain ⟨k, hk, rfl, rfl⟩ := hrel
    by_cases hlt : k < l.length
    · obtain ⟨ad, rfl, hcell⟩ := HR.out.atU8 hlt
      go_wp2
      go_round
      case rel => exact ⟨k + 1, by omega, by go_num, by rw [fnv_take _ _ _ hlt, prime_nat, byte_nat, xor_, mul_]⟩
      case measure => simp [intOf]; omega
    · go_wp2
      go_ret
      exact ⟨by rw [List.take_of_length_le (by omega)]; rfl, rfl⟩
def belowZ (x : BitVec 64) (n : Int) : Int := if n < 1 then 0 else (x.toNat : Int) % n
theorem ret_i64 {a b : Int} (h : a = b) : Ending.returned (.int .i64 a) = .returned (.int .i64 b) := by rw [h]
theorem below_calls (x : BitVec 64) (n : Int) (hn : n ≤ 9223372036854775807) (w : World) :
    Calls Tryd.prog 69 #[.int .u64 (x.toNat : Int), .int .i64 n] w fun e w' => e = .returned (.int .i64 (belowZ x n)) ∧ w = w' := by
  have hx := x.isLt
  by_cases h : n < 1
  · go_enter Tryd.func69, Tryd.ntmps69
    go_wp2
    go_ret
    exact ⟨ret_i64 (by unfold belowZ; rw [if_pos (by assumption)]), rfl⟩
  · have h1 : (n == 0) = false := beq_eq_false_iff_ne.mpr (by omega)
    have hu : IntKind.u64.wrap n = n := by rw [IntKind.wrap_u64]; omega
    have h2 : decide (n < 1) = false := decide_eq_false h
    have h3 : 0 ≤ n := by omega
    go_enter Tryd.func69, Tryd.ntmps69
    go_wp2
    go_ret
    refine ⟨ret_i64 ?_, rfl⟩
    have hr0 := Int.emod_nonneg (x.toNat : Int) (show n ≠ 0 by omega)
    have hr1 := Int.emod_lt_of_pos (x.toNat : Int) (show 0 < n by omega)
    unfold belowZ
    rw [if_neg (by omega)]
    unfold wrap64; omega
theorem of_calls (x : BitVec 64) (v : Value) (l : List UInt8) (w : World) (hv : Row eU8 w v l) :
    Calls Tryd.prog 70 #[.int .u64 (x.toNat : Int), v] w fun e w' => e = .returned (.int .u64 ((hof x l).toNat : Int)) ∧ Below w.heap.size w w' := by
  have HV : Hid (Row eU8 w v l) := Lib.hid hv
  clear hv
  go_enter Tryd.func70, Tryd.ntmps70
  go_wp2
  rw [offset_nat]
  go_loopw [5, 6] (fun h i wr => ∃ k : Nat, k ≤ 8 ∧ i = .int .i64 (56 - 8 * (k : Int)) ∧ h = .int .u64 ((fnv offset ((sbytes x).take k)).toNat : Int) ∧ Below w.heap.size w wr) (fun _ i _ => (intOf i + 8).toNat)
  case atStart => exact ⟨0, by omega, rfl, rfl, Below.refl _ _⟩
  case round =>
    obtain ⟨k, hk, rfl, rfl, hb⟩ := hrel
    by_cases hlt : k < 8
    · have g0 : 0 ≤ 56 - 8 * (k : Int) := by omega
      have g2 : 8 * (k : Int) ≤ 56 := by omega
      have g1 : 56 - 8 * (k : Int) ≤ 64 := by omega
      go_wp2_with (go_at_call 86; ((with_reducible refine (on_calls _ _ [sbyte x k] _ (Own.lit _ 0 eU8 5 [sbyte x k] 1 rfl _ (by rw [all_u8, List.map_cons, List.map_nil, sbyte_int]) (Nat.zero_le _) (by simp)).row).mono ?_); rintro e w' ⟨rfl, rfl⟩))
      go_roundw
      case rel => exact ⟨k + 1, by omega, by simp; omega, by rw [sbytes_take _ _ hlt, fnv_append], hb.alloc hb.size _⟩
      case measure => simp [intOf]; omega
    · have hk8 : k = 8 := by omega
      subst hk8
      go_wp2_with (first | (go_at_call 86; ((with_reducible refine (on_calls _ _ _ _ (HV.out.below hb)).mono ?_); rintro e w' ⟨rfl, rfl⟩)) | (go_at_call 87; ((with_reducible refine (mix_calls _ _).mono ?_); rintro e w' ⟨rfl, rfl⟩)))
      go_ret
      exact ⟨ret_u64 (by unfold hof; rw [fnv_append, List.take_of_length_le (by simp [sbytes])]), hb⟩
theorem refof_calls (x : BitVec 64) (v : Value) (l : List UInt8) (w : World) (hv : Row eU8 w v l) (hl : l.length ≤ 1000000) :
    Calls Tryd.prog 71 #[.int .u64 (x.toNat : Int), v] w fun e w' => e = .returned (.int .u64 ((hof x l).toNat : Int)) ∧ Below w.heap.size w w' := by
  have HV : Hid (Row eU8 w v l) := Lib.hid hv
  clear hv
  go_enter Tryd.func71, Tryd.ntmps71
  go_wp2
  go_loopw [5, 6] (fun h i wr => ∃ k : Nat, k ≤ 8 ∧ i = .int .i64 (56 - 8 * (k : Int)) ∧ Own eU8 5 w.heap.size wr h ((sbytes x).take k) ∧ Below w.heap.size w wr) (fun _ i _ => (intOf i + 8).toNat)
  case atStart => exact ⟨0, by omega, rfl, Own.lit w w.heap.size eU8 5 [] 0 rfl _ rfl (Nat.le_refl _) (by simp), (Below.refl _ _).alloc (Nat.le_refl _) _⟩
  case round =>
    obtain ⟨k, hk, rfl, ho, hb⟩ := hrel
    by_cases hlt : k < 8
    · have g0 : 0 ≤ 56 - 8 * (k : Int) := by omega
      have g2 : 8 * (k : Int) ≤ 56 := by omega
      have g1 : 56 - 8 * (k : Int) ≤ 64 := by omega
      have HO := Lib.hid ho
      clear ho
      go_wp2_with (at_builtin; refine wp_append (E := eU8) w.heap.size rfl (.tmp 12) (.tmp 18) 27 5 _ 1 rfl Tryd.underlying27 infoU8 rfl (by decide) _ _ ((sbytes x).take k) [sbyte x k] rfl rfl (HO.out.alloc _) (Own.lit _ 0 eU8 5 [sbyte x k] 1 rfl _ (by rw [all_u8, List.map_cons, List.map_nil, sbyte_int]) (Nat.zero_le _) (by simp)).row (by simp; exact Nat.le_succ_of_le hb.size) (by simp [sbytes]; omega) ?_; intro v1 w1 ho1 hg1 hat1)
      go_roundw
      case rel => exact ⟨k + 1, by omega, by simp; omega, by rw [sbytes_take _ _ hlt]; exact ho1, below_app (hb.alloc hb.size _) (size_alloc_le hb _) (HO.out.alloc _) hg1⟩
      case measure => simp [intOf]; omega
    · have hk8 : k = 8 := by omega
      subst hk8
      rw [show (sbytes x).take 8 = sbytes x from rfl] at ho
      have HO := Lib.hid ho
      clear ho
      go_wp2_with (first
        | (at_builtin; refine wp_append (E := eU8) w.heap.size rfl (.tmp 20) (.tmp 21) 27 5 _ 1 rfl Tryd.underlying27 infoU8 rfl (by decide) _ _ (sbytes x) l rfl rfl HO.out (HV.out.below hb) hb.size (by simp [sbytes]; omega) ?_; intro v1 w1 ho1 hg1 hat1)
        | (go_at_call 89; ((with_reducible refine (refplain_calls _ _ _ ho1.row).mono ?_); rintro e w' ⟨rfl, rfl⟩))
        | (go_at_call 88; ((with_reducible refine (refmix_calls _ _).mono ?_); rintro e w' ⟨rfl, rfl⟩)))
      go_ret
      exact ⟨rfl, below_app hb hb.size HO.out hg1⟩

/-! The law. -/
end Go.Proofs.YtmpdcdfnbkfabaaDoor.Hash
