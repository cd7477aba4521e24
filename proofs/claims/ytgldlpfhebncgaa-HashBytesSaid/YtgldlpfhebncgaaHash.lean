/- Package hash and its document's answer: contracts. -/
import Derived.Test.YtgldlpfhebncgaaMix
import Derived.Test.YtgldlpfhebncgaaNum
import Derived.LoopTactic
import Derived.Lib.Hide
import Derived.Outline
namespace Go.Proofs.Ytgldlpfhebncgaa.Hash
open Go.RowKit Go.Proofs.Ytgldlpfhebncgaa.U64 Go.Proofs.Ytgldlpfhebncgaa.Mix Go.Proofs.Ytgldlpfhebncgaa.Mem Go.Proofs.Ytgldlpfhebncgaa.Num
set_option linter.unusedVariables false
set_option linter.unusedSimpArgs false

/-- FNV-1a, gone on with. -/
def fnv (h : BitVec 64) : List UInt8 → BitVec 64
  | [] => h
  | c :: l => fnv ((h ^^^ BitVec.ofNat 64 c.toNat) * 1099511628211#64) l
theorem fnv_append (h : BitVec 64) (a b : List UInt8) : fnv h (a ++ b) = fnv (fnv h a) b := by
  induction a generalizing h with
  | nil => rfl
  | cons c l ih => exact ih _
theorem prime_nat : (1099511628211 : Int) = ((1099511628211#64).toNat : Int) := by decide
theorem byte_nat (c : UInt8) : IntKind.u64.wrap (c.toNat : Int) = ((BitVec.ofNat 64 c.toNat).toNat : Int) := by
  have := c.toNat_lt
  rw [wrap_nat _ (by omega), BitVec.toNat_ofNat, Nat.mod_eq_of_lt (by omega)]
theorem fnv_take (h : BitVec 64) (l : List UInt8) (k : Nat) (hk : k < l.length) : fnv h (l.take (k + 1)) = (fnv h (l.take k) ^^^ BitVec.ofNat 64 l[k].toNat) * 1099511628211#64 := by
  rw [List.take_succ_eq_append_getElem hk, fnv_append]; rfl

theorem on_calls (x : BitVec 64) (v : Value) (l : List UInt8) (w : World) (hv : Row eU8 w v l) :
    Calls Try.prog 39 #[.int .u64 (x.toNat : Int), v] w fun e w' => e = .returned (.int .u64 ((fnv x l).toNat : Int)) ∧ w = w' := by
  obtain ⟨A, c, rfl, hc, hm, hr⟩ := hv.parts
  clear hv
  have HR : Hid (Row eU8 w (.slice A l.length c) l) := Lib.hid hr
  clear hr
  go_enter Try.func39, Try.ntmps39
  go_wp2
  go_loop [0, 9] (fun h i => ∃ k : Nat, k ≤ l.length ∧ i = .int .i64 k ∧ h = .int .u64 ((fnv x (l.take k)).toNat : Int)) (fun _ i => l.length - (intOf i).toNat)
  case atStart => exact ⟨0, Nat.zero_le _, rfl, rfl⟩
  case round =>
    obtain ⟨k, hk, rfl, rfl⟩ := hrel
    by_cases hlt : k < l.length
    · obtain ⟨ad, rfl, hcell⟩ := HR.out.atU8 hlt
      go_wp2
      go_round
      case rel => exact ⟨k + 1, by omega, by go_num, by rw [fnv_take _ _ _ hlt, prime_nat, byte_nat, xor_, mul_]⟩
      case measure => simp [intOf]; omega
    · go_wp2
      go_ret
      exact ⟨by rw [List.take_of_length_le (by omega)]; rfl, rfl⟩

def offset : BitVec 64 := 14695981039346656037#64
theorem offset_nat : (14695981039346656037 : Int) = ((offset.toNat : Nat) : Int) := by decide
theorem plain_calls (v : Value) (l : List UInt8) (w : World) (hv : Row eU8 w v l) :
    Calls Try.prog 16 #[v] w fun e w' => e = .returned (.int .u64 ((fnv offset l).toNat : Int)) ∧ w = w' := by
  have k1 := offset_nat ▸ on_calls offset v l w hv
  obtain ⟨A, c, rfl, hc, hm, hr⟩ := hv.parts
  clear hv hr
  go_enter Try.func16, Try.ntmps16
  go_wp2_with (go_at_call 39; ((with_reducible refine k1.mono ?_); rintro e w' ⟨rfl, rfl⟩))
  go_ret
  exact ⟨rfl, rfl⟩
theorem alive_calls (w : World) : Calls Try.prog 11 #[] w fun e w' => e = .returned (.bool true) ∧ w = w' := by
  have k1 := plain_calls _ _ w (Row.nil eU8 w)
  rw [show ((fnv offset []).toNat : Int) = 14695981039346656037 by decide] at k1
  go_enter Try.func11, Try.ntmps11
  go_wp2_with (go_at_call 16; ((with_reducible refine k1.mono ?_); rintro e w' ⟨rfl, rfl⟩))
  go_ret
  exact ⟨rfl, rfl⟩
theorem refmix_calls (x : BitVec 64) (w : World) : Calls Try.prog 20 #[.int .u64 (x.toNat : Int)] w fun e w' => e = .returned (.int .u64 ((mix x).toNat : Int)) ∧ w = w' := by
  go_enter Try.func20, Try.ntmps20
  go_wp2
  go_ret
  refine ⟨ret_u64 ?_, rfl⟩
  show bits .xor .u64 _ _ = _
  rw [c1_nat, c2_nat]
  simp only [shr33, tdiv33, xor_, mul_]
  rfl
theorem unlike_calls (x y : BitVec 64) (w : World) : Calls Try.prog 3 #[.int .u64 (x.toNat : Int), .int .u64 (y.toNat : Int)] w fun e w' => e = .returned (.bool true) ∧ w = w' := by
  have e1 : (((mix x).toNat : Int) == ((mix y).toNat : Int)) = ((x.toNat : Int) == (y.toNat : Int)) := by rw [eq_, eq_, mix_inj]
  go_enter Try.func3, Try.ntmps3
  go_wp2_with (first | (go_at_call 11; ((with_reducible refine (alive_calls _).mono ?_); rintro e w' ⟨rfl, rfl⟩)) | (go_at_call 12; ((with_reducible refine (mix_calls _ _).mono ?_); rintro e w' ⟨rfl, rfl⟩)))
  go_ret
  exact ⟨rfl, rfl⟩
theorem mixes_calls (x : BitVec 64) (w : World) : Calls Try.prog 5 #[.int .u64 (x.toNat : Int)] w fun e w' => e = .returned (.bool true) ∧ w = w' := by
  have k1 := unmix_mix x ▸ unmix_calls (mix x)
  have k2 := mix_unmix x ▸ mix_calls (unmix x)
  go_enter Try.func5, Try.ntmps5
  go_wp2_with (first | (go_at_call 11; ((with_reducible refine (alive_calls _).mono ?_); rintro e w' ⟨rfl, rfl⟩)) | (go_at_call 12; ((with_reducible refine (mix_calls x _).mono ?_); rintro e w' ⟨rfl, rfl⟩)) | (go_at_call 12; ((with_reducible refine (k2 _).mono ?_); rintro e w' ⟨rfl, rfl⟩)) | (go_at_call 20; ((with_reducible refine (refmix_calls _ _).mono ?_); rintro e w' ⟨rfl, rfl⟩)) | (go_at_call 21; ((with_reducible refine (k1 _).mono ?_); rintro e w' ⟨rfl, rfl⟩)) | (go_at_call 21; ((with_reducible refine (unmix_calls x _).mono ?_); rintro e w' ⟨rfl, rfl⟩)))
  go_ret
  exact ⟨rfl, rfl⟩
theorem mixes_row (W : World) (a : Int) (ha : (Lit.int .u64 a).wf = true) : Calls Try.prog 5 #[.int .u64 a] W fun e W' => e = .returned (.bool true) ∧ Below W.heap.size W W' := by
  obtain ⟨x, rfl⟩ := of_wf ha
  exact (mixes_calls x W).mono fun e W' ⟨h, h'⟩ => ⟨h, h' ▸ Below.refl _ _⟩
theorem unlike_row (W : World) (a : Int) (ha : (Lit.int .u64 a).wf = true) (b : Int) (hb : (Lit.int .u64 b).wf = true) : Calls Try.prog 3 #[.int .u64 a, .int .u64 b] W fun e W' => e = .returned (.bool true) ∧ Below W.heap.size W W' := by
  obtain ⟨x, rfl⟩ := of_wf ha
  obtain ⟨y, rfl⟩ := of_wf hb
  exact (unlike_calls x y W).mono fun e W' ⟨h, h'⟩ => ⟨h, h' ▸ Below.refl _ _⟩

/-- The eight bytes of a seed. -/
def sbyte (x : BitVec 64) (k : Nat) : UInt8 := UInt8.ofNat (x.toNat / 2 ^ (56 - 8 * k) % 256)
def sbytes (x : BitVec 64) : List UInt8 := (List.range 8).map (sbyte x)
def hof (x : BitVec 64) (l : List UInt8) : BitVec 64 := mix (fnv offset (sbytes x ++ l))
theorem sbytes_take (x : BitVec 64) (k : Nat) (hk : k < 8) : (sbytes x).take (k + 1) = (sbytes x).take k ++ [sbyte x k] := by
  rw [List.take_succ_eq_append_getElem (by simpa [sbytes] using hk)]
  simp [sbytes]
theorem sbyte_int (x : BitVec 64) (k : Nat) : ((sbyte x k).toNat : Int) = (x.toNat : Int) / 2 ^ (56 - 8 * k) % 256 := by
  unfold sbyte
  rw [UInt8.toNat_ofNat_of_lt' (Nat.mod_lt _ (by decide))]
  simp
theorem refplain_calls (v : Value) (l : List UInt8) (w : World) (hv : Row eU8 w v l) :
    Calls Try.prog 17 #[v] w fun e w' => e = .returned (.int .u64 ((fnv offset l).toNat : Int)) ∧ w = w' := by
  obtain ⟨A, c, rfl, hc, hm, hr⟩ := hv.parts
  clear hv
  have HR : Hid (Row eU8 w (.slice A l.length c) l) := Lib.hid hr
  clear hr
  go_enter Try.func17, Try.ntmps17
  go_wp2
  go_loop [3, 4] (fun h i => ∃ k : Nat, k ≤ l.length ∧ i = .int .i64 k ∧ h = .int .u64 ((fnv offset (l.take k)).toNat : Int)) (fun _ i => l.length - (intOf i).toNat)
  case atStart => exact ⟨0, Nat.zero_le _, rfl, rfl⟩
  case round =>
    obtain ⟨k, hk, rfl, rfl⟩ := hrel
    by_cases hlt : k < l.length
    · obtain ⟨ad, rfl, hcell⟩ := HR.out.atU8 hlt
      go_wp2
      go_round
      case rel => exact ⟨k + 1, by omega, by go_num, by rw [fnv_take _ _ _ hlt, prime_nat, byte_nat, xor_, mul_]⟩
      case measure => simp [intOf]; omega
    · go_wp2
      go_ret
      exact ⟨by rw [List.take_of_length_le (by omega)]; rfl, rfl⟩
def belowZ (x : BitVec 64) (n : Int) : Int := if n < 1 then 0 else (x.toNat : Int) % n
theorem ret_i64 {a b : Int} (h : a = b) : Ending.returned (.int .i64 a) = .returned (.int .i64 b) := by rw [h]
theorem below_calls (x : BitVec 64) (n : Int) (hn : n ≤ 9223372036854775807) (w : World) :
    Calls Try.prog 15 #[.int .u64 (x.toNat : Int), .int .i64 n] w fun e w' => e = .returned (.int .i64 (belowZ x n)) ∧ w = w' := by
  have hx := x.isLt
  by_cases h : n < 1
  · go_enter Try.func15, Try.ntmps15
    go_wp2
    go_ret
    exact ⟨ret_i64 (by unfold belowZ; rw [if_pos (by assumption)]), rfl⟩
  · have h1 : (n == 0) = false := beq_eq_false_iff_ne.mpr (by omega)
    have hu : IntKind.u64.wrap n = n := by rw [IntKind.wrap_u64]; omega
    have h2 : decide (n < 1) = false := decide_eq_false h
    have h3 : 0 ≤ n := by omega
    go_enter Try.func15, Try.ntmps15
    go_wp2
    go_ret
    refine ⟨ret_i64 ?_, rfl⟩
    have hr0 := Int.emod_nonneg (x.toNat : Int) (show n ≠ 0 by omega)
    have hr1 := Int.emod_lt_of_pos (x.toNat : Int) (show 0 < n by omega)
    unfold belowZ
    rw [if_neg (by omega)]
    unfold wrap64; omega
theorem of_calls (x : BitVec 64) (v : Value) (l : List UInt8) (w : World) (hv : Row eU8 w v l) :
    Calls Try.prog 14 #[.int .u64 (x.toNat : Int), v] w fun e w' => e = .returned (.int .u64 ((hof x l).toNat : Int)) ∧ Below w.heap.size w w' := by
  have HV : Hid (Row eU8 w v l) := Lib.hid hv
  clear hv
  go_enter Try.func14, Try.ntmps14
  go_wp2
  rw [offset_nat]
  go_loopw [5, 6] (fun h i wr => ∃ k : Nat, k ≤ 8 ∧ i = .int .i64 (56 - 8 * (k : Int)) ∧ h = .int .u64 ((fnv offset ((sbytes x).take k)).toNat : Int) ∧ Below w.heap.size w wr) (fun _ i _ => (intOf i + 8).toNat)
  case atStart => exact ⟨0, by omega, rfl, rfl, Below.refl _ _⟩
  case round =>
    obtain ⟨k, hk, rfl, rfl, hb⟩ := hrel
    by_cases hlt : k < 8
    · have g0 : 0 ≤ 56 - 8 * (k : Int) := by omega
      have g2 : 8 * (k : Int) ≤ 56 := by omega
      have g1 : 56 - 8 * (k : Int) ≤ 64 := by omega
      go_wp2_with (go_at_call 39; ((with_reducible refine (on_calls _ _ [sbyte x k] _ (Own.lit _ 0 eU8 5 [sbyte x k] 1 rfl _ (by rw [all_u8, List.map_cons, List.map_nil, sbyte_int]) (Nat.zero_le _) (by simp)).row).mono ?_); rintro e w' ⟨rfl, rfl⟩))
      go_roundw
      case rel => exact ⟨k + 1, by omega, by simp; omega, by rw [sbytes_take _ _ hlt, fnv_append], hb.alloc hb.size _⟩
      case measure => simp [intOf]; omega
    · have hk8 : k = 8 := by omega
      subst hk8
      go_wp2_with (first | (go_at_call 39; ((with_reducible refine (on_calls _ _ _ _ (HV.out.below hb)).mono ?_); rintro e w' ⟨rfl, rfl⟩)) | (go_at_call 12; ((with_reducible refine (mix_calls _ _).mono ?_); rintro e w' ⟨rfl, rfl⟩)))
      go_ret
      exact ⟨ret_u64 (by unfold hof; rw [fnv_append, List.take_of_length_le (by simp [sbytes])]), hb⟩
theorem refof_calls (x : BitVec 64) (v : Value) (l : List UInt8) (w : World) (hv : Row eU8 w v l) (hl : l.length ≤ 1000000) :
    Calls Try.prog 18 #[.int .u64 (x.toNat : Int), v] w fun e w' => e = .returned (.int .u64 ((hof x l).toNat : Int)) ∧ Below w.heap.size w w' := by
  have HV : Hid (Row eU8 w v l) := Lib.hid hv
  clear hv
  go_enter Try.func18, Try.ntmps18
  go_wp2
  go_loopw [5, 6] (fun h i wr => ∃ k : Nat, k ≤ 8 ∧ i = .int .i64 (56 - 8 * (k : Int)) ∧ Own eU8 5 w.heap.size wr h ((sbytes x).take k) ∧ Below w.heap.size w wr) (fun _ i _ => (intOf i + 8).toNat)
  case atStart => exact ⟨0, by omega, rfl, Own.lit w w.heap.size eU8 5 [] 0 rfl _ rfl (Nat.le_refl _) (by simp), (Below.refl _ _).alloc (Nat.le_refl _) _⟩
  case round =>
    obtain ⟨k, hk, rfl, ho, hb⟩ := hrel
    by_cases hlt : k < 8
    · have g0 : 0 ≤ 56 - 8 * (k : Int) := by omega
      have g2 : 8 * (k : Int) ≤ 56 := by omega
      have g1 : 56 - 8 * (k : Int) ≤ 64 := by omega
      have HO := Lib.hid ho
      clear ho
      go_wp2_with (at_builtin; refine wp_append (E := eU8) w.heap.size rfl (.tmp 12) (.tmp 18) 26 5 _ 1 rfl Try.underlying26 infoU8 rfl (by decide) _ _ ((sbytes x).take k) [sbyte x k] rfl rfl (HO.out.alloc _) (Own.lit _ 0 eU8 5 [sbyte x k] 1 rfl _ (by rw [all_u8, List.map_cons, List.map_nil, sbyte_int]) (Nat.zero_le _) (by simp)).row (by simp; exact Nat.le_succ_of_le hb.size) (by simp [sbytes]; omega) ?_; intro v1 w1 ho1 hg1 hat1)
      go_roundw
      case rel => exact ⟨k + 1, by omega, by simp; omega, by rw [sbytes_take _ _ hlt]; exact ho1, below_app (hb.alloc hb.size _) (size_alloc_le hb _) (HO.out.alloc _) hg1⟩
      case measure => simp [intOf]; omega
    · have hk8 : k = 8 := by omega
      subst hk8
      rw [show (sbytes x).take 8 = sbytes x from rfl] at ho
      have HO := Lib.hid ho
      clear ho
      go_wp2_with (first
        | (at_builtin; refine wp_append (E := eU8) w.heap.size rfl (.tmp 20) (.tmp 21) 26 5 _ 1 rfl Try.underlying26 infoU8 rfl (by decide) _ _ (sbytes x) l rfl rfl HO.out (HV.out.below hb) hb.size (by simp [sbytes]; omega) ?_; intro v1 w1 ho1 hg1 hat1)
        | (go_at_call 17; ((with_reducible refine (refplain_calls _ _ _ ho1.row).mono ?_); rintro e w' ⟨rfl, rfl⟩))
        | (go_at_call 20; ((with_reducible refine (refmix_calls _ _).mono ?_); rintro e w' ⟨rfl, rfl⟩)))
      go_ret
      exact ⟨rfl, below_app hb hb.size HO.out hg1⟩

/-! The law. -/
theorem hashbytes_calls (v : Value) (l : List UInt8) (x : BitVec 64) (n : Int) (hn : n ≤ 9223372036854775807) (w : World) (hv : Row eU8 w v l) :
    Calls Try.prog 4 #[v, .int .u64 (x.toNat : Int), .int .i64 n] w fun e w' => e = .returned (.bool true) ∧ Below w.heap.size w w' := by
  obtain ⟨A, c, rfl, hc, hm, hr⟩ := hv.parts
  clear hv
  have HV : Hid (Row eU8 w (.slice A l.length c) l) := Lib.hid hr
  clear hr
  by_cases hl : 1000 < l.length
  · go_enter Try.func4, Try.ntmps4
    go_wp2_with (go_at_call 11; ((with_reducible refine (alive_calls _).mono ?_); rintro e w' ⟨rfl, rfl⟩))
    go_ret
    exact ⟨rfl, Below.refl _ _⟩
  · have hl' : l.length ≤ 1000 := by omega
    clear hl
    have key : ∀ m, belowZ (hof x l) n = m → (n < 1 ∧ m = 0 ∨ 1 ≤ n ∧ 0 ≤ m ∧ m < n ∧ IntKind.u64.wrap m = m ∧ m = (((hof x l).toNat : Nat) : Int) % n) := by
      intro m hm
      have hx := (hof x l).isLt
      unfold belowZ at hm
      by_cases h1 : n < 1
      · rw [if_pos h1] at hm; exact .inl ⟨h1, hm.symm⟩
      · rw [if_neg h1] at hm
        have hr0 := Int.emod_nonneg ((hof x l).toNat : Int) (show n ≠ 0 by omega)
        have hr1 := Int.emod_lt_of_pos ((hof x l).toNat : Int) (show 0 < n by omega)
        exact .inr ⟨by omega, by omega, by omega, by rw [IntKind.wrap_u64]; omega, hm.symm⟩
    have kb : ∀ m, belowZ (hof x l) n = m → ∀ W, Calls Try.prog 15 #[.int .u64 ((hof x l).toNat : Int), .int .i64 n] W fun e w' => e = .returned (.int .i64 m) ∧ W = w' := fun m hm W => hm ▸ below_calls (hof x l) n hn W
    generalize hm : belowZ (hof x l) n = m at key kb
    rcases key m rfl with ⟨h1, rfl⟩ | ⟨h1, h2, h3, h4, h5⟩
    all_goals
      have KB := Lib.hid (kb _ rfl)
      clear kb key
    · go_enter Try.func4, Try.ntmps4
      go_wp2_with (first
        | (go_at_call 11; ((with_reducible refine (alive_calls _).mono ?_); rintro e w' ⟨rfl, rfl⟩))
        | (go_at_call 13; ((with_reducible refine (bytes_calls _ l _ HV.out (by omega)).mono ?_); rintro e w1 ⟨u, rfl, hu, hb1⟩; have HU := Lib.hid hu; clear hu))
        | (go_at_call 14; ((with_reducible refine (of_calls _ _ l _ (HU.out.row (by omega))).mono ?_); rintro e w2 ⟨rfl, hb2⟩))
        | (go_at_call 15; ((with_reducible refine (KB.out _).mono ?_); rintro e w3 ⟨rfl, rfl⟩))
        | (go_at_call 16; ((with_reducible refine (plain_calls _ l _ ((HU.out.below hb2).row (by omega))).mono ?_); rintro e w3 ⟨rfl, rfl⟩))
        | (go_at_call 17; ((with_reducible refine (refplain_calls _ l _ ((HV.out.below hb1).below hb2)).mono ?_); rintro e w3 ⟨rfl, rfl⟩))
        | (go_at_call 18; ((with_reducible refine (refof_calls _ _ l _ ((HV.out.below hb1).below hb2) (by omega)).mono ?_); rintro e w3 ⟨rfl, hb3⟩))
        | (go_at_call 19; ((with_reducible refine (kept_calls _ _ _ l _ ((HU.out.below hb2).below hb3) (((HV.out.below hb1).below hb2).below hb3) (by omega)).mono ?_); rintro e w4 ⟨rfl, nd, rfl⟩)))
      go_ret
      exact ⟨rfl, below_drewN (below_next (below_next hb1 hb2) hb3) nd⟩
    · have h6 : IntKind.u64.wrap n = n := by rw [IntKind.wrap_u64]; omega
      have h7 : (n == 0) = false := beq_eq_false_iff_ne.mpr (by omega)
      have h8 : (m != (((hof x l).toNat : Nat) : Int) % n) = false := bne_eq_false_iff_eq.mpr h5
      clear h5
      go_enter Try.func4, Try.ntmps4
      go_wp2_with (first
        | (go_at_call 11; ((with_reducible refine (alive_calls _).mono ?_); rintro e w' ⟨rfl, rfl⟩))
        | (go_at_call 13; ((with_reducible refine (bytes_calls _ l _ HV.out (by omega)).mono ?_); rintro e w1 ⟨u, rfl, hu, hb1⟩; have HU := Lib.hid hu; clear hu))
        | (go_at_call 14; ((with_reducible refine (of_calls _ _ l _ (HU.out.row (by omega))).mono ?_); rintro e w2 ⟨rfl, hb2⟩))
        | (go_at_call 15; ((with_reducible refine (KB.out _).mono ?_); rintro e w3 ⟨rfl, rfl⟩))
        | (go_at_call 16; ((with_reducible refine (plain_calls _ l _ ((HU.out.below hb2).row (by omega))).mono ?_); rintro e w3 ⟨rfl, rfl⟩))
        | (go_at_call 17; ((with_reducible refine (refplain_calls _ l _ ((HV.out.below hb1).below hb2)).mono ?_); rintro e w3 ⟨rfl, rfl⟩))
        | (go_at_call 18; ((with_reducible refine (refof_calls _ _ l _ ((HV.out.below hb1).below hb2) (by omega)).mono ?_); rintro e w3 ⟨rfl, hb3⟩))
        | (go_at_call 19; ((with_reducible refine (kept_calls _ _ _ l _ ((HU.out.below hb2).below hb3) (((HV.out.below hb1).below hb2).below hb3) (by omega)).mono ?_); rintro e w4 ⟨rfl, nd, rfl⟩)))
      go_ret
      exact ⟨rfl, below_drewN (below_next (below_next hb1 hb2) hb3) nd⟩
theorem hashbytes_row (W : World) (v : Value) (l : List UInt8) (hv : Row eU8 W v l) (s : Int) (hs : (Lit.int .u64 s).wf = true) (n : Int) (hn : (Lit.int .i64 n).wf = true) :
    Calls Try.prog 4 #[v, .int .u64 s, .int .i64 n] W fun e W' => e = .returned (.bool true) ∧ Below W.heap.size W W' := by
  obtain ⟨x, rfl⟩ := of_wf hs
  exact hashbytes_calls v l x n (by simp [Lit.wf, IntKind.min, IntKind.max, IntKind.signed, IntKind.bits] at hn; omega) W hv
end Go.Proofs.Ytgldlpfhebncgaa.Hash
