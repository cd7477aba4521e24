/- strconv.FormatInt to base 16. -/
import Derived.Test.YtmcgkknpkocgoaaGreatDoorAdE
import Derived.Test.YtmcgkknpkocgoaaGreatDoorBlk
import Derived.LoopTactic
import Derived.Handy
import Derived.Outline
import Derived.Deep.DeepCutAuto
namespace Go.Proofs.YtmcgkknpkocgoaaGreatDoor.Ad
open Go.RowKit Go.Proofs.YtmcgkknpkocgoaaGreatDoor.Mem Go.Proofs.YtmcgkknpkocgoaaGreatDoor.Num Go.Proofs.YtmcgkknpkocgoaaGreatDoor.Err Go.Proofs.YtmcgkknpkocgoaaGreatDoor.AdP
set_option linter.unusedVariables false
set_option linter.unusedSimpArgs false
set_option maxRecDepth 100000
/-- A figure. -/
def dig (d : Nat) : UInt8 := if d < 10 then UInt8.ofNat (48 + d) else UInt8.ofNat (87 + d)
/-- A number's figures to a base; the first number: as many more figures at most. -/
def numb (b : Nat) : Nat → Nat → List UInt8
  | 0, n => [dig n]
  | f + 1, n => if n < b then [dig n] else numb b f (n / b) ++ [dig (n % b)]
theorem numb_small (b f n : Nat) (h : n < b) : numb b f n = [dig n] := by
  cases f with
  | zero => rfl
  | succ f => unfold numb; rw [if_pos h]
theorem numb_big (b f n : Nat) (h : ¬ n < b) : numb b (f + 1) n = numb b f (n / b) ++ [dig (n % b)] := by
  rw [numb, if_neg h]
theorem tz64 (ea : Addr) (w : World) (hE : Env ea w) : Calls Tryz.prog 227 #[.int .u64 16] w fun e w' => e = .returned (.int .i64 4) ∧ w = w' := by
  have hc := hE.db
  have hb : IntKind.u64.wrap (bits .and .u64 16 (IntKind.u64.wrap (-16)) * 285870213051353865) / 288230376151711744 = 15 := by decide
  clear hE
  go_enter Tryz.func227, Tryz.ntmps227
  go_wp2
  go_ret
  exact ⟨rfl, rfl⟩
theorem tz (ea : Addr) (w : World) (hE : Env ea w) : Calls Tryz.prog 214 #[.int .u64 16] w fun e w' => e = .returned (.int .i64 4) ∧ w = w' := by
  have KT := Lib.hid (fun W hE => tz64 ea W hE)
  have HE := Lib.hid hE
  clear hE
  go_enter Tryz.func214, Tryz.ntmps214
  go_wp2_with (go_at_call 227; ((with_reducible refine (KT.out _ HE.out).mono ?_); rintro e w1 ⟨rfl, rfl⟩))
  go_ret
  exact ⟨rfl, rfl⟩
theorem pow2 (w : World) : Calls Tryz.prog 213 #[.int .i64 16] w fun e w' => e = .returned (.bool true) ∧ w = w' := by
  have hb : bits .and .i64 16 15 = 0 := by decide
  go_enter Tryz.func213, Tryz.ntmps213
  go_wp2
  go_ret
  exact ⟨rfl, rfl⟩
theorem blk_set1 {b : Nat} {cs : List Value} {t : TypeId} {w : World} (h : Blk b cs t w) (o : Nat) (v : Value) : Blk b (cs.set o v) t (w.setCell ⟨b, o, none⟩ v) := by
  unfold Blk at h ⊢
  unfold World.setCell
  simp only [Array.getElem?_modify, h]
  simp
abbrev u8v (x : UInt8) : Value := .int .u8 (x.toNat : Int)
theorem dig_at (d : Nat) (h : d < 16) (W : World) : (Instr.index 9 (.string ⟨#[48, 49, 50, 51, 52, 53, 54, 55, 56, 57, 97, 98, 99, 100, 101, 102, 103, 104, 105, 106, 107, 108, 109, 110, 111, 112, 113, 114, 115, 116, 117, 118, 119, 120, 121, 122]⟩) (.int .u64 (d : Int))).run Tryz.prog W = .ok (u8v (dig d)) W := by
  rcases (show d = 0 ∨ d = 1 ∨ d = 2 ∨ d = 3 ∨ d = 4 ∨ d = 5 ∨ d = 6 ∨ d = 7 ∨ d = 8 ∨ d = 9 ∨ d = 10 ∨ d = 11 ∨ d = 12 ∨ d = 13 ∨ d = 14 ∨ d = 15 by omega) with rfl | rfl | rfl | rfl | rfl | rfl | rfl | rfl | rfl | rfl | rfl | rfl | rfl | rfl | rfl | rfl
  all_goals kernel_rfl
theorem and15 (u : Nat) (h : u < 65536) : bits .and .u64 (u : Int) 15 = ((u % 16 : Nat) : Int) := by
  have ha : (BitVec.ofInt 64 (u : Int)).toNat = u := by
    rw [BitVec.ofInt_natCast, BitVec.toNat_ofNat]; exact Nat.mod_eq_of_lt (by omega)
  show IntKind.u64.wrap ((BitVec.ofInt 64 (u : Int) &&& BitVec.ofInt 64 15).toNat : Int) = _
  rw [BitVec.toNat_and, ha, show (BitVec.ofInt 64 15).toNat = 15 from rfl, show u &&& 15 = u % 2 ^ 4 from Nat.and_two_pow_sub_one_eq_mod u 4, IntKind.wrap_u64]
  omega
theorem row_of_blk {b : Nat} {cs : List Value} {t : TypeId} {w : World} (h : Blk b cs t w) (m n : Nat) (ds : List UInt8) (hd : cs.drop m = ds.map u8v) (hn : ds.length = n) (hn2 : n ≤ 1000) : Row eU8 w (.slice (some ⟨b, m, none⟩) n n) ds := by
  subst hn
  refine ⟨_, _, rfl, Nat.le_refl _, by unfold maxLen; omega, by simp, fun ad had j u hu => ?_⟩
  cases had
  rw [show eU8.all ds = ds.map u8v from all_one1 _ _ _, ← hd, List.getElem?_drop] at hu
  have hadd : (⟨b, m, none⟩ : Addr).add j = ⟨b, m + j, none⟩ := by unfold Addr.add; split <;> simp_all
  rw [hadd]
  exact h.cell _ _ hu
set_option maxRecDepth 1000000 in
set_option maxHeartbeats 2000000 in
theorem fmt1 (ea : Addr) (n : Nat) (hlo : 0 ≤ n) (hn : n < 16) (w : World) (hE : Env ea w) :
    Calls Tryz.prog 188 #[.slice none 0 0, .int .u64 (n : Int), .int .i64 16, .bool false, .bool false] w fun e w' => e = .returned (.tuple #[.slice none 0 0, .string (str [dig (n)])]) ∧ Below w.heap.size w w' := by
  have KP := Lib.hid (fun W => pow2 W)
  have KT := Lib.hid (fun W hE => tz ea W hE)
  have HE1 := Lib.hid (fun o => hE.alloc o)
  have hni : (n : Int) < 16 := by omega
  have g0 : (n : Int) < 16 := by omega
  have d0 := fun W => dig_at (n) (by omega) W
  clear hE
  go_enter Tryz.func188, Tryz.ntmps188
  go_wp2_with (first
    | (go_at_call 213; ((with_reducible refine (KP.out _).mono ?_); rintro e w1 ⟨rfl, rfl⟩))
    | (go_at_call 214; ((with_reducible refine (KT.out _ (HE1.out _)).mono ?_); rintro e w1 ⟨rfl, rfl⟩)))
  have hk : Blk w.heap.size (List.replicate 65 (.int .u8 0)) 216 (w.alloc (.cells (List.replicate 65 (.int .u8 0)).toArray 216)) := Blk.new w _ _ _ _ rfl rfl
  have hb : Below w.heap.size w (w.alloc (.cells (List.replicate 65 (.int .u8 0)).toArray 216)) := (Below.refl _ _).alloc (Nat.le_refl _) _
  change Code.wp _ _ _ _ (w.alloc (.cells (List.replicate 65 (.int .u8 0)).toArray 216))
  generalize w.alloc (.cells (List.replicate 65 (.int .u8 0)).toArray 216) = wr at hk hb ⊢
  have hc0 := hk.cell 64 (.int .u8 0) (by rfl)
  have hf0 := hk.free 64
  have k0 := blk_set1 hk 64 (u8v (dig (n)))
  have b0 := hb.setCell (p := ⟨w.heap.size, 64, none⟩) (Nat.le_refl _) (u8v (dig (n)))
  have hcv := (row_of_blk k0 64 1 [dig (n)] (by rfl) rfl (by omega)).conv' Tryz.underlying39 Tryz.underlying5 Tryz.underlying9
  have HB := Lib.hid b0
  generalize hl : ([dig (n)] : List UInt8) = ls at hcv ⊢
  have HL := Lib.hid hl
  clear hl
  clear hk hb hn hlo k0 b0
  have x00 : (0 : Int) ≤ ((dig (n)).toNat : Int) := by omega
  have x01 := (dig (n)).toNat_lt
  generalize (dig (n)).toNat = x0 at *
  refine wp_loop_rounds 1 ?_
  rw [rounds_succ]
  go_wp2
  go_ret2
  exact ⟨by rw [HL.out]; rfl, HB.out⟩
set_option maxRecDepth 1000000 in
set_option maxHeartbeats 2000000 in
theorem fmt2 (ea : Addr) (n : Nat) (hlo : 16 ≤ n) (hn : n < 256) (w : World) (hE : Env ea w) :
    Calls Tryz.prog 188 #[.slice none 0 0, .int .u64 (n : Int), .int .i64 16, .bool false, .bool false] w fun e w' => e = .returned (.tuple #[.slice none 0 0, .string (str [dig (n / 16), dig (n % 16)])]) ∧ Below w.heap.size w w' := by
  have KP := Lib.hid (fun W => pow2 W)
  have KT := Lib.hid (fun W hE => tz ea W hE)
  have HE1 := Lib.hid (fun o => hE.alloc o)
  have hni : (n : Int) < 256 := by omega
  have g0 : (16 : Int) ≤ (n : Int) := by omega
  have g1 : (n : Int) / 16 < 16 := by omega
  have a0 : bits .and .u64 ((n : Int)) 15 = (n : Int) % 16 := by have := and15 (n) (by omega); simpa using this
  have d0 := fun W => dig_at (n % 16) (by omega) W
  rw [show ((n % 16 : Nat) : Int) = (n : Int) % 16 by simp] at d0
  have d1 := fun W => dig_at (n / 16) (by omega) W
  rw [show ((n / 16 : Nat) : Int) = (n : Int) / 16 by simp] at d1
  clear hE
  go_enter Tryz.func188, Tryz.ntmps188
  go_wp2_with (first
    | (go_at_call 213; ((with_reducible refine (KP.out _).mono ?_); rintro e w1 ⟨rfl, rfl⟩))
    | (go_at_call 214; ((with_reducible refine (KT.out _ (HE1.out _)).mono ?_); rintro e w1 ⟨rfl, rfl⟩)))
  have hk : Blk w.heap.size (List.replicate 65 (.int .u8 0)) 216 (w.alloc (.cells (List.replicate 65 (.int .u8 0)).toArray 216)) := Blk.new w _ _ _ _ rfl rfl
  have hb : Below w.heap.size w (w.alloc (.cells (List.replicate 65 (.int .u8 0)).toArray 216)) := (Below.refl _ _).alloc (Nat.le_refl _) _
  change Code.wp _ _ _ _ (w.alloc (.cells (List.replicate 65 (.int .u8 0)).toArray 216))
  generalize w.alloc (.cells (List.replicate 65 (.int .u8 0)).toArray 216) = wr at hk hb ⊢
  have hc0 := hk.cell 64 (.int .u8 0) (by rfl)
  have hf0 := hk.free 64
  have k0 := blk_set1 hk 64 (u8v (dig (n % 16)))
  have b0 := hb.setCell (p := ⟨w.heap.size, 64, none⟩) (Nat.le_refl _) (u8v (dig (n % 16)))
  have hc1 := k0.cell 63 (.int .u8 0) (by rfl)
  have hf1 := k0.free 63
  have k1 := blk_set1 k0 63 (u8v (dig (n / 16)))
  have b1 := b0.setCell (p := ⟨w.heap.size, 63, none⟩) (Nat.le_refl _) (u8v (dig (n / 16)))
  have hcv := (row_of_blk k1 63 2 [dig (n / 16), dig (n % 16)] (by rfl) rfl (by omega)).conv' Tryz.underlying39 Tryz.underlying5 Tryz.underlying9
  have HB := Lib.hid b1
  generalize hl : ([dig (n / 16), dig (n % 16)] : List UInt8) = ls at hcv ⊢
  have HL := Lib.hid hl
  clear hl
  clear hk hb hn hlo k0 b0 k1 b1
  have x00 : (0 : Int) ≤ ((dig (n % 16)).toNat : Int) := by omega
  have x01 := (dig (n % 16)).toNat_lt
  generalize (dig (n % 16)).toNat = x0 at *
  have x10 : (0 : Int) ≤ ((dig (n / 16)).toNat : Int) := by omega
  have x11 := (dig (n / 16)).toNat_lt
  generalize (dig (n / 16)).toNat = x1 at *
  refine wp_loop_rounds 2 ?_
  rw [rounds_succ]
  go_wp2
  rw [rounds_succ]
  go_wp2
  go_ret2
  exact ⟨by rw [HL.out]; rfl, HB.out⟩
set_option maxRecDepth 1000000 in
set_option maxHeartbeats 2000000 in
theorem fmt3 (ea : Addr) (n : Nat) (hlo : 256 ≤ n) (hn : n < 4096) (w : World) (hE : Env ea w) :
    Calls Tryz.prog 188 #[.slice none 0 0, .int .u64 (n : Int), .int .i64 16, .bool false, .bool false] w fun e w' => e = .returned (.tuple #[.slice none 0 0, .string (str [dig (n / 16 / 16), dig (n / 16 % 16), dig (n % 16)])]) ∧ Below w.heap.size w w' := by
  have KP := Lib.hid (fun W => pow2 W)
  have KT := Lib.hid (fun W hE => tz ea W hE)
  have HE1 := Lib.hid (fun o => hE.alloc o)
  have hni : (n : Int) < 4096 := by omega
  have g0 : (16 : Int) ≤ (n : Int) := by omega
  have g1 : (16 : Int) ≤ (n : Int) / 16 := by omega
  have g2 : (n : Int) / 16 / 16 < 16 := by omega
  have a0 : bits .and .u64 ((n : Int)) 15 = (n : Int) % 16 := by have := and15 (n) (by omega); simpa using this
  have d0 := fun W => dig_at (n % 16) (by omega) W
  rw [show ((n % 16 : Nat) : Int) = (n : Int) % 16 by simp] at d0
  have a1 : bits .and .u64 ((n : Int) / 16) 15 = (n : Int) / 16 % 16 := by have := and15 (n / 16) (by omega); simpa using this
  have d1 := fun W => dig_at (n / 16 % 16) (by omega) W
  rw [show ((n / 16 % 16 : Nat) : Int) = (n : Int) / 16 % 16 by simp] at d1
  have d2 := fun W => dig_at (n / 16 / 16) (by omega) W
  rw [show ((n / 16 / 16 : Nat) : Int) = (n : Int) / 16 / 16 by simp] at d2
  clear hE
  go_enter Tryz.func188, Tryz.ntmps188
  go_wp2_with (first
    | (go_at_call 213; ((with_reducible refine (KP.out _).mono ?_); rintro e w1 ⟨rfl, rfl⟩))
    | (go_at_call 214; ((with_reducible refine (KT.out _ (HE1.out _)).mono ?_); rintro e w1 ⟨rfl, rfl⟩)))
  have hk : Blk w.heap.size (List.replicate 65 (.int .u8 0)) 216 (w.alloc (.cells (List.replicate 65 (.int .u8 0)).toArray 216)) := Blk.new w _ _ _ _ rfl rfl
  have hb : Below w.heap.size w (w.alloc (.cells (List.replicate 65 (.int .u8 0)).toArray 216)) := (Below.refl _ _).alloc (Nat.le_refl _) _
  change Code.wp _ _ _ _ (w.alloc (.cells (List.replicate 65 (.int .u8 0)).toArray 216))
  generalize w.alloc (.cells (List.replicate 65 (.int .u8 0)).toArray 216) = wr at hk hb ⊢
  have hc0 := hk.cell 64 (.int .u8 0) (by rfl)
  have hf0 := hk.free 64
  have k0 := blk_set1 hk 64 (u8v (dig (n % 16)))
  have b0 := hb.setCell (p := ⟨w.heap.size, 64, none⟩) (Nat.le_refl _) (u8v (dig (n % 16)))
  have hc1 := k0.cell 63 (.int .u8 0) (by rfl)
  have hf1 := k0.free 63
  have k1 := blk_set1 k0 63 (u8v (dig (n / 16 % 16)))
  have b1 := b0.setCell (p := ⟨w.heap.size, 63, none⟩) (Nat.le_refl _) (u8v (dig (n / 16 % 16)))
  have hc2 := k1.cell 62 (.int .u8 0) (by rfl)
  have hf2 := k1.free 62
  have k2 := blk_set1 k1 62 (u8v (dig (n / 16 / 16)))
  have b2 := b1.setCell (p := ⟨w.heap.size, 62, none⟩) (Nat.le_refl _) (u8v (dig (n / 16 / 16)))
  have hcv := (row_of_blk k2 62 3 [dig (n / 16 / 16), dig (n / 16 % 16), dig (n % 16)] (by rfl) rfl (by omega)).conv' Tryz.underlying39 Tryz.underlying5 Tryz.underlying9
  have HB := Lib.hid b2
  generalize hl : ([dig (n / 16 / 16), dig (n / 16 % 16), dig (n % 16)] : List UInt8) = ls at hcv ⊢
  have HL := Lib.hid hl
  clear hl
  clear hk hb hn hlo k0 b0 k1 b1 k2 b2
  have x00 : (0 : Int) ≤ ((dig (n % 16)).toNat : Int) := by omega
  have x01 := (dig (n % 16)).toNat_lt
  generalize (dig (n % 16)).toNat = x0 at *
  have x10 : (0 : Int) ≤ ((dig (n / 16 % 16)).toNat : Int) := by omega
  have x11 := (dig (n / 16 % 16)).toNat_lt
  generalize (dig (n / 16 % 16)).toNat = x1 at *
  have x20 : (0 : Int) ≤ ((dig (n / 16 / 16)).toNat : Int) := by omega
  have x21 := (dig (n / 16 / 16)).toNat_lt
  generalize (dig (n / 16 / 16)).toNat = x2 at *
  refine wp_loop_rounds 3 ?_
  rw [rounds_succ]
  go_wp2
  rw [rounds_succ]
  go_wp2
  rw [rounds_succ]
  go_wp2
  go_ret2
  exact ⟨by rw [HL.out]; rfl, HB.out⟩
set_option maxRecDepth 1000000 in
set_option maxHeartbeats 2000000 in
theorem fmt4 (ea : Addr) (n : Nat) (hlo : 4096 ≤ n) (hn : n < 65536) (w : World) (hE : Env ea w) :
    Calls Tryz.prog 188 #[.slice none 0 0, .int .u64 (n : Int), .int .i64 16, .bool false, .bool false] w fun e w' => e = .returned (.tuple #[.slice none 0 0, .string (str [dig (n / 16 / 16 / 16), dig (n / 16 / 16 % 16), dig (n / 16 % 16), dig (n % 16)])]) ∧ Below w.heap.size w w' := by
  have KP := Lib.hid (fun W => pow2 W)
  have KT := Lib.hid (fun W hE => tz ea W hE)
  have HE1 := Lib.hid (fun o => hE.alloc o)
  have hni : (n : Int) < 65536 := by omega
  have g0 : (16 : Int) ≤ (n : Int) := by omega
  have g1 : (16 : Int) ≤ (n : Int) / 16 := by omega
  have g2 : (16 : Int) ≤ (n : Int) / 16 / 16 := by omega
  have g3 : (n : Int) / 16 / 16 / 16 < 16 := by omega
  have a0 : bits .and .u64 ((n : Int)) 15 = (n : Int) % 16 := by have := and15 (n) (by omega); simpa using this
  have d0 := fun W => dig_at (n % 16) (by omega) W
  rw [show ((n % 16 : Nat) : Int) = (n : Int) % 16 by simp] at d0
  have a1 : bits .and .u64 ((n : Int) / 16) 15 = (n : Int) / 16 % 16 := by have := and15 (n / 16) (by omega); simpa using this
  have d1 := fun W => dig_at (n / 16 % 16) (by omega) W
  rw [show ((n / 16 % 16 : Nat) : Int) = (n : Int) / 16 % 16 by simp] at d1
  have a2 : bits .and .u64 ((n : Int) / 16 / 16) 15 = (n : Int) / 16 / 16 % 16 := by have := and15 (n / 16 / 16) (by omega); simpa using this
  have d2 := fun W => dig_at (n / 16 / 16 % 16) (by omega) W
  rw [show ((n / 16 / 16 % 16 : Nat) : Int) = (n : Int) / 16 / 16 % 16 by simp] at d2
  have d3 := fun W => dig_at (n / 16 / 16 / 16) (by omega) W
  rw [show ((n / 16 / 16 / 16 : Nat) : Int) = (n : Int) / 16 / 16 / 16 by simp] at d3
  clear hE
  go_enter Tryz.func188, Tryz.ntmps188
  go_wp2_with (first
    | (go_at_call 213; ((with_reducible refine (KP.out _).mono ?_); rintro e w1 ⟨rfl, rfl⟩))
    | (go_at_call 214; ((with_reducible refine (KT.out _ (HE1.out _)).mono ?_); rintro e w1 ⟨rfl, rfl⟩)))
  have hk : Blk w.heap.size (List.replicate 65 (.int .u8 0)) 216 (w.alloc (.cells (List.replicate 65 (.int .u8 0)).toArray 216)) := Blk.new w _ _ _ _ rfl rfl
  have hb : Below w.heap.size w (w.alloc (.cells (List.replicate 65 (.int .u8 0)).toArray 216)) := (Below.refl _ _).alloc (Nat.le_refl _) _
  change Code.wp _ _ _ _ (w.alloc (.cells (List.replicate 65 (.int .u8 0)).toArray 216))
  generalize w.alloc (.cells (List.replicate 65 (.int .u8 0)).toArray 216) = wr at hk hb ⊢
  have hc0 := hk.cell 64 (.int .u8 0) (by rfl)
  have hf0 := hk.free 64
  have k0 := blk_set1 hk 64 (u8v (dig (n % 16)))
  have b0 := hb.setCell (p := ⟨w.heap.size, 64, none⟩) (Nat.le_refl _) (u8v (dig (n % 16)))
  have hc1 := k0.cell 63 (.int .u8 0) (by rfl)
  have hf1 := k0.free 63
  have k1 := blk_set1 k0 63 (u8v (dig (n / 16 % 16)))
  have b1 := b0.setCell (p := ⟨w.heap.size, 63, none⟩) (Nat.le_refl _) (u8v (dig (n / 16 % 16)))
  have hc2 := k1.cell 62 (.int .u8 0) (by rfl)
  have hf2 := k1.free 62
  have k2 := blk_set1 k1 62 (u8v (dig (n / 16 / 16 % 16)))
  have b2 := b1.setCell (p := ⟨w.heap.size, 62, none⟩) (Nat.le_refl _) (u8v (dig (n / 16 / 16 % 16)))
  have hc3 := k2.cell 61 (.int .u8 0) (by rfl)
  have hf3 := k2.free 61
  have k3 := blk_set1 k2 61 (u8v (dig (n / 16 / 16 / 16)))
  have b3 := b2.setCell (p := ⟨w.heap.size, 61, none⟩) (Nat.le_refl _) (u8v (dig (n / 16 / 16 / 16)))
  have hcv := (row_of_blk k3 61 4 [dig (n / 16 / 16 / 16), dig (n / 16 / 16 % 16), dig (n / 16 % 16), dig (n % 16)] (by rfl) rfl (by omega)).conv' Tryz.underlying39 Tryz.underlying5 Tryz.underlying9
  have HB := Lib.hid b3
  generalize hl : ([dig (n / 16 / 16 / 16), dig (n / 16 / 16 % 16), dig (n / 16 % 16), dig (n % 16)] : List UInt8) = ls at hcv ⊢
  have HL := Lib.hid hl
  clear hl
  clear hk hb hn hlo k0 b0 k1 b1 k2 b2 k3 b3
  have x00 : (0 : Int) ≤ ((dig (n % 16)).toNat : Int) := by omega
  have x01 := (dig (n % 16)).toNat_lt
  generalize (dig (n % 16)).toNat = x0 at *
  have x10 : (0 : Int) ≤ ((dig (n / 16 % 16)).toNat : Int) := by omega
  have x11 := (dig (n / 16 % 16)).toNat_lt
  generalize (dig (n / 16 % 16)).toNat = x1 at *
  have x20 : (0 : Int) ≤ ((dig (n / 16 / 16 % 16)).toNat : Int) := by omega
  have x21 := (dig (n / 16 / 16 % 16)).toNat_lt
  generalize (dig (n / 16 / 16 % 16)).toNat = x2 at *
  have x30 : (0 : Int) ≤ ((dig (n / 16 / 16 / 16)).toNat : Int) := by omega
  have x31 := (dig (n / 16 / 16 / 16)).toNat_lt
  generalize (dig (n / 16 / 16 / 16)).toNat = x3 at *
  refine wp_loop_rounds 4 ?_
  rw [rounds_succ]
  go_wp2
  rw [rounds_succ]
  go_wp2
  rw [rounds_succ]
  go_wp2
  rw [rounds_succ]
  go_wp2
  go_ret2
  exact ⟨by rw [HL.out]; rfl, HB.out⟩
theorem fmtbits (ea : Addr) (n : Nat) (hn : n < 65536) (w : World) (hE : Env ea w) :
    Calls Tryz.prog 188 #[.slice none 0 0, .int .u64 (n : Int), .int .i64 16, .bool false, .bool false] w fun e w' => e = .returned (.tuple #[.slice none 0 0, .string (str (numb 16 20 n))]) ∧ Below w.heap.size w w' := by
  by_cases h1 : n < 16
  · rw [numb_small _ _ _ h1]; exact fmt1 ea n (by omega) h1 w hE
  · rw [show (20 : Nat) = 19 + 1 from rfl, numb_big _ _ _ h1]
    by_cases h2 : n < 256
    · rw [numb_small _ _ _ (by omega)]; exact fmt2 ea n (by omega) h2 w hE
    · rw [show (19 : Nat) = 18 + 1 from rfl, numb_big _ _ _ (by omega)]
      by_cases h3 : n < 4096
      · rw [numb_small _ _ _ (by omega)]; exact fmt3 ea n (by omega) h3 w hE
      · rw [show (18 : Nat) = 17 + 1 from rfl, numb_big _ _ _ (by omega), numb_small _ _ _ (by omega)]; exact fmt4 ea n (by omega) hn w hE
theorem fmt16 (ea : Addr) (n : Nat) (hn : n < 65536) (w : World) (hE : Env ea w) :
    Calls Tryz.prog 126 #[.int .i64 (n : Int), .int .i64 16] w fun e w' => e = .returned (.string (str (numb 16 20 n))) ∧ Below w.heap.size w w' := by
  have KI : Hid (∀ W, Env ea W → Calls Tryz.prog 156 #[.int .i64 (n : Int), .int .i64 16] W fun e w' => e = .returned (.string (str (numb 16 20 n))) ∧ Below W.heap.size W w') := Lib.hid (fun W hE => by
    have KF := Lib.hid (fun W hE => fmtbits ea n hn W hE)
    have HE := Lib.hid hE
    have hni : (n : Int) < 65536 := by omega
    have hneg : decide ((n : Int) < 0) = false := decide_eq_false (by omega)
    clear hE hn
    generalize str (numb 16 20 n) = T at *
    go_enter Tryz.func156, Tryz.ntmps156
    go_wp2_with (go_at_call 188; ((with_reducible refine (KF.out _ HE.out).mono ?_); rintro e w1 ⟨rfl, hb⟩; have HB := Lib.hid hb; clear hb))
    go_ret
    exact ⟨rfl, HB.out⟩)
  have HE := Lib.hid hE
  clear hE hn
  generalize str (numb 16 20 n) = T at *
  go_enter Tryz.func126, Tryz.ntmps126
  go_wp2_with (go_at_call 156; ((with_reducible refine (KI.out _ HE.out).mono ?_); rintro e w1 ⟨rfl, hb⟩; have HB := Lib.hid hb; clear hb))
  go_ret
  exact ⟨rfl, HB.out⟩
end Go.Proofs.YtmcgkknpkocgoaaGreatDoor.Ad
