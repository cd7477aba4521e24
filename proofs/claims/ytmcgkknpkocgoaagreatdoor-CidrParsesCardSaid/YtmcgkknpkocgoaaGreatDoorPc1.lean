/- Cidrs, plainly: bits of bytes, an address's first bits. -/
import Derived.Test.YtmcgkknpkocgoaaGreatDoorAdT
import Derived.Test.YtmcgkknpkocgoaaGreatDoorPf1
import Derived.Deep.RegionHeld3
import Derived.Test.YtmcgkknpkocgoaaGreatDoorPorts
import Derived.Test.YtmcgkknpkocgoaaGreatDoorAdR
namespace Go.Proofs.YtmcgkknpkocgoaaGreatDoor.Ad
open Go.RowKit Go.Proofs.YtmcgkknpkocgoaaGreatDoor.Mem Go.Proofs.YtmcgkknpkocgoaaGreatDoor.Num Go.Proofs.YtmcgkknpkocgoaaGreatDoor.Err Go.Proofs.YtmcgkknpkocgoaaGreatDoor.AdP
set_option linter.unusedVariables false
set_option linter.unusedSimpArgs false
set_option maxRecDepth 100000
/-- A bit of a byte (the first one: the greatest). -/
def bitB (x : UInt8) (j : Nat) : Nat := x.toNat / 2 ^ (7 - j) % 2
/-- A byte's first bits. -/
def keepB (k : Nat) (x : UInt8) : UInt8 := UInt8.ofNat (x.toNat / 2 ^ (8 - k) * 2 ^ (8 - k))
theorem kb1 : ∀ (k : Fin 9) (x : Fin 256), keepB k (UInt8.ofNat x) = UInt8.ofNat x ↔ ∀ j : Fin 8, k.1 ≤ j.1 → bitB (UInt8.ofNat x) j = 0 := by decide +kernel
theorem kb2 : ∀ (k : Fin 9) (j : Fin 8) (x : Fin 256), bitB (keepB k (UInt8.ofNat x)) j = if j.1 < k.1 then bitB (UInt8.ofNat x) j else 0 := by decide +kernel
theorem kb3 : ∀ x : Fin 256, x.1 = bitB (UInt8.ofNat x) 0 * 128 + bitB (UInt8.ofNat x) 1 * 64 + bitB (UInt8.ofNat x) 2 * 32 + bitB (UInt8.ofNat x) 3 * 16 + bitB (UInt8.ofNat x) 4 * 8 + bitB (UInt8.ofNat x) 5 * 4 + bitB (UInt8.ofNat x) 6 * 2 + bitB (UInt8.ofNat x) 7 := by decide +kernel
theorem kb4 : ∀ (k : Fin 8) (x : Fin 256), keepB (k + 1) (UInt8.ofNat x) = keepB k (UInt8.ofNat x) + UInt8.ofNat (bitB (UInt8.ofNat x) k * 2 ^ (7 - k.1)) := by decide +kernel
theorem of_nat (x : UInt8) : UInt8.ofNat ((⟨x.toNat, x.toNat_lt⟩ : Fin 256) : Nat) = x := by simp
theorem keep_id (k : Nat) (hk : k ≤ 8) (x : UInt8) : keepB k x = x ↔ ∀ j, j < 8 → k ≤ j → bitB x j = 0 := by
  have h := kb1 ⟨k, by omega⟩ ⟨x.toNat, x.toNat_lt⟩
  rw [of_nat] at h
  exact h.trans ⟨fun h j hj => h ⟨j, hj⟩, fun h j => h j.1 j.2⟩
theorem keep_bit (k j : Nat) (hk : k ≤ 8) (hj : j < 8) (x : UInt8) : bitB (keepB k x) j = if j < k then bitB x j else 0 := by
  have h := kb2 ⟨k, by omega⟩ ⟨j, hj⟩ ⟨x.toNat, x.toNat_lt⟩
  rw [of_nat] at h
  exact h
theorem byte_bits (x y : UInt8) (h : ∀ j, j < 8 → bitB x j = bitB y j) : x = y := by
  have hx := kb3 ⟨x.toNat, x.toNat_lt⟩
  have hy := kb3 ⟨y.toNat, y.toNat_lt⟩
  rw [of_nat] at hx hy
  rw [h 0 (by omega), h 1 (by omega), h 2 (by omega), h 3 (by omega), h 4 (by omega), h 5 (by omega), h 6 (by omega), h 7 (by omega), ← hy] at hx
  exact UInt8.toNat_inj.1 hx
theorem keep_next (k : Nat) (hk : k < 8) (x : UInt8) : keepB (k + 1) x = keepB k x + UInt8.ofNat (bitB x k * 2 ^ (7 - k)) := by
  have h := kb4 ⟨k, hk⟩ ⟨x.toNat, x.toNat_lt⟩
  rw [of_nat] at h
  exact h
theorem keep_none (x : UInt8) : keepB 0 x = 0 := by
  refine byte_bits _ _ (fun j hj => ?_)
  rw [keep_bit 0 j (by omega) hj, if_neg (by omega)]
  rcases j with _ | _ | _ | _ | _ | _ | _ | _ | j <;> first | rfl | omega
theorem keep_zero (k : Nat) (hk : k ≤ 8) : keepB k 0 = 0 := by
  unfold keepB
  simp
theorem bitB_le (x : UInt8) (j : Nat) : bitB x j < 2 := Nat.mod_lt _ (by decide)
/-- A bit of an address's bytes. -/
def bitA (b : List UInt8) (i : Nat) : Nat := bitB (b.getD (i / 8) 0) (i % 8)
/-- How many bits of a byte are kept. -/
def keepN (bits i : Nat) : Nat := min (bits - 8 * i) 8
/-- An address's first bits. -/
def cutL (b : List UInt8) (bits : Nat) : List UInt8 := b.mapIdx (fun i x => keepB (keepN bits i) x)
theorem cutL_len (b : List UInt8) (n : Nat) : (cutL b n).length = b.length := by simp [cutL]
theorem keepN_le (n i : Nat) : keepN n i ≤ 8 := Nat.min_le_right _ _
theorem cutL_at (b : List UInt8) (n i : Nat) : (cutL b n).getD i 0 = keepB (keepN n i) (b.getD i 0) := by
  rw [List.getD_eq_getElem?_getD, List.getD_eq_getElem?_getD]
  unfold cutL
  rw [List.getElem?_mapIdx]
  cases b[i]? with
  | none => exact (keep_zero _ (keepN_le n i)).symm
  | some x => rfl
theorem cutL_bit (b : List UInt8) (n i : Nat) : bitA (cutL b n) i = if i < n then bitA b i else 0 := by
  unfold bitA
  rw [cutL_at, keep_bit _ _ (keepN_le _ _) (Nat.mod_lt _ (by decide))]
  by_cases h : i < n
  · rw [if_pos h, if_pos]
    unfold keepN; omega
  · rw [if_neg h, if_neg]
    unfold keepN; omega
theorem bytes_bits (a b : List UInt8) (n : Nat) (ha : a.length = n) (hb : b.length = n) (h : ∀ i, i < 8 * n → bitA a i = bitA b i) : a = b := by
  apply List.ext_getElem (by omega)
  intro k h1 h2
  refine byte_bits _ _ (fun j hj => ?_)
  have := h (8 * k + j) (by omega)
  unfold bitA at this
  rw [show (8 * k + j) / 8 = k by omega, show (8 * k + j) % 8 = j by omega, List.getD_eq_getElem?_getD, List.getD_eq_getElem?_getD, List.getElem?_eq_getElem h1, List.getElem?_eq_getElem h2] at this
  exact this
theorem cutL_id (b : List UInt8) (n m : Nat) (hb : b.length = m) : cutL b n = b ↔ ∀ i, n ≤ i → i < 8 * m → bitA b i = 0 := by
  constructor
  · intro h i hi hm
    have := cutL_bit b n i
    rw [h, if_neg (by omega)] at this
    exact this
  · intro h
    refine bytes_bits _ _ m (by rw [cutL_len, hb]) hb (fun i hi => ?_)
    rw [cutL_bit]
    by_cases hn : i < n
    · rw [if_pos hn]
    · rw [if_neg hn, h i (by omega) hi]
theorem cutL_idem (b : List UInt8) (n : Nat) : cutL (cutL b n) n = cutL b n := by
  rw [cutL_id _ n b.length (cutL_len b n)]
  intro i h1 h2
  rw [cutL_bit, if_neg (by omega)]
theorem cutL_same (a c : List UInt8) (n m : Nat) (ha : a.length = m) (hc : c.length = m) (hn : n ≤ 8 * m) (h : cutL c n = c) : cutL a n = c ↔ ∀ i, i < n → bitA a i = bitA c i := by
  constructor
  · intro h1 i hi
    have := cutL_bit a n i
    rw [h1, if_pos hi] at this
    exact this.symm
  · intro h1
    refine bytes_bits _ _ m (by rw [cutL_len, ha]) hc (fun i hi => ?_)
    rw [cutL_bit]
    by_cases hn : i < n
    · rw [if_pos hn, h1 i hn]
    · rw [if_neg hn]
      exact ((cutL_id c n m hc).1 h i (by omega) hi).symm
theorem cutL_get (b : List UInt8) (n k : Nat) (h : k < (cutL b n).length) : (cutL b n)[k] = keepB (keepN n k) (b[k]'(by rw [cutL_len] at h; exact h)) := by
  simp [cutL]
theorem cutL_zero (b : List UInt8) : cutL b 0 = List.replicate b.length 0 := by
  apply List.ext_getElem (by rw [cutL_len]; simp)
  intro k h1 h2
  rw [List.getElem_replicate, cutL_get]
  have : keepN 0 k = 0 := by unfold keepN; omega
  rw [this, keep_none]
theorem cutL_succ (b : List UInt8) (n : Nat) (h : n < 8 * b.length) : cutL b (n + 1) = (cutL b n).set (n / 8) ((cutL b n).getD (n / 8) 0 + UInt8.ofNat (bitA b n * 2 ^ (7 - n % 8))) := by
  apply List.ext_getElem (by rw [List.length_set, cutL_len, cutL_len])
  intro k h1 h2
  have h3 : k < b.length := by rw [cutL_len] at h1; exact h1
  rw [List.getElem_set, cutL_get]
  by_cases hk : n / 8 = k
  · rw [if_pos hk, hk, cutL_at]
    have hd : b.getD k 0 = b[k] := by rw [List.getD_eq_getElem?_getD, List.getElem?_eq_getElem h3]; rfl
    have k1 : keepN (n + 1) k = n % 8 + 1 := by unfold keepN; omega
    have k0 : keepN n k = n % 8 := by unfold keepN; omega
    unfold bitA
    rw [hk, hd, k1, k0]
    exact keep_next _ (Nat.mod_lt _ (by decide)) _
  · rw [if_neg hk, cutL_get]
    congr 1
    unfold keepN; omega
/-- The document's words: no bit behind the first ones. -/
theorem right_bits (six : Bool) (b : List UInt8) (hb : b.length = 16) (hr : rightA six b = true) (n : Nat) : cutL b n = b ↔ ∀ i, n ≤ i → i < (if six = true then 128 else 32) → bitA b i = 0 := by
  rw [cutL_id b n 16 hb]
  cases six with
  | true => exact ⟨fun h i h1 h2 => h i h1 h2, fun h i h1 h2 => h i h1 h2⟩
  | false =>
    have hz : ∀ x ∈ b.drop 4, x = 0 := by
      unfold rightA at hr
      simpa using hr
    constructor
    · intro h i h1 h2
      simp at h2
      exact h i h1 (by omega)
    · intro h i h1 h2
      by_cases hi : i < 32
      · exact h i h1 (by simpa using hi)
      · have hl : i / 8 < b.length := by omega
        have : b.getD (i / 8) 0 = 0 := by
          rw [List.getD_eq_getElem?_getD, List.getElem?_eq_getElem hl]
          refine hz _ ?_
          rw [List.mem_iff_getElem]
          exact ⟨i / 8 - 4, by simp; omega, by rw [List.getElem_drop]; simp only [Option.getD_some]; congr 1; omega⟩
        unfold bitA
        rw [this]
        unfold bitB
        simp
theorem right_cut (six : Bool) (b : List UInt8) (n : Nat) (hr : rightA six b = true) : rightA six (cutL b n) = true := by
  cases six with
  | true => rfl
  | false =>
    unfold rightA at hr ⊢
    simp only [Bool.false_or, List.all_eq_true, beq_iff_eq] at hr ⊢
    intro x hx
    obtain ⟨k, hk, rfl⟩ := List.mem_iff_getElem.1 hx
    rw [List.getElem_drop, cutL_get]
    have hk2 : 4 + k < b.length := by simp [cutL] at hk; omega
    have : b[4 + k] = 0 := hr _ (List.mem_iff_getElem.2 ⟨k, by simp; omega, by rw [List.getElem_drop]⟩)
    rw [this, keep_zero _ (keepN_le _ _)]
end Go.Proofs.YtmcgkknpkocgoaaGreatDoor.Ad

/- linkboyref03.Width, bit, Zero. -/
namespace Go.Proofs.YtmcgkknpkocgoaaGreatDoor.Ad
open Go.RowKit Go.Proofs.YtmcgkknpkocgoaaGreatDoor.Mem Go.Proofs.YtmcgkknpkocgoaaGreatDoor.Num Go.Proofs.YtmcgkknpkocgoaaGreatDoor.Err Go.Proofs.YtmcgkknpkocgoaaGreatDoor.AdP
open Go.Proofs.YtmcgkknpkocgoaaGreatDoor.Addr (adV adA adCells adA_size cell_box load_box cell_six)
set_option linter.unusedVariables false
set_option linter.unusedSimpArgs false
set_option maxRecDepth 100000
attribute [-go_sem] Builtin.append_ loadCells loadCellsFrom storeCells
/-- How many bits an address has. -/
def widthA (six : Bool) : Nat := if six = true then 128 else 32
theorem width_calls (six : Bool) (b : List UInt8) (hb : b.length = 16) (w : World) :
    Calls Tryz.prog 69 #[adV six b] w fun e w' => e = .returned (.int .i64 (widthA six : Int)) ∧ Below w.heap.size w w' := by
  have c0 := cell_six w (w.alloc (.cells (adA six b) 24)) six b 24 (Below.refl _ _)
  have hsz := adA_size six b hb
  show Calls Tryz.prog 69 #[.agg (adA six b)] w fun e w' => e = .returned (.int .i64 (widthA six : Int)) ∧ Below w.heap.size w w'
  generalize adA six b = ca at *
  have HB := Lib.hid ((Below.refl w.heap.size w).alloc (Nat.le_refl _) (.cells ca 24))
  cases six with
  | true =>
    go_enter Tryz.func69, Tryz.ntmps69
    go_wp2
    go_ret
    exact ⟨rfl, HB.out⟩
  | false =>
    go_enter Tryz.func69, Tryz.ntmps69
    go_wp2
    go_ret
    exact ⟨rfl, HB.out⟩
set_option maxHeartbeats 4000000 in
theorem bit_calls (six : Bool) (b : List UInt8) (hb : b.length = 16) (i : Nat) (hi : i < 128) (w : World) :
    Calls Tryz.prog 112 #[adV six b, .int .i64 (i : Int)] w fun e w' => e = .returned (.int .i64 (bitA b i : Int)) ∧ Below w.heap.size w w' := by
  have hk : i / 8 < 16 := by omega
  have hc := cell_byte six b hb w (w.alloc (.cells (adA six b) 24)) (Below.refl _ _) (i / 8) hk
  have hsz := adA_size six b hb
  have hx := (b[i / 8]'(by omega)).toNat_lt
  have hbit : bitA b i = (b[i / 8]'(by omega)).toNat / 2 ^ (7 - i % 8) % 2 := by
    unfold bitA bitB
    rw [List.getD_eq_getElem?_getD, List.getElem?_eq_getElem (by omega)]
    rfl
  show Calls Tryz.prog 112 #[.agg (adA six b), .int .i64 (i : Int)] w fun e w' => e = .returned (.int .i64 (bitA b i : Int)) ∧ Below w.heap.size w w'
  have HB := Lib.hid ((Below.refl w.heap.size w).alloc (Nat.le_refl _) (.cells (adA six b) 24))
  generalize adA six b = ca at *
  rw [hbit]
  clear hbit
  generalize (b[i / 8]'(by omega)).toNat = x at *
  obtain ⟨I, hI⟩ : ∃ I : Int, I = (i : Int) := ⟨_, rfl⟩
  rw [← hI]
  have h0 : 0 ≤ I := by omega
  have h1 : I < 128 := by omega
  have hq : I.tdiv 8 = ((i / 8 : Nat) : Int) := by rw [Int.tdiv_eq_ediv_of_nonneg (by omega), hI]; rfl
  have hq2 : I / 8 = ((i / 8 : Nat) : Int) := by rw [hI]; rfl
  have hr : I.tmod 8 = ((i % 8 : Nat) : Int) := by rw [Int.tmod_eq_emod_of_nonneg (by omega), hI]; rfl
  have hr2 : I % 8 = ((i % 8 : Nat) : Int) := by rw [hI]; rfl
  have hj : i % 8 < 8 := Nat.mod_lt _ (by decide)
  generalize i / 8 = k at *
  generalize i % 8 = j at *
  have hki : (k : Int) < 16 := by omega
  have hxi : (x : Int) < 256 := by omega
  have hx0 : (0 : Int) ≤ (x : Int) := by omega
  clear hI hb hx hi
  rcases (show j = 0 ∨ j = 1 ∨ j = 2 ∨ j = 3 ∨ j = 4 ∨ j = 5 ∨ j = 6 ∨ j = 7 by omega) with rfl | rfl | rfl | rfl | rfl | rfl | rfl | rfl
  all_goals
    go_enter Tryz.func112, Tryz.ntmps112
    go_wp2
    go_ret
    exact ⟨by (first | rfl | (rw [show x / 2 ^ (7 - 7) % 2 = x % 2 by simp]; rfl)), HB.out⟩
theorem width_le (six : Bool) : widthA six ≤ 128 := by cases six <;> decide
set_option maxHeartbeats 4000000 in
theorem zero_calls (six : Bool) (b : List UInt8) (hb : b.length = 16) (hr : rightA six b = true) (n : Nat) (hn : n ≤ widthA six) (w : World) :
    Calls Tryz.prog 110 #[adV six b, .int .i64 (n : Int)] w fun e w' => e = .returned (.bool (decide (cutL b n = b))) ∧ Below w.heap.size w w' := by
  have hrb := right_bits six b hb hr n
  have hwd : (if six = true then 128 else 32) = widthA six := rfl
  rw [hwd] at hrb
  have HLD := Lib.hid (fun W h => load_ad six b hb w W h)
  have HBD : Hid (∀ W, Below (w.alloc (.cells (adA six b) 24)).heap.size (w.alloc (.cells (adA six b) 24)) W → Below w.heap.size w W) := Lib.hid (fun W h => below_allocd h)
  have KW : Hid (∀ W, Calls Tryz.prog 69 #[.agg (adA six b)] W fun e w' => e = .returned (.int .i64 (widthA six : Int)) ∧ Below W.heap.size W w') := Lib.hid (fun W => width_calls six b hb W)
  have KB : Hid (∀ (i : Nat), i < 128 → ∀ W, Calls Tryz.prog 112 #[.agg (adA six b), .int .i64 (i : Int)] W fun e w' => e = .returned (.int .i64 (bitA b i : Int)) ∧ Below W.heap.size W w') := Lib.hid (fun i hi W => bit_calls six b hb i hi W)
  have hsz := adA_size six b hb
  have HR := Lib.hid hrb
  have HN := Lib.hid hn
  have hw128 := width_le six
  have HW128 := Lib.hid hw128
  show Calls Tryz.prog 110 #[.agg (adA six b), .int .i64 (n : Int)] w fun e w' => e = .returned (.bool (decide (cutL b n = b))) ∧ Below w.heap.size w w'
  generalize adA six b = ca at *
  have hwi : (widthA six : Int) ≤ 128 := by omega
  clear hrb hwd hn hr hw128
  generalize widthA six = wd at *
  obtain ⟨WD, hWD⟩ : ∃ WD : Int, WD = (wd : Int) := ⟨_, rfl⟩
  rw [← hWD] at KW hwi
  have HWD := Lib.hid hWD
  clear hWD
  obtain ⟨N, hN⟩ : ∃ N : Int, N = (n : Int) := ⟨_, rfl⟩
  rw [← hN]
  have HNN := Lib.hid hN
  clear hN
  go_enter Tryz.func110, Tryz.ntmps110
  go_wp2
  obtain ⟨W0, hW0⟩ : ∃ W0, W0 = w.alloc (.cells ca 24) := ⟨_, rfl⟩
  rw [← hW0] at HLD HBD ⊢
  clear hW0
  go_loopw [5] (fun iv wr => ∃ (i : Nat) (I : Int), iv = .int .i64 I ∧ Hid (I = (i : Int)) ∧ Hid (n ≤ i ∧ i ≤ wd) ∧ Hid (∀ j, n ≤ j → j < i → bitA b j = 0) ∧ Hid (Below W0.heap.size W0 wr)) (fun iv _ => wd - (intOf iv).toNat)
  case atStart => exact ⟨n, N, rfl, HNN, Lib.hid ⟨Nat.le_refl _, HN.out⟩, Lib.hid (fun j h1 h2 => by omega), Lib.hid (Below.refl _ _)⟩
  case round =>
    obtain ⟨i, I, rfl, HI, HL, HZ, HB⟩ := hrel
    have hI0 : (0 : Int) ≤ I := by have := HI.out; omega
    have hl1 := HLD.out _ HB.out
    by_cases hlt : I < WD
    · have hi1 : i < wd := by have := HI.out; have := HWD.out; omega
      have hI128 : I < 128 := by omega
      have KB1 := Lib.hid (KB.out i (by have := HW128.out; omega))
      have hie := HI.out
      rw [← hie] at KB1
      clear hie
      by_cases hz : bitA b i = 0
      · have HZ2 : Hid (∀ j, n ≤ j → j < i + 1 → bitA b j = 0) := Lib.hid (fun j h1 h2 => by
          by_cases hj : j = i
          · rw [hj]; exact hz
          · exact HZ.out j h1 (by omega))
        have HL2 : Hid (n ≤ i + 1 ∧ i + 1 ≤ wd) := Lib.hid (by have := HL.out; omega)
        have HI2 := Lib.hid (show I + 1 = ((i + 1 : Nat) : Int) by have := HI.out; omega)
        have HM := Lib.hid (show wd - (I + 1).toNat < wd - I.toNat by have := HI.out; omega)
        rw [hz] at KB1
        clear hz hi1
        go_wp2_with (first
          | (go_at_call 69; ((with_reducible refine (KW.out _).mono ?_); rintro e w2 ⟨rfl, hb2⟩; have HB2 := Lib.hid (HB.out.trans (hb2.mono HB.out.size)); have hl2 := HLD.out _ HB2.out; clear hb2))
          | (go_at_call 112; ((with_reducible refine (KB1.out _).mono ?_); rintro e w3 ⟨rfl, hb3⟩; have HB3 := Lib.hid (HB2.out.trans (hb3.mono HB2.out.size)); clear hb3)))
        go_roundw
        case rel => exact ⟨i + 1, I + 1, by (first | rfl | go_num), HI2, HL2, HZ2, HB3⟩
        case measure => exact HM.out
      · have HF := Lib.hid (show decide (cutL b n = b) = false from decide_eq_false (fun h => hz (HR.out.1 h i HL.out.1 hi1)))
        have hq0 : ((bitA b i : Int) == 0) = false := beq_eq_false_iff_ne.mpr (by omega)
        have hq1 : ((bitA b i : Int) != 0) = true := bne_iff_ne.mpr (by omega)
        clear hz hi1
        generalize bitA b i = G at *
        go_wp2_with (first
          | (go_at_call 69; ((with_reducible refine (KW.out _).mono ?_); rintro e w2 ⟨rfl, hb2⟩; have HB2 := Lib.hid (HB.out.trans (hb2.mono HB.out.size)); have hl2 := HLD.out _ HB2.out; clear hb2))
          | (go_at_call 112; ((with_reducible refine (KB1.out _).mono ?_); rintro e w3 ⟨rfl, hb3⟩; have HB3 := Lib.hid (HB2.out.trans (hb3.mono HB2.out.size)); clear hb3)))
        go_ret
        exact ⟨by rw [HF.out]; rfl, HBD.out _ HB3.out⟩
    · have HT := Lib.hid (show decide (cutL b n = b) = true from decide_eq_true (HR.out.2 (fun j h1 h2 => HZ.out j h1 (by have := HI.out; have := HWD.out; omega))))
      go_wp2_with (go_at_call 69; ((with_reducible refine (KW.out _).mono ?_); rintro e w2 ⟨rfl, hb2⟩; have HB2 := Lib.hid (HB.out.trans (hb2.mono HB.out.size)); clear hb2))
      go_ret
      exact ⟨by rw [HT.out]; rfl, HBD.out _ HB2.out⟩
end Go.Proofs.YtmcgkknpkocgoaaGreatDoor.Ad

/- One move of a walk through a region that draws: an operation is taken first, its slot named. -/
namespace Go.Proofs.YtmcgkknpkocgoaaGreatDoor.Gw
open Go
theorem gw_take {P : Program} {md : Region.Mode} {ops : Array Oper} {Q : Exit → Act → World → Prop} {S : World → Prop} {i : Nat} {oi : Oper} {v : Value} {d : Option Tmp} {fuel : Nat} {listed : Array Bool} {a : Act} {w : World} (hi : ops[i]? = some oi) (hd : oi.dst = d)
    (hs : Region.noSelect ops = true) (hf : Region.free md ops listed i = true) (hr : (Region.ready md ops listed).contains i = true)
    (hQ : ∀ c a w, Q (.panic c) (a.put d v) w → Q (.panic c) a w) (hy : YieldsIf P ops S oi v a) (hS : S w)
    (h : wpAnyH P md ops Q S fuel (listed.setIfInBounds i true) (a.put d v) w) : wpAnyH P md ops Q S (fuel + 1) listed a w := by
  subst hd
  exact wpAnyH_take hi hs hf hr hQ hy hS h
end Go.Proofs.YtmcgkknpkocgoaaGreatDoor.Gw

/- linkboyref03.Right; cidr.fits, cidr.cut, cidr.Right. -/
namespace Go.Proofs.YtmcgkknpkocgoaaGreatDoor.Ad
open Go.RowKit Go.Proofs.YtmcgkknpkocgoaaGreatDoor.Mem Go.Proofs.YtmcgkknpkocgoaaGreatDoor.Num Go.Proofs.YtmcgkknpkocgoaaGreatDoor.Err Go.Proofs.YtmcgkknpkocgoaaGreatDoor.AdP
open Go.Proofs.YtmcgkknpkocgoaaGreatDoor.Key (eql_deep key_addr)
open Go.Proofs.YtmcgkknpkocgoaaGreatDoor.Head (pad pad_len adCells_one adCells_len infoAd splice_ad)
open Go.Proofs.YtmcgkknpkocgoaaGreatDoor.Addr (adV adA adCells adA_size cell_box load_box cell_six ptA ptV pt_loads)
set_option linter.unusedVariables false
set_option linter.unusedSimpArgs false
set_option maxRecDepth 100000
attribute [-go_sem] Builtin.append_ loadCells loadCellsFrom storeCells run_eql_struct
/-- Is a cidr right? -/
def rightC (six : Bool) (b : List UInt8) (n : Int) : Bool := rightA six b && (decide (0 ≤ n) && (decide (n ≤ (widthA six : Int)) && decide (cutL b n.toNat = b)))
theorem ptA_size (six : Bool) (b : List UInt8) (n : Int) (hb : b.length = 16) : (ptA six b n).size = 18 := by
  unfold ptA
  simp [adCells_len six b hb]
/-- What is loaded of a cidr's block. -/
def CdL (g : Nat) (ca pa : Array Value) (n : Int) (W : World) : Prop := (loadCells ⟨g, 0, none⟩ 17).run Tryz.prog W = .ok ca W ∧ (loadCells ⟨g, 0, none⟩ 18).run Tryz.prog W = .ok pa W ∧ W.cell? ⟨g, 17, none⟩ = some (.int .i64 n)
theorem cdL_of (six : Bool) (b : List UInt8) (n : Int) (hb : b.length = 16) (w W : World) (h : Below (w.alloc (.cells (ptA six b n) 74)).heap.size (w.alloc (.cells (ptA six b n) 74)) W) : CdL w.heap.size (adA six b) (ptA six b n) n W :=
  pt_loads six b n hb w W 74 h
set_option maxHeartbeats 4000000 in
theorem rright3_calls (six : Bool) (b : List UInt8) (hb : b.length = 16) (n : Int) (w : World) :
    Calls Tryz.prog 59 #[ptV six b n] w fun e w' => e = .returned (.bool (rightC six b n)) ∧ Below w.heap.size w w' := by
  have HLD : Hid (∀ W, Below (w.alloc (.cells (ptA six b n) 74)).heap.size (w.alloc (.cells (ptA six b n) 74)) W → CdL w.heap.size (adA six b) (ptA six b n) n W) := Lib.hid (fun W h => cdL_of six b n hb w W h)
  have HBD : Hid (∀ W, Below (w.alloc (.cells (ptA six b n) 74)).heap.size (w.alloc (.cells (ptA six b n) 74)) W → Below w.heap.size w W) := Lib.hid (fun W h => below_allocd h)
  have KR : Hid (∀ W, Calls Tryz.prog 17 #[.agg (adA six b)] W fun e w' => e = .returned (.bool (rightA six b)) ∧ Below W.heap.size W w') := Lib.hid (fun W => rright_calls' six b hb W)
  have KW : Hid (∀ W, Calls Tryz.prog 69 #[.agg (adA six b)] W fun e w' => e = .returned (.int .i64 (widthA six : Int)) ∧ Below W.heap.size W w') := Lib.hid (fun W => width_calls six b hb W)
  have KZ : Hid (rightA six b = true → 0 ≤ n → n ≤ (widthA six : Int) → ∀ W, Calls Tryz.prog 110 #[.agg (adA six b), .int .i64 n] W fun e w' => e = .returned (.bool (decide (cutL b n.toNat = b))) ∧ Below W.heap.size W w') := Lib.hid (fun hr h0 h1 W => by
    have h := zero_calls six b hb hr n.toNat (by omega) W
    rw [show ((n.toNat : Nat) : Int) = n by omega] at h
    exact h)
  have hsz := ptA_size six b n hb
  have hsz2 := adA_size six b hb
  have hl0 := (HLD.out _ (Below.refl _ _)).1
  show Calls Tryz.prog 59 #[.agg (ptA six b n)] w fun e w' => e = .returned (.bool (rightC six b n)) ∧ Below w.heap.size w w'
  unfold rightC
  generalize adA six b = ca at *
  generalize ptA six b n = pa at *
  generalize decide (cutL b n.toNat = b) = z at *
  generalize rightA six b = r at *
  have hW0 : (0 : Int) ≤ (widthA six : Int) := by omega
  generalize (widthA six : Int) = WD at *
  cases r with
  | false =>
    clear KZ
    rw [Bool.false_and]
    go_enter Tryz.func59, Tryz.ntmps59
    go_upto_region 1 with (fail)
    obtain ⟨W0, hW0⟩ : ∃ W0, W0 = w.alloc (.cells pa 74) := ⟨_, rfl⟩
    rw [← hW0] at HLD HBD hl0 ⊢
    clear hW0
    refine wp_region_held_drew (S := (fun W : World => (loadCells ⟨w.heap.size, 0, none⟩ 17).run Tryz.prog W = .ok ca W ∧ (loadCells ⟨w.heap.size, 0, none⟩ 18).run Tryz.prog W = .ok pa W ∧ W.cell? ⟨w.heap.size, 17, none⟩ = some (.int .i64 n))) (by kernel_rfl) ?_ (fun hHeld => ?_)
    · (first | exact HLD.out _ (below_own_drew _) | exact HLD.out _ HB5.out | exact HLD.out _ HB4.out | exact HLD.out _ HB3.out)
    refine Gw.gw_take (i := 0) (v := ?v1) (d := (some 3)) rfl rfl (by kernel_rfl) (by kernel_rfl) (by kernel_rfl) (fun _ _ _ h => h) (Or.inl ⟨by rfl, ?hy1⟩) hHeld ?rest1
    case hy1 => (intro w hSw; (try dsimp only at hSw); go_simp; (try with_reducible rfl))
    try simp only [Act.put, List.setIfInBounds_toArray, List.set_cons_zero, List.set_cons_succ]
    refine Gw.gw_take (i := 1) (v := ?v2) (d := (some 4)) rfl rfl (by kernel_rfl) (by kernel_rfl) (by kernel_rfl) (fun _ _ _ h => h) (Or.inl ⟨by rfl, ?hy2⟩) hHeld ?rest2
    case hy2 => (intro w hSw; (try dsimp only at hSw); go_simp; (try with_reducible rfl))
    try simp only [Act.put, List.setIfInBounds_toArray, List.set_cons_zero, List.set_cons_succ]
    refine wpAnyH_ready (rs := [2]) (by kernel_rfl) (by simp) ?_
    refine AllReadyH.cons rfl (fun K hK => ?_) AllReadyH.nil
    go_simp
    (go_at_call 17; ((with_reducible refine (KR.out _).mono ?_); rintro e w3 ⟨rfl, hb3⟩; have HB3 := Lib.hid (below_drewd hb3); clear hb3))
    refine hK.out _ _ ?_ (fun hHeld => ?_)
    · (first | exact HLD.out _ (below_own_drew _) | exact HLD.out _ HB5.out | exact HLD.out _ HB4.out | exact HLD.out _ HB3.out)
    clear hK K
    try simp only [Act.put, List.setIfInBounds_toArray, List.set_cons_zero, List.set_cons_succ]
    refine Gw.gw_take (i := 3) (v := ?v3) (d := (some 6)) rfl rfl (by kernel_rfl) (by kernel_rfl) (by kernel_rfl) (fun _ _ _ h => h) (Or.inl ⟨by rfl, ?hy3⟩) hHeld ?rest3
    case hy3 => (intro w hSw; (try dsimp only at hSw); go_simp; (try with_reducible rfl))
    try simp only [Act.put, List.setIfInBounds_toArray, List.set_cons_zero, List.set_cons_succ]
    refine Gw.gw_take (i := 4) (v := undef) (d := (some 7)) rfl rfl (by kernel_rfl) (by kernel_rfl) (by kernel_rfl) (fun _ _ _ h => h) (Or.inr ⟨by rfl, rfl⟩) hHeld ?_
    try simp only [Act.put, List.setIfInBounds_toArray, List.set_cons_zero, List.set_cons_succ]
    refine Gw.gw_take (i := 5) (v := undef) (d := (some 8)) rfl rfl (by kernel_rfl) (by kernel_rfl) (by kernel_rfl) (fun _ _ _ h => h) (Or.inr ⟨by rfl, rfl⟩) hHeld ?_
    try simp only [Act.put, List.setIfInBounds_toArray, List.set_cons_zero, List.set_cons_succ]
    refine Gw.gw_take (i := 6) (v := undef) (d := (some 9)) rfl rfl (by kernel_rfl) (by kernel_rfl) (by kernel_rfl) (fun _ _ _ h => h) (Or.inr ⟨by rfl, rfl⟩) hHeld ?_
    try simp only [Act.put, List.setIfInBounds_toArray, List.set_cons_zero, List.set_cons_succ]
    refine Gw.gw_take (i := 7) (v := ?v4) (d := (some 10)) rfl rfl (by kernel_rfl) (by kernel_rfl) (by kernel_rfl) (fun _ _ _ h => h) (Or.inl ⟨by rfl, ?hy4⟩) hHeld ?rest4
    case hy4 => (intro w hSw; (try dsimp only at hSw); go_simp; (try with_reducible rfl))
    try simp only [Act.put, List.setIfInBounds_toArray, List.set_cons_zero, List.set_cons_succ]
    refine Gw.gw_take (i := 8) (v := ?v5) (d := (some 11)) rfl rfl (by kernel_rfl) (by kernel_rfl) (by kernel_rfl) (fun _ _ _ h => h) (Or.inl ⟨by rfl, ?hy5⟩) hHeld ?rest5
    case hy5 => (intro w hSw; (try dsimp only at hSw); go_simp; (try with_reducible rfl))
    try simp only [Act.put, List.setIfInBounds_toArray, List.set_cons_zero, List.set_cons_succ]
    refine Gw.gw_take (i := 9) (v := undef) (d := (some 12)) rfl rfl (by kernel_rfl) (by kernel_rfl) (by kernel_rfl) (fun _ _ _ h => h) (Or.inr ⟨by rfl, rfl⟩) hHeld ?_
    try simp only [Act.put, List.setIfInBounds_toArray, List.set_cons_zero, List.set_cons_succ]
    refine Gw.gw_take (i := 10) (v := undef) (d := (some 13)) rfl rfl (by kernel_rfl) (by kernel_rfl) (by kernel_rfl) (fun _ _ _ h => h) (Or.inr ⟨by rfl, rfl⟩) hHeld ?_
    try simp only [Act.put, List.setIfInBounds_toArray, List.set_cons_zero, List.set_cons_succ]
    refine Gw.gw_take (i := 11) (v := undef) (d := (some 14)) rfl rfl (by kernel_rfl) (by kernel_rfl) (by kernel_rfl) (fun _ _ _ h => h) (Or.inr ⟨by rfl, rfl⟩) hHeld ?_
    try simp only [Act.put, List.setIfInBounds_toArray, List.set_cons_zero, List.set_cons_succ]
    refine Gw.gw_take (i := 12) (v := undef) (d := (some 15)) rfl rfl (by kernel_rfl) (by kernel_rfl) (by kernel_rfl) (fun _ _ _ h => h) (Or.inr ⟨by rfl, rfl⟩) hHeld ?_
    try simp only [Act.put, List.setIfInBounds_toArray, List.set_cons_zero, List.set_cons_succ]
    refine Gw.gw_take (i := 13) (v := undef) (d := (some 16)) rfl rfl (by kernel_rfl) (by kernel_rfl) (by kernel_rfl) (fun _ _ _ h => h) (Or.inr ⟨by rfl, rfl⟩) hHeld ?_
    try simp only [Act.put, List.setIfInBounds_toArray, List.set_cons_zero, List.set_cons_succ]
    refine Gw.gw_take (i := 14) (v := undef) (d := (some 17)) rfl rfl (by kernel_rfl) (by kernel_rfl) (by kernel_rfl) (fun _ _ _ h => h) (Or.inr ⟨by rfl, rfl⟩) hHeld ?_
    try simp only [Act.put, List.setIfInBounds_toArray, List.set_cons_zero, List.set_cons_succ]
    refine Gw.gw_take (i := 15) (v := ?v6) (d := (some 18)) rfl rfl (by kernel_rfl) (by kernel_rfl) (by kernel_rfl) (fun _ _ _ h => h) (Or.inl ⟨by rfl, ?hy6⟩) hHeld ?rest6
    case hy6 => (intro w hSw; (try dsimp only at hSw); go_simp; (try with_reducible rfl))
    try simp only [Act.put, List.setIfInBounds_toArray, List.set_cons_zero, List.set_cons_succ]
    refine Gw.gw_take (i := 16) (v := ?v7) (d := (some 19)) rfl rfl (by kernel_rfl) (by kernel_rfl) (by kernel_rfl) (fun _ _ _ h => h) (Or.inl ⟨by rfl, ?hy7⟩) hHeld ?rest7
    case hy7 => (intro w hSw; (try dsimp only at hSw); go_simp; (try with_reducible rfl))
    try simp only [Act.put, List.setIfInBounds_toArray, List.set_cons_zero, List.set_cons_succ]
    refine Gw.gw_take (i := 17) (v := undef) (d := (some 20)) rfl rfl (by kernel_rfl) (by kernel_rfl) (by kernel_rfl) (fun _ _ _ h => h) (Or.inr ⟨by rfl, rfl⟩) hHeld ?_
    try simp only [Act.put, List.setIfInBounds_toArray, List.set_cons_zero, List.set_cons_succ]
    refine Gw.gw_take (i := 18) (v := undef) (d := (some 21)) rfl rfl (by kernel_rfl) (by kernel_rfl) (by kernel_rfl) (fun _ _ _ h => h) (Or.inr ⟨by rfl, rfl⟩) hHeld ?_
    try simp only [Act.put, List.setIfInBounds_toArray, List.set_cons_zero, List.set_cons_succ]
    refine Gw.gw_take (i := 19) (v := undef) (d := (some 22)) rfl rfl (by kernel_rfl) (by kernel_rfl) (by kernel_rfl) (fun _ _ _ h => h) (Or.inr ⟨by rfl, rfl⟩) hHeld ?_
    try simp only [Act.put, List.setIfInBounds_toArray, List.set_cons_zero, List.set_cons_succ]
    refine Gw.gw_take (i := 20) (v := undef) (d := (some 23)) rfl rfl (by kernel_rfl) (by kernel_rfl) (by kernel_rfl) (fun _ _ _ h => h) (Or.inr ⟨by rfl, rfl⟩) hHeld ?_
    try simp only [Act.put, List.setIfInBounds_toArray, List.set_cons_zero, List.set_cons_succ]
    refine Gw.gw_take (i := 21) (v := undef) (d := (some 24)) rfl rfl (by kernel_rfl) (by kernel_rfl) (by kernel_rfl) (fun _ _ _ h => h) (Or.inr ⟨by rfl, rfl⟩) hHeld ?_
    try simp only [Act.put, List.setIfInBounds_toArray, List.set_cons_zero, List.set_cons_succ]
    refine Gw.gw_take (i := 22) (v := ?v8) (d := (some 25)) rfl rfl (by kernel_rfl) (by kernel_rfl) (by kernel_rfl) (fun _ _ _ h => h) (Or.inl ⟨by rfl, ?hy8⟩) hHeld ?rest8
    case hy8 => (intro w hSw; (try dsimp only at hSw); go_simp; (try with_reducible rfl))
    try simp only [Act.put, List.setIfInBounds_toArray, List.set_cons_zero, List.set_cons_succ]
    refine Gw.gw_take (i := 23) (v := ?v9) (d := (some 2)) rfl rfl (by kernel_rfl) (by kernel_rfl) (by kernel_rfl) (fun _ _ _ h => h) (Or.inl ⟨by rfl, ?hy9⟩) hHeld ?rest9
    case hy9 => (intro w hSw; (try dsimp only at hSw); go_simp; (try with_reducible rfl))
    try simp only [Act.put, List.setIfInBounds_toArray, List.set_cons_zero, List.set_cons_succ]
    refine wpAnyH_done (by kernel_rfl) ?_ _
    all_goals go_wp2
    all_goals go_ret
    all_goals exact ⟨by (first | rfl | simp), HBD.out _ HB3.out⟩
  | true =>
    rw [Bool.true_and]
    by_cases h0 : 0 ≤ n
    · have d0 : decide (0 ≤ n) = true := decide_eq_true h0
      rw [d0, Bool.true_and]
      by_cases h1 : n ≤ WD
      · have KZ1 := Lib.hid (KZ.out rfl h0 h1)
        have d1 : decide (n ≤ WD) = true := decide_eq_true h1
        rw [d1, Bool.true_and]
        clear KZ
        go_enter Tryz.func59, Tryz.ntmps59
        go_upto_region 1 with (fail)
        obtain ⟨W0, hW0⟩ : ∃ W0, W0 = w.alloc (.cells pa 74) := ⟨_, rfl⟩
        rw [← hW0] at HLD HBD hl0 ⊢
        clear hW0
        go_region_held3 (fun W : World => (loadCells ⟨w.heap.size, 0, none⟩ 17).run Tryz.prog W = .ok ca W ∧ (loadCells ⟨w.heap.size, 0, none⟩ 18).run Tryz.prog W = .ok pa W ∧ W.cell? ⟨w.heap.size, 17, none⟩ = some (.int .i64 n)) (first | exact HLD.out _ (Below.refl _ _) | exact HLD.out _ (below_own_drew _) | exact HLD.out _ HB3.out | exact HLD.out _ HB4.out | exact HLD.out _ HB5.out | go_keep) (first
          | (go_at_call 17; ((with_reducible refine (KR.out _).mono ?_); rintro e w3 ⟨rfl, hb3⟩; have HB3 := Lib.hid (below_drewd hb3); clear hb3))
          | (go_at_call 69; ((with_reducible refine (KW.out _).mono ?_); rintro e w4 ⟨rfl, hb4⟩; have HB4 := Lib.hid (HB3.out.trans (hb4.mono HB3.out.size)); clear hb4))
          | (go_at_call 110; ((with_reducible refine (KZ1.out _).mono ?_); rintro e w5 ⟨rfl, hb5⟩; have HB5 := Lib.hid (HB4.out.trans (hb5.mono HB4.out.size)); clear hb5)))
        all_goals go_wp2
        all_goals go_ret
        all_goals exact ⟨by (first | rfl | simp), HBD.out _ HB5.out⟩
      · clear KZ
        have d1 : decide (n ≤ WD) = false := decide_eq_false h1
        rw [d1, Bool.false_and]
        go_enter Tryz.func59, Tryz.ntmps59
        go_upto_region 1 with (fail)
        obtain ⟨W0, hW0⟩ : ∃ W0, W0 = w.alloc (.cells pa 74) := ⟨_, rfl⟩
        rw [← hW0] at HLD HBD hl0 ⊢
        clear hW0
        refine wp_region_held_drew (S := (fun W : World => (loadCells ⟨w.heap.size, 0, none⟩ 17).run Tryz.prog W = .ok ca W ∧ (loadCells ⟨w.heap.size, 0, none⟩ 18).run Tryz.prog W = .ok pa W ∧ W.cell? ⟨w.heap.size, 17, none⟩ = some (.int .i64 n))) (by kernel_rfl) ?_ (fun hHeld => ?_)
        · (first | exact HLD.out _ (below_own_drew _) | exact HLD.out _ HB5.out | exact HLD.out _ HB4.out | exact HLD.out _ HB3.out)
        refine Gw.gw_take (i := 0) (v := ?v10) (d := (some 3)) rfl rfl (by kernel_rfl) (by kernel_rfl) (by kernel_rfl) (fun _ _ _ h => h) (Or.inl ⟨by rfl, ?hy10⟩) hHeld ?rest10
        case hy10 => (intro w hSw; (try dsimp only at hSw); go_simp; (try with_reducible rfl))
        try simp only [Act.put, List.setIfInBounds_toArray, List.set_cons_zero, List.set_cons_succ]
        refine Gw.gw_take (i := 1) (v := ?v11) (d := (some 4)) rfl rfl (by kernel_rfl) (by kernel_rfl) (by kernel_rfl) (fun _ _ _ h => h) (Or.inl ⟨by rfl, ?hy11⟩) hHeld ?rest11
        case hy11 => (intro w hSw; (try dsimp only at hSw); go_simp; (try with_reducible rfl))
        try simp only [Act.put, List.setIfInBounds_toArray, List.set_cons_zero, List.set_cons_succ]
        refine wpAnyH_ready (rs := [2]) (by kernel_rfl) (by simp) ?_
        refine AllReadyH.cons rfl (fun K hK => ?_) AllReadyH.nil
        go_simp
        (go_at_call 17; ((with_reducible refine (KR.out _).mono ?_); rintro e w3 ⟨rfl, hb3⟩; have HB3 := Lib.hid (below_drewd hb3); clear hb3))
        refine hK.out _ _ ?_ (fun hHeld => ?_)
        · (first | exact HLD.out _ (below_own_drew _) | exact HLD.out _ HB5.out | exact HLD.out _ HB4.out | exact HLD.out _ HB3.out)
        clear hK K
        try simp only [Act.put, List.setIfInBounds_toArray, List.set_cons_zero, List.set_cons_succ]
        refine Gw.gw_take (i := 3) (v := ?v12) (d := (some 6)) rfl rfl (by kernel_rfl) (by kernel_rfl) (by kernel_rfl) (fun _ _ _ h => h) (Or.inl ⟨by rfl, ?hy12⟩) hHeld ?rest12
        case hy12 => (intro w hSw; (try dsimp only at hSw); go_simp; (try with_reducible rfl))
        try simp only [Act.put, List.setIfInBounds_toArray, List.set_cons_zero, List.set_cons_succ]
        refine Gw.gw_take (i := 4) (v := ?v13) (d := (some 7)) rfl rfl (by kernel_rfl) (by kernel_rfl) (by kernel_rfl) (fun _ _ _ h => h) (Or.inl ⟨by rfl, ?hy13⟩) hHeld ?rest13
        case hy13 => (intro w hSw; (try dsimp only at hSw); go_simp; (try with_reducible rfl))
        try simp only [Act.put, List.setIfInBounds_toArray, List.set_cons_zero, List.set_cons_succ]
        refine Gw.gw_take (i := 5) (v := ?v14) (d := (some 8)) rfl rfl (by kernel_rfl) (by kernel_rfl) (by kernel_rfl) (fun _ _ _ h => h) (Or.inl ⟨by rfl, ?hy14⟩) hHeld ?rest14
        case hy14 => (intro w hSw; (try dsimp only at hSw); go_simp; (try with_reducible rfl))
        try simp only [Act.put, List.setIfInBounds_toArray, List.set_cons_zero, List.set_cons_succ]
        refine Gw.gw_take (i := 6) (v := ?v15) (d := (some 9)) rfl rfl (by kernel_rfl) (by kernel_rfl) (by kernel_rfl) (fun _ _ _ h => h) (Or.inl ⟨by rfl, ?hy15⟩) hHeld ?rest15
        case hy15 => (intro w hSw; (try dsimp only at hSw); go_simp; (try with_reducible rfl))
        try simp only [Act.put, List.setIfInBounds_toArray, List.set_cons_zero, List.set_cons_succ]
        refine Gw.gw_take (i := 7) (v := ?v16) (d := (some 10)) rfl rfl (by kernel_rfl) (by kernel_rfl) (by kernel_rfl) (fun _ _ _ h => h) (Or.inl ⟨by rfl, ?hy16⟩) hHeld ?rest16
        case hy16 => (intro w hSw; (try dsimp only at hSw); go_simp; (try with_reducible rfl))
        try simp only [Act.put, List.setIfInBounds_toArray, List.set_cons_zero, List.set_cons_succ]
        refine Gw.gw_take (i := 8) (v := ?v17) (d := (some 11)) rfl rfl (by kernel_rfl) (by kernel_rfl) (by kernel_rfl) (fun _ _ _ h => h) (Or.inl ⟨by rfl, ?hy17⟩) hHeld ?rest17
        case hy17 => (intro w hSw; (try dsimp only at hSw); go_simp; (try with_reducible rfl))
        try simp only [Act.put, List.setIfInBounds_toArray, List.set_cons_zero, List.set_cons_succ]
        refine Gw.gw_take (i := 9) (v := ?v18) (d := (some 12)) rfl rfl (by kernel_rfl) (by kernel_rfl) (by kernel_rfl) (fun _ _ _ h => h) (Or.inl ⟨by rfl, ?hy18⟩) hHeld ?rest18
        case hy18 => (intro w hSw; (try dsimp only at hSw); go_simp; (try with_reducible rfl))
        try simp only [Act.put, List.setIfInBounds_toArray, List.set_cons_zero, List.set_cons_succ]
        refine Gw.gw_take (i := 10) (v := ?v19) (d := (some 13)) rfl rfl (by kernel_rfl) (by kernel_rfl) (by kernel_rfl) (fun _ _ _ h => h) (Or.inl ⟨by rfl, ?hy19⟩) hHeld ?rest19
        case hy19 => (intro w hSw; (try dsimp only at hSw); go_simp; (try with_reducible rfl))
        try simp only [Act.put, List.setIfInBounds_toArray, List.set_cons_zero, List.set_cons_succ]
        refine Gw.gw_take (i := 11) (v := ?v20) (d := (some 14)) rfl rfl (by kernel_rfl) (by kernel_rfl) (by kernel_rfl) (fun _ _ _ h => h) (Or.inl ⟨by rfl, ?hy20⟩) hHeld ?rest20
        case hy20 => (intro w hSw; (try dsimp only at hSw); go_simp; (try with_reducible rfl))
        try simp only [Act.put, List.setIfInBounds_toArray, List.set_cons_zero, List.set_cons_succ]
        refine Gw.gw_take (i := 12) (v := ?v21) (d := (some 15)) rfl rfl (by kernel_rfl) (by kernel_rfl) (by kernel_rfl) (fun _ _ _ h => h) (Or.inl ⟨by rfl, ?hy21⟩) hHeld ?rest21
        case hy21 => (intro w hSw; (try dsimp only at hSw); go_simp; (try with_reducible rfl))
        try simp only [Act.put, List.setIfInBounds_toArray, List.set_cons_zero, List.set_cons_succ]
        refine wpAnyH_ready (rs := [13]) (by kernel_rfl) (by simp) ?_
        refine AllReadyH.cons rfl (fun K hK => ?_) AllReadyH.nil
        go_simp
        (go_at_call 69; ((with_reducible refine (KW.out _).mono ?_); rintro e w4 ⟨rfl, hb4⟩; have HB4 := Lib.hid (HB3.out.trans (hb4.mono HB3.out.size)); clear hb4))
        refine hK.out _ _ ?_ (fun hHeld => ?_)
        · (first | exact HLD.out _ (below_own_drew _) | exact HLD.out _ HB5.out | exact HLD.out _ HB4.out | exact HLD.out _ HB3.out)
        clear hK K
        try simp only [Act.put, List.setIfInBounds_toArray, List.set_cons_zero, List.set_cons_succ]
        refine Gw.gw_take (i := 14) (v := ?v22) (d := (some 17)) rfl rfl (by kernel_rfl) (by kernel_rfl) (by kernel_rfl) (fun _ _ _ h => h) (Or.inl ⟨by rfl, ?hy22⟩) hHeld ?rest22
        case hy22 => (intro w hSw; (try dsimp only at hSw); go_simp; (try with_reducible rfl))
        try simp only [Act.put, List.setIfInBounds_toArray, List.set_cons_zero, List.set_cons_succ]
        refine Gw.gw_take (i := 15) (v := ?v23) (d := (some 18)) rfl rfl (by kernel_rfl) (by kernel_rfl) (by kernel_rfl) (fun _ _ _ h => h) (Or.inl ⟨by rfl, ?hy23⟩) hHeld ?rest23
        case hy23 => (intro w hSw; (try dsimp only at hSw); go_simp; (try with_reducible rfl))
        try simp only [Act.put, List.setIfInBounds_toArray, List.set_cons_zero, List.set_cons_succ]
        refine Gw.gw_take (i := 16) (v := ?v24) (d := (some 19)) rfl rfl (by kernel_rfl) (by kernel_rfl) (by kernel_rfl) (fun _ _ _ h => h) (Or.inl ⟨by rfl, ?hy24⟩) hHeld ?rest24
        case hy24 => (intro w hSw; (try dsimp only at hSw); go_simp; (try with_reducible rfl))
        try simp only [Act.put, List.setIfInBounds_toArray, List.set_cons_zero, List.set_cons_succ]
        refine Gw.gw_take (i := 17) (v := undef) (d := (some 20)) rfl rfl (by kernel_rfl) (by kernel_rfl) (by kernel_rfl) (fun _ _ _ h => h) (Or.inr ⟨by rfl, rfl⟩) hHeld ?_
        try simp only [Act.put, List.setIfInBounds_toArray, List.set_cons_zero, List.set_cons_succ]
        refine Gw.gw_take (i := 18) (v := undef) (d := (some 21)) rfl rfl (by kernel_rfl) (by kernel_rfl) (by kernel_rfl) (fun _ _ _ h => h) (Or.inr ⟨by rfl, rfl⟩) hHeld ?_
        try simp only [Act.put, List.setIfInBounds_toArray, List.set_cons_zero, List.set_cons_succ]
        refine Gw.gw_take (i := 19) (v := undef) (d := (some 22)) rfl rfl (by kernel_rfl) (by kernel_rfl) (by kernel_rfl) (fun _ _ _ h => h) (Or.inr ⟨by rfl, rfl⟩) hHeld ?_
        try simp only [Act.put, List.setIfInBounds_toArray, List.set_cons_zero, List.set_cons_succ]
        refine Gw.gw_take (i := 20) (v := undef) (d := (some 23)) rfl rfl (by kernel_rfl) (by kernel_rfl) (by kernel_rfl) (fun _ _ _ h => h) (Or.inr ⟨by rfl, rfl⟩) hHeld ?_
        try simp only [Act.put, List.setIfInBounds_toArray, List.set_cons_zero, List.set_cons_succ]
        refine Gw.gw_take (i := 21) (v := undef) (d := (some 24)) rfl rfl (by kernel_rfl) (by kernel_rfl) (by kernel_rfl) (fun _ _ _ h => h) (Or.inr ⟨by rfl, rfl⟩) hHeld ?_
        try simp only [Act.put, List.setIfInBounds_toArray, List.set_cons_zero, List.set_cons_succ]
        refine Gw.gw_take (i := 22) (v := ?v25) (d := (some 25)) rfl rfl (by kernel_rfl) (by kernel_rfl) (by kernel_rfl) (fun _ _ _ h => h) (Or.inl ⟨by rfl, ?hy25⟩) hHeld ?rest25
        case hy25 => (intro w hSw; (try dsimp only at hSw); go_simp; (try with_reducible rfl))
        try simp only [Act.put, List.setIfInBounds_toArray, List.set_cons_zero, List.set_cons_succ]
        refine Gw.gw_take (i := 23) (v := ?v26) (d := (some 2)) rfl rfl (by kernel_rfl) (by kernel_rfl) (by kernel_rfl) (fun _ _ _ h => h) (Or.inl ⟨by rfl, ?hy26⟩) hHeld ?rest26
        case hy26 => (intro w hSw; (try dsimp only at hSw); go_simp; (try with_reducible rfl))
        try simp only [Act.put, List.setIfInBounds_toArray, List.set_cons_zero, List.set_cons_succ]
        refine wpAnyH_done (by kernel_rfl) ?_ _
        all_goals go_wp2
        all_goals go_ret
        all_goals exact ⟨by (first | rfl | simp), HBD.out _ HB4.out⟩
    · clear KZ
      have d0 : decide (0 ≤ n) = false := decide_eq_false h0
      rw [d0, Bool.false_and]
      go_enter Tryz.func59, Tryz.ntmps59
      go_upto_region 1 with (fail)
      obtain ⟨W0, hW0⟩ : ∃ W0, W0 = w.alloc (.cells pa 74) := ⟨_, rfl⟩
      rw [← hW0] at HLD HBD hl0 ⊢
      clear hW0
      refine wp_region_held_drew (S := (fun W : World => (loadCells ⟨w.heap.size, 0, none⟩ 17).run Tryz.prog W = .ok ca W ∧ (loadCells ⟨w.heap.size, 0, none⟩ 18).run Tryz.prog W = .ok pa W ∧ W.cell? ⟨w.heap.size, 17, none⟩ = some (.int .i64 n))) (by kernel_rfl) ?_ (fun hHeld => ?_)
      · (first | exact HLD.out _ (below_own_drew _) | exact HLD.out _ HB5.out | exact HLD.out _ HB4.out | exact HLD.out _ HB3.out)
      refine Gw.gw_take (i := 0) (v := ?v27) (d := (some 3)) rfl rfl (by kernel_rfl) (by kernel_rfl) (by kernel_rfl) (fun _ _ _ h => h) (Or.inl ⟨by rfl, ?hy27⟩) hHeld ?rest27
      case hy27 => (intro w hSw; (try dsimp only at hSw); go_simp; (try with_reducible rfl))
      try simp only [Act.put, List.setIfInBounds_toArray, List.set_cons_zero, List.set_cons_succ]
      refine Gw.gw_take (i := 1) (v := ?v28) (d := (some 4)) rfl rfl (by kernel_rfl) (by kernel_rfl) (by kernel_rfl) (fun _ _ _ h => h) (Or.inl ⟨by rfl, ?hy28⟩) hHeld ?rest28
      case hy28 => (intro w hSw; (try dsimp only at hSw); go_simp; (try with_reducible rfl))
      try simp only [Act.put, List.setIfInBounds_toArray, List.set_cons_zero, List.set_cons_succ]
      refine wpAnyH_ready (rs := [2]) (by kernel_rfl) (by simp) ?_
      refine AllReadyH.cons rfl (fun K hK => ?_) AllReadyH.nil
      go_simp
      (go_at_call 17; ((with_reducible refine (KR.out _).mono ?_); rintro e w3 ⟨rfl, hb3⟩; have HB3 := Lib.hid (below_drewd hb3); clear hb3))
      refine hK.out _ _ ?_ (fun hHeld => ?_)
      · (first | exact HLD.out _ (below_own_drew _) | exact HLD.out _ HB5.out | exact HLD.out _ HB4.out | exact HLD.out _ HB3.out)
      clear hK K
      try simp only [Act.put, List.setIfInBounds_toArray, List.set_cons_zero, List.set_cons_succ]
      refine Gw.gw_take (i := 3) (v := ?v29) (d := (some 6)) rfl rfl (by kernel_rfl) (by kernel_rfl) (by kernel_rfl) (fun _ _ _ h => h) (Or.inl ⟨by rfl, ?hy29⟩) hHeld ?rest29
      case hy29 => (intro w hSw; (try dsimp only at hSw); go_simp; (try with_reducible rfl))
      try simp only [Act.put, List.setIfInBounds_toArray, List.set_cons_zero, List.set_cons_succ]
      refine Gw.gw_take (i := 4) (v := ?v30) (d := (some 7)) rfl rfl (by kernel_rfl) (by kernel_rfl) (by kernel_rfl) (fun _ _ _ h => h) (Or.inl ⟨by rfl, ?hy30⟩) hHeld ?rest30
      case hy30 => (intro w hSw; (try dsimp only at hSw); go_simp; (try with_reducible rfl))
      try simp only [Act.put, List.setIfInBounds_toArray, List.set_cons_zero, List.set_cons_succ]
      refine Gw.gw_take (i := 5) (v := ?v31) (d := (some 8)) rfl rfl (by kernel_rfl) (by kernel_rfl) (by kernel_rfl) (fun _ _ _ h => h) (Or.inl ⟨by rfl, ?hy31⟩) hHeld ?rest31
      case hy31 => (intro w hSw; (try dsimp only at hSw); go_simp; (try with_reducible rfl))
      try simp only [Act.put, List.setIfInBounds_toArray, List.set_cons_zero, List.set_cons_succ]
      refine Gw.gw_take (i := 6) (v := ?v32) (d := (some 9)) rfl rfl (by kernel_rfl) (by kernel_rfl) (by kernel_rfl) (fun _ _ _ h => h) (Or.inl ⟨by rfl, ?hy32⟩) hHeld ?rest32
      case hy32 => (intro w hSw; (try dsimp only at hSw); go_simp; (try with_reducible rfl))
      try simp only [Act.put, List.setIfInBounds_toArray, List.set_cons_zero, List.set_cons_succ]
      refine Gw.gw_take (i := 7) (v := ?v33) (d := (some 10)) rfl rfl (by kernel_rfl) (by kernel_rfl) (by kernel_rfl) (fun _ _ _ h => h) (Or.inl ⟨by rfl, ?hy33⟩) hHeld ?rest33
      case hy33 => (intro w hSw; (try dsimp only at hSw); go_simp; (try with_reducible rfl))
      try simp only [Act.put, List.setIfInBounds_toArray, List.set_cons_zero, List.set_cons_succ]
      refine Gw.gw_take (i := 8) (v := ?v34) (d := (some 11)) rfl rfl (by kernel_rfl) (by kernel_rfl) (by kernel_rfl) (fun _ _ _ h => h) (Or.inl ⟨by rfl, ?hy34⟩) hHeld ?rest34
      case hy34 => (intro w hSw; (try dsimp only at hSw); go_simp; (try with_reducible rfl))
      try simp only [Act.put, List.setIfInBounds_toArray, List.set_cons_zero, List.set_cons_succ]
      refine Gw.gw_take (i := 9) (v := undef) (d := (some 12)) rfl rfl (by kernel_rfl) (by kernel_rfl) (by kernel_rfl) (fun _ _ _ h => h) (Or.inr ⟨by rfl, rfl⟩) hHeld ?_
      try simp only [Act.put, List.setIfInBounds_toArray, List.set_cons_zero, List.set_cons_succ]
      refine Gw.gw_take (i := 10) (v := undef) (d := (some 13)) rfl rfl (by kernel_rfl) (by kernel_rfl) (by kernel_rfl) (fun _ _ _ h => h) (Or.inr ⟨by rfl, rfl⟩) hHeld ?_
      try simp only [Act.put, List.setIfInBounds_toArray, List.set_cons_zero, List.set_cons_succ]
      refine Gw.gw_take (i := 11) (v := undef) (d := (some 14)) rfl rfl (by kernel_rfl) (by kernel_rfl) (by kernel_rfl) (fun _ _ _ h => h) (Or.inr ⟨by rfl, rfl⟩) hHeld ?_
      try simp only [Act.put, List.setIfInBounds_toArray, List.set_cons_zero, List.set_cons_succ]
      refine Gw.gw_take (i := 12) (v := undef) (d := (some 15)) rfl rfl (by kernel_rfl) (by kernel_rfl) (by kernel_rfl) (fun _ _ _ h => h) (Or.inr ⟨by rfl, rfl⟩) hHeld ?_
      try simp only [Act.put, List.setIfInBounds_toArray, List.set_cons_zero, List.set_cons_succ]
      refine Gw.gw_take (i := 13) (v := undef) (d := (some 16)) rfl rfl (by kernel_rfl) (by kernel_rfl) (by kernel_rfl) (fun _ _ _ h => h) (Or.inr ⟨by rfl, rfl⟩) hHeld ?_
      try simp only [Act.put, List.setIfInBounds_toArray, List.set_cons_zero, List.set_cons_succ]
      refine Gw.gw_take (i := 14) (v := undef) (d := (some 17)) rfl rfl (by kernel_rfl) (by kernel_rfl) (by kernel_rfl) (fun _ _ _ h => h) (Or.inr ⟨by rfl, rfl⟩) hHeld ?_
      try simp only [Act.put, List.setIfInBounds_toArray, List.set_cons_zero, List.set_cons_succ]
      refine Gw.gw_take (i := 15) (v := ?v35) (d := (some 18)) rfl rfl (by kernel_rfl) (by kernel_rfl) (by kernel_rfl) (fun _ _ _ h => h) (Or.inl ⟨by rfl, ?hy35⟩) hHeld ?rest35
      case hy35 => (intro w hSw; (try dsimp only at hSw); go_simp; (try with_reducible rfl))
      try simp only [Act.put, List.setIfInBounds_toArray, List.set_cons_zero, List.set_cons_succ]
      refine Gw.gw_take (i := 16) (v := ?v36) (d := (some 19)) rfl rfl (by kernel_rfl) (by kernel_rfl) (by kernel_rfl) (fun _ _ _ h => h) (Or.inl ⟨by rfl, ?hy36⟩) hHeld ?rest36
      case hy36 => (intro w hSw; (try dsimp only at hSw); go_simp; (try with_reducible rfl))
      try simp only [Act.put, List.setIfInBounds_toArray, List.set_cons_zero, List.set_cons_succ]
      refine Gw.gw_take (i := 17) (v := undef) (d := (some 20)) rfl rfl (by kernel_rfl) (by kernel_rfl) (by kernel_rfl) (fun _ _ _ h => h) (Or.inr ⟨by rfl, rfl⟩) hHeld ?_
      try simp only [Act.put, List.setIfInBounds_toArray, List.set_cons_zero, List.set_cons_succ]
      refine Gw.gw_take (i := 18) (v := undef) (d := (some 21)) rfl rfl (by kernel_rfl) (by kernel_rfl) (by kernel_rfl) (fun _ _ _ h => h) (Or.inr ⟨by rfl, rfl⟩) hHeld ?_
      try simp only [Act.put, List.setIfInBounds_toArray, List.set_cons_zero, List.set_cons_succ]
      refine Gw.gw_take (i := 19) (v := undef) (d := (some 22)) rfl rfl (by kernel_rfl) (by kernel_rfl) (by kernel_rfl) (fun _ _ _ h => h) (Or.inr ⟨by rfl, rfl⟩) hHeld ?_
      try simp only [Act.put, List.setIfInBounds_toArray, List.set_cons_zero, List.set_cons_succ]
      refine Gw.gw_take (i := 20) (v := undef) (d := (some 23)) rfl rfl (by kernel_rfl) (by kernel_rfl) (by kernel_rfl) (fun _ _ _ h => h) (Or.inr ⟨by rfl, rfl⟩) hHeld ?_
      try simp only [Act.put, List.setIfInBounds_toArray, List.set_cons_zero, List.set_cons_succ]
      refine Gw.gw_take (i := 21) (v := undef) (d := (some 24)) rfl rfl (by kernel_rfl) (by kernel_rfl) (by kernel_rfl) (fun _ _ _ h => h) (Or.inr ⟨by rfl, rfl⟩) hHeld ?_
      try simp only [Act.put, List.setIfInBounds_toArray, List.set_cons_zero, List.set_cons_succ]
      refine Gw.gw_take (i := 22) (v := ?v37) (d := (some 25)) rfl rfl (by kernel_rfl) (by kernel_rfl) (by kernel_rfl) (fun _ _ _ h => h) (Or.inl ⟨by rfl, ?hy37⟩) hHeld ?rest37
      case hy37 => (intro w hSw; (try dsimp only at hSw); go_simp; (try with_reducible rfl))
      try simp only [Act.put, List.setIfInBounds_toArray, List.set_cons_zero, List.set_cons_succ]
      refine Gw.gw_take (i := 23) (v := ?v38) (d := (some 2)) rfl rfl (by kernel_rfl) (by kernel_rfl) (by kernel_rfl) (fun _ _ _ h => h) (Or.inl ⟨by rfl, ?hy38⟩) hHeld ?rest38
      case hy38 => (intro w hSw; (try dsimp only at hSw); go_simp; (try with_reducible rfl))
      try simp only [Act.put, List.setIfInBounds_toArray, List.set_cons_zero, List.set_cons_succ]
      refine wpAnyH_done (by kernel_rfl) ?_ _
      all_goals go_wp2
      all_goals go_ret
      all_goals exact ⟨by (first | rfl | simp), HBD.out _ HB3.out⟩
end Go.Proofs.YtmcgkknpkocgoaaGreatDoor.Ad

/- cidr.cut. -/
namespace Go.Proofs.YtmcgkknpkocgoaaGreatDoor.Ad
open Go.RowKit Go.Proofs.YtmcgkknpkocgoaaGreatDoor.Mem Go.Proofs.YtmcgkknpkocgoaaGreatDoor.Num Go.Proofs.YtmcgkknpkocgoaaGreatDoor.Err Go.Proofs.YtmcgkknpkocgoaaGreatDoor.AdP
open Go.Proofs.YtmcgkknpkocgoaaGreatDoor.Head (pad pad_len adCells_one adCells_len infoAd splice_ad)
open Go.Proofs.YtmcgkknpkocgoaaGreatDoor.Addr (adV adA adCells adA_size cell_box load_box cell_six ptA ptV pt_loads)
set_option linter.unusedVariables false
set_option linter.unusedSimpArgs false
set_option maxRecDepth 100000
attribute [-go_sem] Builtin.append_ loadCells loadCellsFrom storeCells run_eql_struct
theorem and_keep0 : ∀ (k : Fin 9) (x : Fin 256), bits .and .u8 (x.1 : Int) ((256 - 2 ^ (8 - k.1) : Nat) : Int) = ((keepB k.1 (UInt8.ofNat x.1)).toNat : Int) := by decide +kernel
theorem and_keep (k : Nat) (hk : k ≤ 8) (x : UInt8) : bits .and .u8 (x.toNat : Int) ((256 - 2 ^ (8 - k) : Nat) : Int) = ((keepB k x).toNat : Int) := by
  have h := and_keep0 ⟨k, by omega⟩ ⟨x.toNat, x.toNat_lt⟩
  rw [of_nat] at h
  exact h
/-- The first bytes cut, the others as they were. -/
def mixL (b : List UInt8) (n i : Nat) : List UInt8 := (cutL b n).take i ++ b.drop i
theorem mixL_len (b : List UInt8) (n i : Nat) (hb : b.length = 16) (hi : i ≤ 16) : (mixL b n i).length = 16 := by
  unfold mixL
  simp [cutL_len]; omega
theorem mixL_zero (b : List UInt8) (n : Nat) : mixL b n 0 = b := by simp [mixL]
theorem mixL_end (b : List UInt8) (n : Nat) (hb : b.length = 16) : mixL b n 16 = cutL b n := by
  unfold mixL
  rw [List.take_of_length_le (by rw [cutL_len]; omega), List.drop_of_length_le (by omega), List.append_nil]
theorem mixL_get (b : List UInt8) (n i j : Nat) (hb : b.length = 16) (hi : i ≤ 16) : (mixL b n i)[j]? = if j < i then (cutL b n)[j]? else b[j]? := by
  unfold mixL
  have hl : ((cutL b n).take i).length = i := by rw [List.length_take, cutL_len]; omega
  by_cases h : j < i
  · rw [if_pos h, List.getElem?_append_left (by omega), List.getElem?_take, if_pos h]
  · rw [if_neg h, List.getElem?_append_right (by omega), hl, List.getElem?_drop]
    congr 1; omega
theorem mixL_next (b : List UInt8) (n i : Nat) (hb : b.length = 16) (hi : i < 16) : mixL b n (i + 1) = (mixL b n i).set i (keepB (keepN n i) (b[i]'(by omega))) := by
  apply List.ext_getElem?
  intro j
  rw [mixL_get b n (i + 1) j hb (by omega), List.getElem?_set, mixL_len b n i hb (by omega), mixL_get b n i j hb (by omega)]
  by_cases h : i = j
  · subst h
    rw [if_pos (by omega), if_pos rfl, if_pos hi]
    unfold cutL
    rw [List.getElem?_mapIdx, List.getElem?_eq_getElem (by omega)]
    rfl
  · rw [if_neg h]
    by_cases hj : j < i
    · rw [if_pos (by omega), if_pos hj]
    · rw [if_neg (by omega), if_neg hj]
theorem mixL_set (six : Bool) (b : List UInt8) (n i : Nat) (hb : b.length = 16) (hi : i < 16) :
    (adCells six (mixL b n i)).set (1 + i) (.int .u8 ((keepB (keepN n i) (b[i]'(by omega))).toNat : Int)) = adCells six (mixL b n (i + 1)) := by
  rw [mixL_next b n i hb hi]
  unfold adCells
  rw [Nat.add_comm 1 i, List.set_cons_succ, List.map_set]
theorem mixL_cell (six : Bool) (b : List UInt8) (n i : Nat) (hb : b.length = 16) (hi : i < 16) : (adCells six (mixL b n i))[1 + i]? = some (.int .u8 ((b[i]'(by omega)).toNat : Int)) := by
  unfold adCells
  rw [Nat.add_comm 1 i, List.getElem?_cons_succ, List.getElem?_map, mixL_get b n i i hb (by omega), if_neg (by omega), List.getElem?_eq_getElem (by omega)]
  rfl
theorem blk_setOther {b c o : Nat} {cs : List Value} {t : TypeId} {w : World} {v : Value} (h : Blk b cs t w) (hne : b ≠ c) : Blk b cs t (w.setCell ⟨c, o, none⟩ v) := by
  unfold Blk at h ⊢
  unfold World.setCell
  simp only [Array.getElem?_modify, h]
  rw [if_neg (fun e => hne e.symm)]
set_option maxHeartbeats 4000000 in
theorem cut3_calls (six : Bool) (b : List UInt8) (hb : b.length = 16) (n : Nat) (hn : n ≤ 128) (w : World) :
    Calls Tryz.prog 109 #[adV six b, .int .i64 (n : Int)] w fun e w' => e = .returned (adV six (cutL b n)) ∧ Below w.heap.size w w' := by
  have HL := Lib.hid hb
  have hsz := adA_size six b hb
  have HK0 : Hid (Blk w.heap.size (adCells six (mixL b n 0)) 24 ((w.alloc (.cells (adA six b) 24)).alloc (.cells zeroCs.toArray 24))) := Lib.hid ((Blk.new w (adCells six (mixL b n 0)) (adA six b) _ _ (by rw [mixL_zero]; rfl) rfl).alloc _)
  have HZ0 : Hid (Blk (w.heap.size + 1) (adCells false zero16) 24 ((w.alloc (.cells (adA six b) 24)).alloc (.cells zeroCs.toArray 24))) := Lib.hid (Blk.new _ (adCells false zero16) zeroCs.toArray _ _ rfl (by simp))
  have HB0 : Hid (Below w.heap.size w ((w.alloc (.cells (adA six b) 24)).alloc (.cells zeroCs.toArray 24))) := Lib.hid (((Below.refl w.heap.size w).alloc (Nat.le_refl _) _).alloc (by simp) _)
  obtain ⟨N, hN⟩ : ∃ N : Int, N = (n : Int) := ⟨_, rfl⟩
  rw [← hN]
  have HN := Lib.hid hN
  have hN0 : 0 ≤ N := by omega
  have hN128 : N ≤ 128 := by omega
  clear hN
  show Calls Tryz.prog 109 #[.agg (adA six b), .int .i64 N] w fun e w' => e = .returned (adV six (cutL b n)) ∧ Below w.heap.size w w'
  generalize adA six b = ca at *
  go_enter Tryz.func109, Tryz.ntmps109
  go_wp2
  generalize (w.alloc (.cells ca 24)).alloc (.cells zeroCs.toArray 24) = W0 at *
  go_loopw [5, 6, 7] (fun av kv iv wr => ∃ (i : Nat) (I : Int), iv = .int .i64 I ∧ Hid (I = (i : Int)) ∧ Hid (i ≤ 16) ∧ Hid (Blk w.heap.size (adCells six (mixL b n i)) 24 wr) ∧ Hid (Blk (w.heap.size + 1) (adCells false zero16) 24 wr) ∧ Hid (Below w.heap.size w wr)) (fun _ _ iv _ => 16 - (intOf iv).toNat)
  case atStart => exact ⟨0, 0, rfl, Lib.hid rfl, Lib.hid (by omega), HK0, HZ0, HB0⟩
  case round =>
    obtain ⟨i, I, rfl, HI, HI16, HK, HZ, HB⟩ := hrel
    have hI0 : (0 : Int) ≤ I := by have := HI.out; omega
    have hI16 : I ≤ 16 := by have := HI.out; have := HI16.out; omega
    by_cases hlt : I < 16
    · have hi16 : i < 16 := by have := HI.out; omega
      have hil : i < b.length := by have := HL.out; omega
      have hIi : I.toNat = i := by have := HI.out; omega
      have hc := (HK.out.drewN 1).cell (1 + i) _ (mixL_cell six b n i HL.out hi16)
      have hf := (HK.out.drewN 1).free (1 + i)
      rw [show (1 + i : Nat) = 1 + I.toNat by rw [hIi]] at hc hf
      change wr.drew.cell? ⟨w.heap.size, 1 + I.toNat, none⟩ = some (.int .u8 ((b[i]'hil).toNat : Int)) at hc
      change wr.drew.frozen? ⟨w.heap.size, 1 + I.toNat, none⟩ = false at hf
      have HI2 := Lib.hid (show I + 1 = ((i + 1 : Nat) : Int) by have := HI.out; omega)
      have H162 : Hid (i + 1 ≤ 16) := Lib.hid (by omega)
      have hx0 : (0 : Int) ≤ ((b[i]'hil).toNat : Int) := by omega
      have hx1 : ((b[i]'hil).toNat : Int) < 256 := by have := (b[i]'hil).toNat_lt; omega
      rcases (show keepN n i = 0 ∨ keepN n i = 1 ∨ keepN n i = 2 ∨ keepN n i = 3 ∨ keepN n i = 4 ∨ keepN n i = 5 ∨ keepN n i = 6 ∨ keepN n i = 7 ∨ keepN n i = 8 by have := keepN_le n i; omega) with hkn | hkn | hkn | hkn | hkn | hkn | hkn | hkn | hkn
      · have hk : min (max (N - 8 * I) 0) 8 = 0 := by have := HI.out; have := HN.out; unfold keepN at hkn; omega
        have ha : bits .and .u8 ((b[i]'hil).toNat : Int) 0 = ((keepB 0 (b[i]'hil)).toNat : Int) := and_keep 0 (by omega) (b[i]'hil)
        have HMX := Lib.hid (show (adCells six (mixL b n i)).set (1 + i) (.int .u8 ((keepB 0 (b[i]'hil)).toNat : Int)) = adCells six (mixL b n (i + 1)) by have h := mixL_set six b n i HL.out hi16; rw [hkn] at h; exact h)
        have hy0 : (0 : Int) ≤ ((keepB 0 (b[i]'hil)).toNat : Int) := by omega
        have hy1 : ((keepB 0 (b[i]'hil)).toNat : Int) < 256 := by have := (keepB 0 (b[i]'hil)).toNat_lt; omega
        have hso := store_one (P := Tryz.prog) (HK.out.drewN 1) (1 + i) (by rw [adCells_len _ _ (mixL_len b n i HL.out (by omega))]; omega) (.int .u8 ((keepB 0 (b[i]'hil)).toNat : Int)) rfl
        have HK3 := Lib.hid (blk_set1 (HK.out.drewN 1) (1 + i) (.int .u8 ((keepB 0 (b[i]'hil)).toNat : Int)))
        rw [HMX.out] at HK3
        have HZ3 : Hid (Blk (w.heap.size + 1) (adCells false zero16) 24 ((wr.drewN 1).setCell ⟨w.heap.size, 1 + i, none⟩ (.int .u8 ((keepB 0 (b[i]'hil)).toNat : Int)))) := Lib.hid (blk_setOther (HZ.out.drewN 1) (by simp))
        have HB3 := Lib.hid ((below_drewN HB.out 1).setCell (p := ⟨w.heap.size, 1 + i, none⟩) (Nat.le_refl _) (.int .u8 ((keepB 0 (b[i]'hil)).toNat : Int)))
        clear HMX hkn hi16
        rw [show 1 + i = 1 + I.toNat by rw [hIi]] at hso HK3 HZ3 HB3
        generalize ((keepB 0 (b[i]'hil)).toNat : Int) = Y at *
        generalize ((b[i]'hil).toNat : Int) = X at *
        clear hil hIi
        change (storeCells ⟨w.heap.size, 1 + I.toNat, none⟩ [Value.int .u8 Y]).run Tryz.prog wr.drew = .ok () (wr.drew.setCell ⟨w.heap.size, 1 + I.toNat, none⟩ (.int .u8 Y)) at hso
        go_upto_region 5 with (fail)
        go_region
        all_goals go_wp2
        all_goals go_roundw
        all_goals first
          | exact ⟨i + 1, I + 1, by (first | rfl | go_num), HI2, H162, HK3, HZ3, HB3⟩
          | (simp [intOf]; omega)
      · have hk : min (max (N - 8 * I) 0) 8 = 1 := by have := HI.out; have := HN.out; unfold keepN at hkn; omega
        have ha : bits .and .u8 ((b[i]'hil).toNat : Int) 128 = ((keepB 1 (b[i]'hil)).toNat : Int) := and_keep 1 (by omega) (b[i]'hil)
        have HMX := Lib.hid (show (adCells six (mixL b n i)).set (1 + i) (.int .u8 ((keepB 1 (b[i]'hil)).toNat : Int)) = adCells six (mixL b n (i + 1)) by have h := mixL_set six b n i HL.out hi16; rw [hkn] at h; exact h)
        have hy0 : (0 : Int) ≤ ((keepB 1 (b[i]'hil)).toNat : Int) := by omega
        have hy1 : ((keepB 1 (b[i]'hil)).toNat : Int) < 256 := by have := (keepB 1 (b[i]'hil)).toNat_lt; omega
        have hso := store_one (P := Tryz.prog) (HK.out.drewN 1) (1 + i) (by rw [adCells_len _ _ (mixL_len b n i HL.out (by omega))]; omega) (.int .u8 ((keepB 1 (b[i]'hil)).toNat : Int)) rfl
        have HK3 := Lib.hid (blk_set1 (HK.out.drewN 1) (1 + i) (.int .u8 ((keepB 1 (b[i]'hil)).toNat : Int)))
        rw [HMX.out] at HK3
        have HZ3 : Hid (Blk (w.heap.size + 1) (adCells false zero16) 24 ((wr.drewN 1).setCell ⟨w.heap.size, 1 + i, none⟩ (.int .u8 ((keepB 1 (b[i]'hil)).toNat : Int)))) := Lib.hid (blk_setOther (HZ.out.drewN 1) (by simp))
        have HB3 := Lib.hid ((below_drewN HB.out 1).setCell (p := ⟨w.heap.size, 1 + i, none⟩) (Nat.le_refl _) (.int .u8 ((keepB 1 (b[i]'hil)).toNat : Int)))
        clear HMX hkn hi16
        rw [show 1 + i = 1 + I.toNat by rw [hIi]] at hso HK3 HZ3 HB3
        generalize ((keepB 1 (b[i]'hil)).toNat : Int) = Y at *
        generalize ((b[i]'hil).toNat : Int) = X at *
        clear hil hIi
        change (storeCells ⟨w.heap.size, 1 + I.toNat, none⟩ [Value.int .u8 Y]).run Tryz.prog wr.drew = .ok () (wr.drew.setCell ⟨w.heap.size, 1 + I.toNat, none⟩ (.int .u8 Y)) at hso
        go_upto_region 5 with (fail)
        go_region
        all_goals go_wp2
        all_goals go_roundw
        all_goals first
          | exact ⟨i + 1, I + 1, by (first | rfl | go_num), HI2, H162, HK3, HZ3, HB3⟩
          | (simp [intOf]; omega)
      · have hk : min (max (N - 8 * I) 0) 8 = 2 := by have := HI.out; have := HN.out; unfold keepN at hkn; omega
        have ha : bits .and .u8 ((b[i]'hil).toNat : Int) 192 = ((keepB 2 (b[i]'hil)).toNat : Int) := and_keep 2 (by omega) (b[i]'hil)
        have HMX := Lib.hid (show (adCells six (mixL b n i)).set (1 + i) (.int .u8 ((keepB 2 (b[i]'hil)).toNat : Int)) = adCells six (mixL b n (i + 1)) by have h := mixL_set six b n i HL.out hi16; rw [hkn] at h; exact h)
        have hy0 : (0 : Int) ≤ ((keepB 2 (b[i]'hil)).toNat : Int) := by omega
        have hy1 : ((keepB 2 (b[i]'hil)).toNat : Int) < 256 := by have := (keepB 2 (b[i]'hil)).toNat_lt; omega
        have hso := store_one (P := Tryz.prog) (HK.out.drewN 1) (1 + i) (by rw [adCells_len _ _ (mixL_len b n i HL.out (by omega))]; omega) (.int .u8 ((keepB 2 (b[i]'hil)).toNat : Int)) rfl
        have HK3 := Lib.hid (blk_set1 (HK.out.drewN 1) (1 + i) (.int .u8 ((keepB 2 (b[i]'hil)).toNat : Int)))
        rw [HMX.out] at HK3
        have HZ3 : Hid (Blk (w.heap.size + 1) (adCells false zero16) 24 ((wr.drewN 1).setCell ⟨w.heap.size, 1 + i, none⟩ (.int .u8 ((keepB 2 (b[i]'hil)).toNat : Int)))) := Lib.hid (blk_setOther (HZ.out.drewN 1) (by simp))
        have HB3 := Lib.hid ((below_drewN HB.out 1).setCell (p := ⟨w.heap.size, 1 + i, none⟩) (Nat.le_refl _) (.int .u8 ((keepB 2 (b[i]'hil)).toNat : Int)))
        clear HMX hkn hi16
        rw [show 1 + i = 1 + I.toNat by rw [hIi]] at hso HK3 HZ3 HB3
        generalize ((keepB 2 (b[i]'hil)).toNat : Int) = Y at *
        generalize ((b[i]'hil).toNat : Int) = X at *
        clear hil hIi
        change (storeCells ⟨w.heap.size, 1 + I.toNat, none⟩ [Value.int .u8 Y]).run Tryz.prog wr.drew = .ok () (wr.drew.setCell ⟨w.heap.size, 1 + I.toNat, none⟩ (.int .u8 Y)) at hso
        go_upto_region 5 with (fail)
        go_region
        all_goals go_wp2
        all_goals go_roundw
        all_goals first
          | exact ⟨i + 1, I + 1, by (first | rfl | go_num), HI2, H162, HK3, HZ3, HB3⟩
          | (simp [intOf]; omega)
      · have hk : min (max (N - 8 * I) 0) 8 = 3 := by have := HI.out; have := HN.out; unfold keepN at hkn; omega
        have ha : bits .and .u8 ((b[i]'hil).toNat : Int) 224 = ((keepB 3 (b[i]'hil)).toNat : Int) := and_keep 3 (by omega) (b[i]'hil)
        have HMX := Lib.hid (show (adCells six (mixL b n i)).set (1 + i) (.int .u8 ((keepB 3 (b[i]'hil)).toNat : Int)) = adCells six (mixL b n (i + 1)) by have h := mixL_set six b n i HL.out hi16; rw [hkn] at h; exact h)
        have hy0 : (0 : Int) ≤ ((keepB 3 (b[i]'hil)).toNat : Int) := by omega
        have hy1 : ((keepB 3 (b[i]'hil)).toNat : Int) < 256 := by have := (keepB 3 (b[i]'hil)).toNat_lt; omega
        have hso := store_one (P := Tryz.prog) (HK.out.drewN 1) (1 + i) (by rw [adCells_len _ _ (mixL_len b n i HL.out (by omega))]; omega) (.int .u8 ((keepB 3 (b[i]'hil)).toNat : Int)) rfl
        have HK3 := Lib.hid (blk_set1 (HK.out.drewN 1) (1 + i) (.int .u8 ((keepB 3 (b[i]'hil)).toNat : Int)))
        rw [HMX.out] at HK3
        have HZ3 : Hid (Blk (w.heap.size + 1) (adCells false zero16) 24 ((wr.drewN 1).setCell ⟨w.heap.size, 1 + i, none⟩ (.int .u8 ((keepB 3 (b[i]'hil)).toNat : Int)))) := Lib.hid (blk_setOther (HZ.out.drewN 1) (by simp))
        have HB3 := Lib.hid ((below_drewN HB.out 1).setCell (p := ⟨w.heap.size, 1 + i, none⟩) (Nat.le_refl _) (.int .u8 ((keepB 3 (b[i]'hil)).toNat : Int)))
        clear HMX hkn hi16
        rw [show 1 + i = 1 + I.toNat by rw [hIi]] at hso HK3 HZ3 HB3
        generalize ((keepB 3 (b[i]'hil)).toNat : Int) = Y at *
        generalize ((b[i]'hil).toNat : Int) = X at *
        clear hil hIi
        change (storeCells ⟨w.heap.size, 1 + I.toNat, none⟩ [Value.int .u8 Y]).run Tryz.prog wr.drew = .ok () (wr.drew.setCell ⟨w.heap.size, 1 + I.toNat, none⟩ (.int .u8 Y)) at hso
        go_upto_region 5 with (fail)
        go_region
        all_goals go_wp2
        all_goals go_roundw
        all_goals first
          | exact ⟨i + 1, I + 1, by (first | rfl | go_num), HI2, H162, HK3, HZ3, HB3⟩
          | (simp [intOf]; omega)
      · have hk : min (max (N - 8 * I) 0) 8 = 4 := by have := HI.out; have := HN.out; unfold keepN at hkn; omega
        have ha : bits .and .u8 ((b[i]'hil).toNat : Int) 240 = ((keepB 4 (b[i]'hil)).toNat : Int) := and_keep 4 (by omega) (b[i]'hil)
        have HMX := Lib.hid (show (adCells six (mixL b n i)).set (1 + i) (.int .u8 ((keepB 4 (b[i]'hil)).toNat : Int)) = adCells six (mixL b n (i + 1)) by have h := mixL_set six b n i HL.out hi16; rw [hkn] at h; exact h)
        have hy0 : (0 : Int) ≤ ((keepB 4 (b[i]'hil)).toNat : Int) := by omega
        have hy1 : ((keepB 4 (b[i]'hil)).toNat : Int) < 256 := by have := (keepB 4 (b[i]'hil)).toNat_lt; omega
        have hso := store_one (P := Tryz.prog) (HK.out.drewN 1) (1 + i) (by rw [adCells_len _ _ (mixL_len b n i HL.out (by omega))]; omega) (.int .u8 ((keepB 4 (b[i]'hil)).toNat : Int)) rfl
        have HK3 := Lib.hid (blk_set1 (HK.out.drewN 1) (1 + i) (.int .u8 ((keepB 4 (b[i]'hil)).toNat : Int)))
        rw [HMX.out] at HK3
        have HZ3 : Hid (Blk (w.heap.size + 1) (adCells false zero16) 24 ((wr.drewN 1).setCell ⟨w.heap.size, 1 + i, none⟩ (.int .u8 ((keepB 4 (b[i]'hil)).toNat : Int)))) := Lib.hid (blk_setOther (HZ.out.drewN 1) (by simp))
        have HB3 := Lib.hid ((below_drewN HB.out 1).setCell (p := ⟨w.heap.size, 1 + i, none⟩) (Nat.le_refl _) (.int .u8 ((keepB 4 (b[i]'hil)).toNat : Int)))
        clear HMX hkn hi16
        rw [show 1 + i = 1 + I.toNat by rw [hIi]] at hso HK3 HZ3 HB3
        generalize ((keepB 4 (b[i]'hil)).toNat : Int) = Y at *
        generalize ((b[i]'hil).toNat : Int) = X at *
        clear hil hIi
        change (storeCells ⟨w.heap.size, 1 + I.toNat, none⟩ [Value.int .u8 Y]).run Tryz.prog wr.drew = .ok () (wr.drew.setCell ⟨w.heap.size, 1 + I.toNat, none⟩ (.int .u8 Y)) at hso
        go_upto_region 5 with (fail)
        go_region
        all_goals go_wp2
        all_goals go_roundw
        all_goals first
          | exact ⟨i + 1, I + 1, by (first | rfl | go_num), HI2, H162, HK3, HZ3, HB3⟩
          | (simp [intOf]; omega)
      · have hk : min (max (N - 8 * I) 0) 8 = 5 := by have := HI.out; have := HN.out; unfold keepN at hkn; omega
        have ha : bits .and .u8 ((b[i]'hil).toNat : Int) 248 = ((keepB 5 (b[i]'hil)).toNat : Int) := and_keep 5 (by omega) (b[i]'hil)
        have HMX := Lib.hid (show (adCells six (mixL b n i)).set (1 + i) (.int .u8 ((keepB 5 (b[i]'hil)).toNat : Int)) = adCells six (mixL b n (i + 1)) by have h := mixL_set six b n i HL.out hi16; rw [hkn] at h; exact h)
        have hy0 : (0 : Int) ≤ ((keepB 5 (b[i]'hil)).toNat : Int) := by omega
        have hy1 : ((keepB 5 (b[i]'hil)).toNat : Int) < 256 := by have := (keepB 5 (b[i]'hil)).toNat_lt; omega
        have hso := store_one (P := Tryz.prog) (HK.out.drewN 1) (1 + i) (by rw [adCells_len _ _ (mixL_len b n i HL.out (by omega))]; omega) (.int .u8 ((keepB 5 (b[i]'hil)).toNat : Int)) rfl
        have HK3 := Lib.hid (blk_set1 (HK.out.drewN 1) (1 + i) (.int .u8 ((keepB 5 (b[i]'hil)).toNat : Int)))
        rw [HMX.out] at HK3
        have HZ3 : Hid (Blk (w.heap.size + 1) (adCells false zero16) 24 ((wr.drewN 1).setCell ⟨w.heap.size, 1 + i, none⟩ (.int .u8 ((keepB 5 (b[i]'hil)).toNat : Int)))) := Lib.hid (blk_setOther (HZ.out.drewN 1) (by simp))
        have HB3 := Lib.hid ((below_drewN HB.out 1).setCell (p := ⟨w.heap.size, 1 + i, none⟩) (Nat.le_refl _) (.int .u8 ((keepB 5 (b[i]'hil)).toNat : Int)))
        clear HMX hkn hi16
        rw [show 1 + i = 1 + I.toNat by rw [hIi]] at hso HK3 HZ3 HB3
        generalize ((keepB 5 (b[i]'hil)).toNat : Int) = Y at *
        generalize ((b[i]'hil).toNat : Int) = X at *
        clear hil hIi
        change (storeCells ⟨w.heap.size, 1 + I.toNat, none⟩ [Value.int .u8 Y]).run Tryz.prog wr.drew = .ok () (wr.drew.setCell ⟨w.heap.size, 1 + I.toNat, none⟩ (.int .u8 Y)) at hso
        go_upto_region 5 with (fail)
        go_region
        all_goals go_wp2
        all_goals go_roundw
        all_goals first
          | exact ⟨i + 1, I + 1, by (first | rfl | go_num), HI2, H162, HK3, HZ3, HB3⟩
          | (simp [intOf]; omega)
      · have hk : min (max (N - 8 * I) 0) 8 = 6 := by have := HI.out; have := HN.out; unfold keepN at hkn; omega
        have ha : bits .and .u8 ((b[i]'hil).toNat : Int) 252 = ((keepB 6 (b[i]'hil)).toNat : Int) := and_keep 6 (by omega) (b[i]'hil)
        have HMX := Lib.hid (show (adCells six (mixL b n i)).set (1 + i) (.int .u8 ((keepB 6 (b[i]'hil)).toNat : Int)) = adCells six (mixL b n (i + 1)) by have h := mixL_set six b n i HL.out hi16; rw [hkn] at h; exact h)
        have hy0 : (0 : Int) ≤ ((keepB 6 (b[i]'hil)).toNat : Int) := by omega
        have hy1 : ((keepB 6 (b[i]'hil)).toNat : Int) < 256 := by have := (keepB 6 (b[i]'hil)).toNat_lt; omega
        have hso := store_one (P := Tryz.prog) (HK.out.drewN 1) (1 + i) (by rw [adCells_len _ _ (mixL_len b n i HL.out (by omega))]; omega) (.int .u8 ((keepB 6 (b[i]'hil)).toNat : Int)) rfl
        have HK3 := Lib.hid (blk_set1 (HK.out.drewN 1) (1 + i) (.int .u8 ((keepB 6 (b[i]'hil)).toNat : Int)))
        rw [HMX.out] at HK3
        have HZ3 : Hid (Blk (w.heap.size + 1) (adCells false zero16) 24 ((wr.drewN 1).setCell ⟨w.heap.size, 1 + i, none⟩ (.int .u8 ((keepB 6 (b[i]'hil)).toNat : Int)))) := Lib.hid (blk_setOther (HZ.out.drewN 1) (by simp))
        have HB3 := Lib.hid ((below_drewN HB.out 1).setCell (p := ⟨w.heap.size, 1 + i, none⟩) (Nat.le_refl _) (.int .u8 ((keepB 6 (b[i]'hil)).toNat : Int)))
        clear HMX hkn hi16
        rw [show 1 + i = 1 + I.toNat by rw [hIi]] at hso HK3 HZ3 HB3
        generalize ((keepB 6 (b[i]'hil)).toNat : Int) = Y at *
        generalize ((b[i]'hil).toNat : Int) = X at *
        clear hil hIi
        change (storeCells ⟨w.heap.size, 1 + I.toNat, none⟩ [Value.int .u8 Y]).run Tryz.prog wr.drew = .ok () (wr.drew.setCell ⟨w.heap.size, 1 + I.toNat, none⟩ (.int .u8 Y)) at hso
        go_upto_region 5 with (fail)
        go_region
        all_goals go_wp2
        all_goals go_roundw
        all_goals first
          | exact ⟨i + 1, I + 1, by (first | rfl | go_num), HI2, H162, HK3, HZ3, HB3⟩
          | (simp [intOf]; omega)
      · have hk : min (max (N - 8 * I) 0) 8 = 7 := by have := HI.out; have := HN.out; unfold keepN at hkn; omega
        have ha : bits .and .u8 ((b[i]'hil).toNat : Int) 254 = ((keepB 7 (b[i]'hil)).toNat : Int) := and_keep 7 (by omega) (b[i]'hil)
        have HMX := Lib.hid (show (adCells six (mixL b n i)).set (1 + i) (.int .u8 ((keepB 7 (b[i]'hil)).toNat : Int)) = adCells six (mixL b n (i + 1)) by have h := mixL_set six b n i HL.out hi16; rw [hkn] at h; exact h)
        have hy0 : (0 : Int) ≤ ((keepB 7 (b[i]'hil)).toNat : Int) := by omega
        have hy1 : ((keepB 7 (b[i]'hil)).toNat : Int) < 256 := by have := (keepB 7 (b[i]'hil)).toNat_lt; omega
        have hso := store_one (P := Tryz.prog) (HK.out.drewN 1) (1 + i) (by rw [adCells_len _ _ (mixL_len b n i HL.out (by omega))]; omega) (.int .u8 ((keepB 7 (b[i]'hil)).toNat : Int)) rfl
        have HK3 := Lib.hid (blk_set1 (HK.out.drewN 1) (1 + i) (.int .u8 ((keepB 7 (b[i]'hil)).toNat : Int)))
        rw [HMX.out] at HK3
        have HZ3 : Hid (Blk (w.heap.size + 1) (adCells false zero16) 24 ((wr.drewN 1).setCell ⟨w.heap.size, 1 + i, none⟩ (.int .u8 ((keepB 7 (b[i]'hil)).toNat : Int)))) := Lib.hid (blk_setOther (HZ.out.drewN 1) (by simp))
        have HB3 := Lib.hid ((below_drewN HB.out 1).setCell (p := ⟨w.heap.size, 1 + i, none⟩) (Nat.le_refl _) (.int .u8 ((keepB 7 (b[i]'hil)).toNat : Int)))
        clear HMX hkn hi16
        rw [show 1 + i = 1 + I.toNat by rw [hIi]] at hso HK3 HZ3 HB3
        generalize ((keepB 7 (b[i]'hil)).toNat : Int) = Y at *
        generalize ((b[i]'hil).toNat : Int) = X at *
        clear hil hIi
        change (storeCells ⟨w.heap.size, 1 + I.toNat, none⟩ [Value.int .u8 Y]).run Tryz.prog wr.drew = .ok () (wr.drew.setCell ⟨w.heap.size, 1 + I.toNat, none⟩ (.int .u8 Y)) at hso
        go_upto_region 5 with (fail)
        go_region
        all_goals go_wp2
        all_goals go_roundw
        all_goals first
          | exact ⟨i + 1, I + 1, by (first | rfl | go_num), HI2, H162, HK3, HZ3, HB3⟩
          | (simp [intOf]; omega)
      · have hk : min (max (N - 8 * I) 0) 8 = 8 := by have := HI.out; have := HN.out; unfold keepN at hkn; omega
        have ha : bits .and .u8 ((b[i]'hil).toNat : Int) 255 = ((keepB 8 (b[i]'hil)).toNat : Int) := and_keep 8 (by omega) (b[i]'hil)
        have HMX := Lib.hid (show (adCells six (mixL b n i)).set (1 + i) (.int .u8 ((keepB 8 (b[i]'hil)).toNat : Int)) = adCells six (mixL b n (i + 1)) by have h := mixL_set six b n i HL.out hi16; rw [hkn] at h; exact h)
        have hy0 : (0 : Int) ≤ ((keepB 8 (b[i]'hil)).toNat : Int) := by omega
        have hy1 : ((keepB 8 (b[i]'hil)).toNat : Int) < 256 := by have := (keepB 8 (b[i]'hil)).toNat_lt; omega
        have hso := store_one (P := Tryz.prog) (HK.out.drewN 1) (1 + i) (by rw [adCells_len _ _ (mixL_len b n i HL.out (by omega))]; omega) (.int .u8 ((keepB 8 (b[i]'hil)).toNat : Int)) rfl
        have HK3 := Lib.hid (blk_set1 (HK.out.drewN 1) (1 + i) (.int .u8 ((keepB 8 (b[i]'hil)).toNat : Int)))
        rw [HMX.out] at HK3
        have HZ3 : Hid (Blk (w.heap.size + 1) (adCells false zero16) 24 ((wr.drewN 1).setCell ⟨w.heap.size, 1 + i, none⟩ (.int .u8 ((keepB 8 (b[i]'hil)).toNat : Int)))) := Lib.hid (blk_setOther (HZ.out.drewN 1) (by simp))
        have HB3 := Lib.hid ((below_drewN HB.out 1).setCell (p := ⟨w.heap.size, 1 + i, none⟩) (Nat.le_refl _) (.int .u8 ((keepB 8 (b[i]'hil)).toNat : Int)))
        clear HMX hkn hi16
        rw [show 1 + i = 1 + I.toNat by rw [hIi]] at hso HK3 HZ3 HB3
        generalize ((keepB 8 (b[i]'hil)).toNat : Int) = Y at *
        generalize ((b[i]'hil).toNat : Int) = X at *
        clear hil hIi
        change (storeCells ⟨w.heap.size, 1 + I.toNat, none⟩ [Value.int .u8 Y]).run Tryz.prog wr.drew = .ok () (wr.drew.setCell ⟨w.heap.size, 1 + I.toNat, none⟩ (.int .u8 Y)) at hso
        go_upto_region 5 with (fail)
        go_region
        all_goals go_wp2
        all_goals go_roundw
        all_goals first
          | exact ⟨i + 1, I + 1, by (first | rfl | go_num), HI2, H162, HK3, HZ3, HB3⟩
          | (simp [intOf]; omega)
    · obtain rfl : I = 16 := by omega
      have hi16 : i = 16 := by have := HI.out; omega
      subst hi16
      have HKE : Hid (Blk w.heap.size (adCells six (cutL b n)) 24 wr) := Lib.hid (by have := HK.out; rw [mixL_end b n HL.out] at this; exact this)
      have hcl : (cutL b n).length = 16 := by rw [cutL_len]; exact HL.out
      have HCL := Lib.hid hcl
      have hld : (loadCells ⟨w.heap.size, 0, none⟩ 17).run Tryz.prog wr = .ok (adA six (cutL b n)) wr := HKE.out.load 0 17 (adCells six (cutL b n)) (by rw [List.drop_zero, List.take_of_length_le (by rw [adCells_len _ _ hcl]; omega)]) (adCells_len _ _ hcl)
      clear hcl
      go_wp2_with ((refine wp_store_blk rfl 24 (.tmp 4) (.tmp 27) rfl (w.heap.size + 1) 0 (adCells false zero16) (adCells six (cutL b n)) 24 _ rfl rfl rfl HZ.out (by rw [adCells_len _ _ HCL.out]; decide) (by rw [adCells_len _ _ HCL.out]; exact infoAd) (adCells_one _ _) (by rw [adCells_len _ _ HCL.out]; decide) ?_; intro w7 hk7 ha7; have HK7 := Lib.hid hk7; have HB7 : Hid (Below w.heap.size w w7) := Lib.hid (below_alt HB.out ha7 HB.out.size (fun k hk => by omega)); clear hk7 ha7))
      have hk7 := HK7.out
      rw [splice_all _ _ (by rw [adCells_len _ _ HCL.out]; decide)] at hk7
      have hres : (loadCells ⟨w.heap.size + 1, 0, none⟩ 17).run Tryz.prog w7 = .ok (adA six (cutL b n)) w7 := hk7.load 0 17 (adCells six (cutL b n)) (by rw [List.drop_zero, List.take_of_length_le (by rw [adCells_len _ _ HCL.out]; omega)]) (adCells_len _ _ HCL.out)
      exact bodyPost_ret (v := adV six (cutL b n)) (by simp [results, Tryz.results109, go_sem, hres]) rfl ⟨rfl, HB7.out⟩
end Go.Proofs.YtmcgkknpkocgoaaGreatDoor.Ad

/- cidr.fits, cidr.Right, cidr.Contains. -/
namespace Go.Proofs.YtmcgkknpkocgoaaGreatDoor.Ad
open Go.RowKit Go.Proofs.YtmcgkknpkocgoaaGreatDoor.Mem Go.Proofs.YtmcgkknpkocgoaaGreatDoor.Num Go.Proofs.YtmcgkknpkocgoaaGreatDoor.Err Go.Proofs.YtmcgkknpkocgoaaGreatDoor.AdP
open Go.Proofs.YtmcgkknpkocgoaaGreatDoor.Key (eql_deep key_addr adL u8L)
open Go.Proofs.YtmcgkknpkocgoaaGreatDoor.Head (pad pad_len adCells_one adCells_len infoAd splice_ad)
open Go.Proofs.YtmcgkknpkocgoaaGreatDoor.Addr (adV adA adCells adA_size cell_box load_box cell_six ptA ptV pt_loads)
set_option linter.unusedVariables false
set_option linter.unusedSimpArgs false
set_option maxRecDepth 100000
attribute [-go_sem] Builtin.append_ loadCells loadCellsFrom storeCells run_eql_struct
theorem u8L_inj (a b : List UInt8) (h : u8L a = u8L b) : a = b := by
  unfold u8L at h
  have hf : Function.Injective (fun x : UInt8 => Lit.int .u8 (x.toNat : Int)) := by
    intro x y e
    injection e with _ e2
    exact UInt8.toNat_inj.1 (by omega)
  exact List.map_inj_right (fun x y e => hf e) |>.1 h
theorem eq_addr2 (s1 s2 : Bool) (b c : List UInt8) (hb : b.length = 16) (hc : c.length = 16) (W : World) :
    (binOp .eql 24 (.agg (adA s1 b)) (.agg (adA s2 c))).run Tryz.prog W = .ok (.bool (decide (s1 = s2 ∧ b = c))) W ∧ (binOp .neq 24 (.agg (adA s1 b)) (.agg (adA s2 c))).run Tryz.prog W = .ok (.bool (!decide (s1 = s2 ∧ b = c))) W := by
  have hf : ∀ (s : Bool) (b : List UInt8), b.length = 16 → (Value.agg (adA s b)).formed Tryz.prog 24 = true := by
    intro s b hb
    have hc : Tryz.prog.cellsOf 24 = 17 := by kernel_rfl
    unfold Value.formed adA
    rw [Tryz.underlying24]
    simp only [hc]
    rw [List.size_toArray, adCells_len _ _ hb]
    rfl
  refine eql_deep (by kernel_rfl) (decide (s1 = s2 ∧ b = c)) ?_ (hf s1 b hb) (hf s2 c hc) (key_addr 0 s1 b hb) (key_addr 0 s2 c hc) W
  rw [decide_eq_true_iff]
  constructor
  · rintro ⟨rfl, rfl⟩; rfl
  · intro h
    unfold adL at h
    injection h with h1 h2
    injection h1 with h1
    exact ⟨h1, u8L_inj _ _ h2⟩
theorem bits_calls' (six : Bool) (b : List UInt8) (hb : b.length = 16) (w : World) :
    Calls Tryz.prog 20 #[.agg (adA six b)] w fun e w' => e = .returned (.int .i64 (widthA six : Int)) ∧ Below w.heap.size w w' := by
  have h := bits_calls six b hb w
  cases six <;> exact h
set_option maxHeartbeats 4000000 in
theorem fits_calls (six : Bool) (b : List UInt8) (hb : b.length = 16) (n : Int) (w : World) :
    Calls Tryz.prog 108 #[adV six b, .int .i64 n] w fun e w' => e = .returned (.bool (decide (0 ≤ n) && decide (n ≤ (widthA six : Int)))) ∧ Below w.heap.size w w' := by
  have hl0 := load_ad six b hb w _ (Below.refl _ _)
  have hsz := adA_size six b hb
  have KB : Hid (∀ W, Calls Tryz.prog 20 #[.agg (adA six b)] W fun e w' => e = .returned (.int .i64 (widthA six : Int)) ∧ Below W.heap.size W w') := Lib.hid (fun W => bits_calls' six b hb W)
  show Calls Tryz.prog 108 #[.agg (adA six b), .int .i64 n] w fun e w' => e = .returned (.bool (decide (0 ≤ n) && decide (n ≤ (widthA six : Int)))) ∧ Below w.heap.size w w'
  generalize adA six b = ca at *
  have hW0 : (0 : Int) ≤ (widthA six : Int) := by omega
  generalize (widthA six : Int) = WD at *
  have HB0 := Lib.hid ((Below.refl w.heap.size w).alloc (Nat.le_refl _) (.cells ca 24))
  by_cases h0 : 0 ≤ n
  · have d0 : decide (0 ≤ n) = true := decide_eq_true h0
    rw [d0, Bool.true_and]
    by_cases h1 : n ≤ WD
    · have d1 : decide (n ≤ WD) = true := decide_eq_true h1
      rw [d1]
      go_enter Tryz.func108, Tryz.ntmps108
      go_wp2_with (go_at_call 20; ((with_reducible refine (KB.out _).mono ?_); rintro e w1 ⟨rfl, hb1⟩; have HB1 := Lib.hid (below_allocd hb1); clear hb1))
      go_ret
      exact ⟨by (first | rfl | simp), HB1.out⟩
    · have d1 : decide (n ≤ WD) = false := decide_eq_false h1
      rw [d1]
      go_enter Tryz.func108, Tryz.ntmps108
      go_wp2_with (go_at_call 20; ((with_reducible refine (KB.out _).mono ?_); rintro e w1 ⟨rfl, hb1⟩; have HB1 := Lib.hid (below_allocd hb1); clear hb1))
      go_ret
      exact ⟨by (first | rfl | simp), HB1.out⟩
  · have d0 : decide (0 ≤ n) = false := decide_eq_false h0
    rw [d0, Bool.false_and]
    go_enter Tryz.func108, Tryz.ntmps108
    go_wp2
    go_ret
    exact ⟨by (first | rfl | simp), HB0.out⟩
theorem rightC_eq (six : Bool) (b : List UInt8) (n : Int) : rightC six b n = (rightA six b && ((decide (0 ≤ n) && decide (n ≤ (widthA six : Int))) && decide (cutL b n.toNat = b))) := by
  unfold rightC
  rw [Bool.and_assoc]
set_option maxHeartbeats 8000000 in
theorem cright_calls (six : Bool) (b : List UInt8) (hb : b.length = 16) (n : Int) (w : World) :
    Calls Tryz.prog 58 #[ptV six b n] w fun e w' => e = .returned (.bool (rightC six b n)) ∧ Below w.heap.size w w' := by
  have HLD : Hid (∀ W, Below (w.alloc (.cells (ptA six b n) 74)).heap.size (w.alloc (.cells (ptA six b n) 74)) W → CdL w.heap.size (adA six b) (ptA six b n) n W) := Lib.hid (fun W h => cdL_of six b n hb w W h)
  have HBD : Hid (∀ W, Below (w.alloc (.cells (ptA six b n) 74)).heap.size (w.alloc (.cells (ptA six b n) 74)) W → Below w.heap.size w W) := Lib.hid (fun W h => below_allocd h)
  have KR : Hid (∀ W, Calls Tryz.prog 16 #[.agg (adA six b)] W fun e w' => e = .returned (.bool (rightA six b)) ∧ Below W.heap.size W w') := Lib.hid (fun W => right_calls' six b hb W)
  have KF : Hid (∀ W, Calls Tryz.prog 108 #[.agg (adA six b), .int .i64 n] W fun e w' => e = .returned (.bool (decide (0 ≤ n) && decide (n ≤ (widthA six : Int)))) ∧ Below W.heap.size W w') := Lib.hid (fun W => fits_calls six b hb n W)
  have KC : Hid ((decide (0 ≤ n) && decide (n ≤ (widthA six : Int))) = true → ∀ W, Calls Tryz.prog 109 #[.agg (adA six b), .int .i64 n] W fun e w' => e = .returned (.agg (adA six (cutL b n.toNat))) ∧ Below W.heap.size W w') := Lib.hid (fun h W => by
    rw [Bool.and_eq_true, decide_eq_true_iff, decide_eq_true_iff] at h
    have h2 := width_le six
    have h := cut3_calls six b hb n.toNat (by omega) W
    rw [show ((n.toNat : Nat) : Int) = n by omega] at h
    exact h)
  have HQ : Hid ((decide (0 ≤ n) && decide (n ≤ (widthA six : Int))) = true → ∀ W, (binOp .eql 24 (.agg (adA six (cutL b n.toNat))) (.agg (adA six b))).run Tryz.prog W = .ok (.bool (decide (cutL b n.toNat = b))) W) := Lib.hid (fun _ W => by
    have h := (eq_addr2 six six (cutL b n.toNat) b (by rw [cutL_len]; exact hb) hb W).1
    rw [h]
    simp)
  have hsz := ptA_size six b n hb
  have hsz2 := adA_size six b hb
  have hsz3 := adA_size six (cutL b n.toNat) (by rw [cutL_len]; exact hb)
  have hl0 := (HLD.out _ (Below.refl _ _)).1
  show Calls Tryz.prog 58 #[.agg (ptA six b n)] w fun e w' => e = .returned (.bool (rightC six b n)) ∧ Below w.heap.size w w'
  rw [rightC_eq]
  generalize adA six (cutL b n.toNat) = ka at *
  generalize adA six b = ca at *
  generalize ptA six b n = pa at *
  generalize decide (cutL b n.toNat = b) = z at *
  generalize (decide (0 ≤ n) && decide (n ≤ (widthA six : Int))) = f at *
  generalize rightA six b = r at *
  cases r with
  | false =>
    rw [Bool.false_and]
    go_enter Tryz.func58, Tryz.ntmps58
    go_upto_region 1 with (fail)
    obtain ⟨W0, hW0⟩ : ∃ W0, W0 = w.alloc (.cells pa 74) := ⟨_, rfl⟩
    rw [← hW0] at HLD HBD hl0 ⊢
    clear hW0
    refine wp_region_held_drew (S := (fun W : World => (loadCells ⟨w.heap.size, 0, none⟩ 17).run Tryz.prog W = .ok ca W ∧ (loadCells ⟨w.heap.size, 0, none⟩ 18).run Tryz.prog W = .ok pa W ∧ W.cell? ⟨w.heap.size, 17, none⟩ = some (.int .i64 n))) (by kernel_rfl) ?_ (fun hHeld => ?_)
    · (first | exact HLD.out _ (below_own_drew _) | exact HLD.out _ HB5.out | exact HLD.out _ HB4.out | exact HLD.out _ HB3.out)
    refine Gw.gw_take (i := 0) (v := ?v1) (d := (some 3)) rfl rfl (by kernel_rfl) (by kernel_rfl) (by kernel_rfl) (fun _ _ _ h => h) (Or.inl ⟨by rfl, ?hy1⟩) hHeld ?rest1
    case hy1 => (intro w hSw; (try dsimp only at hSw); go_simp; (try with_reducible rfl))
    try simp only [Act.put, List.setIfInBounds_toArray, List.set_cons_zero, List.set_cons_succ]
    refine Gw.gw_take (i := 1) (v := ?v2) (d := (some 4)) rfl rfl (by kernel_rfl) (by kernel_rfl) (by kernel_rfl) (fun _ _ _ h => h) (Or.inl ⟨by rfl, ?hy2⟩) hHeld ?rest2
    case hy2 => (intro w hSw; (try dsimp only at hSw); go_simp; (try with_reducible rfl))
    try simp only [Act.put, List.setIfInBounds_toArray, List.set_cons_zero, List.set_cons_succ]
    refine wpAnyH_ready (rs := [2]) (by kernel_rfl) (by simp) ?_
    refine AllReadyH.cons rfl (fun K hK => ?_) AllReadyH.nil
    go_simp
    (go_at_call 16; ((with_reducible refine (KR.out _).mono ?_); rintro e w3 ⟨rfl, hb3⟩; have HB3 := Lib.hid (below_drewd hb3); clear hb3))
    refine hK.out _ _ ?_ (fun hHeld => ?_)
    · (first | exact HLD.out _ (below_own_drew _) | exact HLD.out _ HB5.out | exact HLD.out _ HB4.out | exact HLD.out _ HB3.out)
    clear hK K
    try simp only [Act.put, List.setIfInBounds_toArray, List.set_cons_zero, List.set_cons_succ]
    refine Gw.gw_take (i := 3) (v := ?v3) (d := (some 6)) rfl rfl (by kernel_rfl) (by kernel_rfl) (by kernel_rfl) (fun _ _ _ h => h) (Or.inl ⟨by rfl, ?hy3⟩) hHeld ?rest3
    case hy3 => (intro w hSw; (try dsimp only at hSw); go_simp; (try with_reducible rfl))
    try simp only [Act.put, List.setIfInBounds_toArray, List.set_cons_zero, List.set_cons_succ]
    refine Gw.gw_take (i := 4) (v := undef) (d := (some 7)) rfl rfl (by kernel_rfl) (by kernel_rfl) (by kernel_rfl) (fun _ _ _ h => h) (Or.inr ⟨by rfl, rfl⟩) hHeld ?_
    try simp only [Act.put, List.setIfInBounds_toArray, List.set_cons_zero, List.set_cons_succ]
    refine Gw.gw_take (i := 5) (v := undef) (d := (some 8)) rfl rfl (by kernel_rfl) (by kernel_rfl) (by kernel_rfl) (fun _ _ _ h => h) (Or.inr ⟨by rfl, rfl⟩) hHeld ?_
    try simp only [Act.put, List.setIfInBounds_toArray, List.set_cons_zero, List.set_cons_succ]
    refine Gw.gw_take (i := 6) (v := undef) (d := (some 9)) rfl rfl (by kernel_rfl) (by kernel_rfl) (by kernel_rfl) (fun _ _ _ h => h) (Or.inr ⟨by rfl, rfl⟩) hHeld ?_
    try simp only [Act.put, List.setIfInBounds_toArray, List.set_cons_zero, List.set_cons_succ]
    refine Gw.gw_take (i := 7) (v := undef) (d := (some 10)) rfl rfl (by kernel_rfl) (by kernel_rfl) (by kernel_rfl) (fun _ _ _ h => h) (Or.inr ⟨by rfl, rfl⟩) hHeld ?_
    try simp only [Act.put, List.setIfInBounds_toArray, List.set_cons_zero, List.set_cons_succ]
    refine Gw.gw_take (i := 8) (v := undef) (d := (some 11)) rfl rfl (by kernel_rfl) (by kernel_rfl) (by kernel_rfl) (fun _ _ _ h => h) (Or.inr ⟨by rfl, rfl⟩) hHeld ?_
    try simp only [Act.put, List.setIfInBounds_toArray, List.set_cons_zero, List.set_cons_succ]
    refine Gw.gw_take (i := 9) (v := ?v4) (d := (some 12)) rfl rfl (by kernel_rfl) (by kernel_rfl) (by kernel_rfl) (fun _ _ _ h => h) (Or.inl ⟨by rfl, ?hy4⟩) hHeld ?rest4
    case hy4 => (intro w hSw; (try dsimp only at hSw); go_simp; (try with_reducible rfl))
    try simp only [Act.put, List.setIfInBounds_toArray, List.set_cons_zero, List.set_cons_succ]
    refine Gw.gw_take (i := 10) (v := ?v5) (d := (some 13)) rfl rfl (by kernel_rfl) (by kernel_rfl) (by kernel_rfl) (fun _ _ _ h => h) (Or.inl ⟨by rfl, ?hy5⟩) hHeld ?rest5
    case hy5 => (intro w hSw; (try dsimp only at hSw); go_simp; (try with_reducible rfl))
    try simp only [Act.put, List.setIfInBounds_toArray, List.set_cons_zero, List.set_cons_succ]
    refine Gw.gw_take (i := 11) (v := undef) (d := (some 14)) rfl rfl (by kernel_rfl) (by kernel_rfl) (by kernel_rfl) (fun _ _ _ h => h) (Or.inr ⟨by rfl, rfl⟩) hHeld ?_
    try simp only [Act.put, List.setIfInBounds_toArray, List.set_cons_zero, List.set_cons_succ]
    refine Gw.gw_take (i := 12) (v := undef) (d := (some 15)) rfl rfl (by kernel_rfl) (by kernel_rfl) (by kernel_rfl) (fun _ _ _ h => h) (Or.inr ⟨by rfl, rfl⟩) hHeld ?_
    try simp only [Act.put, List.setIfInBounds_toArray, List.set_cons_zero, List.set_cons_succ]
    refine Gw.gw_take (i := 13) (v := undef) (d := (some 16)) rfl rfl (by kernel_rfl) (by kernel_rfl) (by kernel_rfl) (fun _ _ _ h => h) (Or.inr ⟨by rfl, rfl⟩) hHeld ?_
    try simp only [Act.put, List.setIfInBounds_toArray, List.set_cons_zero, List.set_cons_succ]
    refine Gw.gw_take (i := 14) (v := undef) (d := (some 17)) rfl rfl (by kernel_rfl) (by kernel_rfl) (by kernel_rfl) (fun _ _ _ h => h) (Or.inr ⟨by rfl, rfl⟩) hHeld ?_
    try simp only [Act.put, List.setIfInBounds_toArray, List.set_cons_zero, List.set_cons_succ]
    refine Gw.gw_take (i := 15) (v := undef) (d := (some 18)) rfl rfl (by kernel_rfl) (by kernel_rfl) (by kernel_rfl) (fun _ _ _ h => h) (Or.inr ⟨by rfl, rfl⟩) hHeld ?_
    try simp only [Act.put, List.setIfInBounds_toArray, List.set_cons_zero, List.set_cons_succ]
    refine Gw.gw_take (i := 16) (v := undef) (d := (some 19)) rfl rfl (by kernel_rfl) (by kernel_rfl) (by kernel_rfl) (fun _ _ _ h => h) (Or.inr ⟨by rfl, rfl⟩) hHeld ?_
    try simp only [Act.put, List.setIfInBounds_toArray, List.set_cons_zero, List.set_cons_succ]
    refine Gw.gw_take (i := 17) (v := undef) (d := (some 20)) rfl rfl (by kernel_rfl) (by kernel_rfl) (by kernel_rfl) (fun _ _ _ h => h) (Or.inr ⟨by rfl, rfl⟩) hHeld ?_
    try simp only [Act.put, List.setIfInBounds_toArray, List.set_cons_zero, List.set_cons_succ]
    refine Gw.gw_take (i := 18) (v := undef) (d := (some 21)) rfl rfl (by kernel_rfl) (by kernel_rfl) (by kernel_rfl) (fun _ _ _ h => h) (Or.inr ⟨by rfl, rfl⟩) hHeld ?_
    try simp only [Act.put, List.setIfInBounds_toArray, List.set_cons_zero, List.set_cons_succ]
    refine Gw.gw_take (i := 19) (v := ?v6) (d := (some 22)) rfl rfl (by kernel_rfl) (by kernel_rfl) (by kernel_rfl) (fun _ _ _ h => h) (Or.inl ⟨by rfl, ?hy6⟩) hHeld ?rest6
    case hy6 => (intro w hSw; (try dsimp only at hSw); go_simp; (try with_reducible rfl))
    try simp only [Act.put, List.setIfInBounds_toArray, List.set_cons_zero, List.set_cons_succ]
    refine Gw.gw_take (i := 20) (v := ?v7) (d := (some 2)) rfl rfl (by kernel_rfl) (by kernel_rfl) (by kernel_rfl) (fun _ _ _ h => h) (Or.inl ⟨by rfl, ?hy7⟩) hHeld ?rest7
    case hy7 => (intro w hSw; (try dsimp only at hSw); go_simp; (try with_reducible rfl))
    try simp only [Act.put, List.setIfInBounds_toArray, List.set_cons_zero, List.set_cons_succ]
    refine wpAnyH_done (by kernel_rfl) ?_ _
    go_wp2
    go_ret
    exact ⟨by (first | rfl | simp), HBD.out _ HB3.out⟩
  | true =>
    rw [Bool.true_and]
    cases f with
    | false =>
      rw [Bool.false_and]
      go_enter Tryz.func58, Tryz.ntmps58
      go_upto_region 1 with (fail)
      obtain ⟨W0, hW0⟩ : ∃ W0, W0 = w.alloc (.cells pa 74) := ⟨_, rfl⟩
      rw [← hW0] at HLD HBD hl0 ⊢
      clear hW0
      refine wp_region_held_drew (S := (fun W : World => (loadCells ⟨w.heap.size, 0, none⟩ 17).run Tryz.prog W = .ok ca W ∧ (loadCells ⟨w.heap.size, 0, none⟩ 18).run Tryz.prog W = .ok pa W ∧ W.cell? ⟨w.heap.size, 17, none⟩ = some (.int .i64 n))) (by kernel_rfl) ?_ (fun hHeld => ?_)
      · (first | exact HLD.out _ (below_own_drew _) | exact HLD.out _ HB5.out | exact HLD.out _ HB4.out | exact HLD.out _ HB3.out)
      refine Gw.gw_take (i := 0) (v := ?v8) (d := (some 3)) rfl rfl (by kernel_rfl) (by kernel_rfl) (by kernel_rfl) (fun _ _ _ h => h) (Or.inl ⟨by rfl, ?hy8⟩) hHeld ?rest8
      case hy8 => (intro w hSw; (try dsimp only at hSw); go_simp; (try with_reducible rfl))
      try simp only [Act.put, List.setIfInBounds_toArray, List.set_cons_zero, List.set_cons_succ]
      refine Gw.gw_take (i := 1) (v := ?v9) (d := (some 4)) rfl rfl (by kernel_rfl) (by kernel_rfl) (by kernel_rfl) (fun _ _ _ h => h) (Or.inl ⟨by rfl, ?hy9⟩) hHeld ?rest9
      case hy9 => (intro w hSw; (try dsimp only at hSw); go_simp; (try with_reducible rfl))
      try simp only [Act.put, List.setIfInBounds_toArray, List.set_cons_zero, List.set_cons_succ]
      refine wpAnyH_ready (rs := [2]) (by kernel_rfl) (by simp) ?_
      refine AllReadyH.cons rfl (fun K hK => ?_) AllReadyH.nil
      go_simp
      (go_at_call 16; ((with_reducible refine (KR.out _).mono ?_); rintro e w3 ⟨rfl, hb3⟩; have HB3 := Lib.hid (below_drewd hb3); clear hb3))
      refine hK.out _ _ ?_ (fun hHeld => ?_)
      · (first | exact HLD.out _ (below_own_drew _) | exact HLD.out _ HB5.out | exact HLD.out _ HB4.out | exact HLD.out _ HB3.out)
      clear hK K
      try simp only [Act.put, List.setIfInBounds_toArray, List.set_cons_zero, List.set_cons_succ]
      refine Gw.gw_take (i := 3) (v := ?v10) (d := (some 6)) rfl rfl (by kernel_rfl) (by kernel_rfl) (by kernel_rfl) (fun _ _ _ h => h) (Or.inl ⟨by rfl, ?hy10⟩) hHeld ?rest10
      case hy10 => (intro w hSw; (try dsimp only at hSw); go_simp; (try with_reducible rfl))
      try simp only [Act.put, List.setIfInBounds_toArray, List.set_cons_zero, List.set_cons_succ]
      refine Gw.gw_take (i := 4) (v := ?v11) (d := (some 7)) rfl rfl (by kernel_rfl) (by kernel_rfl) (by kernel_rfl) (fun _ _ _ h => h) (Or.inl ⟨by rfl, ?hy11⟩) hHeld ?rest11
      case hy11 => (intro w hSw; (try dsimp only at hSw); go_simp; (try with_reducible rfl))
      try simp only [Act.put, List.setIfInBounds_toArray, List.set_cons_zero, List.set_cons_succ]
      refine Gw.gw_take (i := 5) (v := ?v12) (d := (some 8)) rfl rfl (by kernel_rfl) (by kernel_rfl) (by kernel_rfl) (fun _ _ _ h => h) (Or.inl ⟨by rfl, ?hy12⟩) hHeld ?rest12
      case hy12 => (intro w hSw; (try dsimp only at hSw); go_simp; (try with_reducible rfl))
      try simp only [Act.put, List.setIfInBounds_toArray, List.set_cons_zero, List.set_cons_succ]
      refine Gw.gw_take (i := 6) (v := ?v13) (d := (some 9)) rfl rfl (by kernel_rfl) (by kernel_rfl) (by kernel_rfl) (fun _ _ _ h => h) (Or.inl ⟨by rfl, ?hy13⟩) hHeld ?rest13
      case hy13 => (intro w hSw; (try dsimp only at hSw); go_simp; (try with_reducible rfl))
      try simp only [Act.put, List.setIfInBounds_toArray, List.set_cons_zero, List.set_cons_succ]
      refine Gw.gw_take (i := 7) (v := ?v14) (d := (some 10)) rfl rfl (by kernel_rfl) (by kernel_rfl) (by kernel_rfl) (fun _ _ _ h => h) (Or.inl ⟨by rfl, ?hy14⟩) hHeld ?rest14
      case hy14 => (intro w hSw; (try dsimp only at hSw); go_simp; (try with_reducible rfl))
      try simp only [Act.put, List.setIfInBounds_toArray, List.set_cons_zero, List.set_cons_succ]
      refine wpAnyH_ready (rs := [8]) (by kernel_rfl) (by simp) ?_
      refine AllReadyH.cons rfl (fun K hK => ?_) AllReadyH.nil
      go_simp
      (go_at_call 108; ((with_reducible refine (KF.out _).mono ?_); rintro e w4 ⟨rfl, hb4⟩; have HB4 := Lib.hid (HB3.out.trans (hb4.mono HB3.out.size)); clear hb4))
      refine hK.out _ _ ?_ (fun hHeld => ?_)
      · (first | exact HLD.out _ (below_own_drew _) | exact HLD.out _ HB5.out | exact HLD.out _ HB4.out | exact HLD.out _ HB3.out)
      clear hK K
      try simp only [Act.put, List.setIfInBounds_toArray, List.set_cons_zero, List.set_cons_succ]
      refine Gw.gw_take (i := 9) (v := ?v15) (d := (some 12)) rfl rfl (by kernel_rfl) (by kernel_rfl) (by kernel_rfl) (fun _ _ _ h => h) (Or.inl ⟨by rfl, ?hy15⟩) hHeld ?rest15
      case hy15 => (intro w hSw; (try dsimp only at hSw); go_simp; (try with_reducible rfl))
      try simp only [Act.put, List.setIfInBounds_toArray, List.set_cons_zero, List.set_cons_succ]
      refine Gw.gw_take (i := 10) (v := ?v16) (d := (some 13)) rfl rfl (by kernel_rfl) (by kernel_rfl) (by kernel_rfl) (fun _ _ _ h => h) (Or.inl ⟨by rfl, ?hy16⟩) hHeld ?rest16
      case hy16 => (intro w hSw; (try dsimp only at hSw); go_simp; (try with_reducible rfl))
      try simp only [Act.put, List.setIfInBounds_toArray, List.set_cons_zero, List.set_cons_succ]
      refine Gw.gw_take (i := 11) (v := undef) (d := (some 14)) rfl rfl (by kernel_rfl) (by kernel_rfl) (by kernel_rfl) (fun _ _ _ h => h) (Or.inr ⟨by rfl, rfl⟩) hHeld ?_
      try simp only [Act.put, List.setIfInBounds_toArray, List.set_cons_zero, List.set_cons_succ]
      refine Gw.gw_take (i := 12) (v := undef) (d := (some 15)) rfl rfl (by kernel_rfl) (by kernel_rfl) (by kernel_rfl) (fun _ _ _ h => h) (Or.inr ⟨by rfl, rfl⟩) hHeld ?_
      try simp only [Act.put, List.setIfInBounds_toArray, List.set_cons_zero, List.set_cons_succ]
      refine Gw.gw_take (i := 13) (v := undef) (d := (some 16)) rfl rfl (by kernel_rfl) (by kernel_rfl) (by kernel_rfl) (fun _ _ _ h => h) (Or.inr ⟨by rfl, rfl⟩) hHeld ?_
      try simp only [Act.put, List.setIfInBounds_toArray, List.set_cons_zero, List.set_cons_succ]
      refine Gw.gw_take (i := 14) (v := undef) (d := (some 17)) rfl rfl (by kernel_rfl) (by kernel_rfl) (by kernel_rfl) (fun _ _ _ h => h) (Or.inr ⟨by rfl, rfl⟩) hHeld ?_
      try simp only [Act.put, List.setIfInBounds_toArray, List.set_cons_zero, List.set_cons_succ]
      refine Gw.gw_take (i := 15) (v := undef) (d := (some 18)) rfl rfl (by kernel_rfl) (by kernel_rfl) (by kernel_rfl) (fun _ _ _ h => h) (Or.inr ⟨by rfl, rfl⟩) hHeld ?_
      try simp only [Act.put, List.setIfInBounds_toArray, List.set_cons_zero, List.set_cons_succ]
      refine Gw.gw_take (i := 16) (v := undef) (d := (some 19)) rfl rfl (by kernel_rfl) (by kernel_rfl) (by kernel_rfl) (fun _ _ _ h => h) (Or.inr ⟨by rfl, rfl⟩) hHeld ?_
      try simp only [Act.put, List.setIfInBounds_toArray, List.set_cons_zero, List.set_cons_succ]
      refine Gw.gw_take (i := 17) (v := undef) (d := (some 20)) rfl rfl (by kernel_rfl) (by kernel_rfl) (by kernel_rfl) (fun _ _ _ h => h) (Or.inr ⟨by rfl, rfl⟩) hHeld ?_
      try simp only [Act.put, List.setIfInBounds_toArray, List.set_cons_zero, List.set_cons_succ]
      refine Gw.gw_take (i := 18) (v := undef) (d := (some 21)) rfl rfl (by kernel_rfl) (by kernel_rfl) (by kernel_rfl) (fun _ _ _ h => h) (Or.inr ⟨by rfl, rfl⟩) hHeld ?_
      try simp only [Act.put, List.setIfInBounds_toArray, List.set_cons_zero, List.set_cons_succ]
      refine Gw.gw_take (i := 19) (v := ?v17) (d := (some 22)) rfl rfl (by kernel_rfl) (by kernel_rfl) (by kernel_rfl) (fun _ _ _ h => h) (Or.inl ⟨by rfl, ?hy17⟩) hHeld ?rest17
      case hy17 => (intro w hSw; (try dsimp only at hSw); go_simp; (try with_reducible rfl))
      try simp only [Act.put, List.setIfInBounds_toArray, List.set_cons_zero, List.set_cons_succ]
      refine Gw.gw_take (i := 20) (v := ?v18) (d := (some 2)) rfl rfl (by kernel_rfl) (by kernel_rfl) (by kernel_rfl) (fun _ _ _ h => h) (Or.inl ⟨by rfl, ?hy18⟩) hHeld ?rest18
      case hy18 => (intro w hSw; (try dsimp only at hSw); go_simp; (try with_reducible rfl))
      try simp only [Act.put, List.setIfInBounds_toArray, List.set_cons_zero, List.set_cons_succ]
      refine wpAnyH_done (by kernel_rfl) ?_ _
      go_wp2
      go_ret
      exact ⟨by (first | rfl | simp), HBD.out _ HB4.out⟩
    | true =>
      have KC1 := Lib.hid (KC.out rfl)
      have hq := HQ.out rfl
      clear KC HQ
      rw [Bool.true_and]
      go_enter Tryz.func58, Tryz.ntmps58
      go_upto_region 1 with (fail)
      obtain ⟨W0, hW0⟩ : ∃ W0, W0 = w.alloc (.cells pa 74) := ⟨_, rfl⟩
      rw [← hW0] at HLD HBD hl0 ⊢
      clear hW0
      refine wp_region_held_drew (S := (fun W : World => (loadCells ⟨w.heap.size, 0, none⟩ 17).run Tryz.prog W = .ok ca W ∧ (loadCells ⟨w.heap.size, 0, none⟩ 18).run Tryz.prog W = .ok pa W ∧ W.cell? ⟨w.heap.size, 17, none⟩ = some (.int .i64 n))) (by kernel_rfl) ?_ (fun hHeld => ?_)
      · (first | exact HLD.out _ (below_own_drew _) | exact HLD.out _ HB5.out | exact HLD.out _ HB4.out | exact HLD.out _ HB3.out)
      refine Gw.gw_take (i := 0) (v := ?v19) (d := (some 3)) rfl rfl (by kernel_rfl) (by kernel_rfl) (by kernel_rfl) (fun _ _ _ h => h) (Or.inl ⟨by rfl, ?hy19⟩) hHeld ?rest19
      case hy19 => (intro w hSw; (try dsimp only at hSw); go_simp; (try with_reducible rfl))
      try simp only [Act.put, List.setIfInBounds_toArray, List.set_cons_zero, List.set_cons_succ]
      refine Gw.gw_take (i := 1) (v := ?v20) (d := (some 4)) rfl rfl (by kernel_rfl) (by kernel_rfl) (by kernel_rfl) (fun _ _ _ h => h) (Or.inl ⟨by rfl, ?hy20⟩) hHeld ?rest20
      case hy20 => (intro w hSw; (try dsimp only at hSw); go_simp; (try with_reducible rfl))
      try simp only [Act.put, List.setIfInBounds_toArray, List.set_cons_zero, List.set_cons_succ]
      refine wpAnyH_ready (rs := [2]) (by kernel_rfl) (by simp) ?_
      refine AllReadyH.cons rfl (fun K hK => ?_) AllReadyH.nil
      go_simp
      (go_at_call 16; ((with_reducible refine (KR.out _).mono ?_); rintro e w3 ⟨rfl, hb3⟩; have HB3 := Lib.hid (below_drewd hb3); clear hb3))
      refine hK.out _ _ ?_ (fun hHeld => ?_)
      · (first | exact HLD.out _ (below_own_drew _) | exact HLD.out _ HB5.out | exact HLD.out _ HB4.out | exact HLD.out _ HB3.out)
      clear hK K
      try simp only [Act.put, List.setIfInBounds_toArray, List.set_cons_zero, List.set_cons_succ]
      refine Gw.gw_take (i := 3) (v := ?v21) (d := (some 6)) rfl rfl (by kernel_rfl) (by kernel_rfl) (by kernel_rfl) (fun _ _ _ h => h) (Or.inl ⟨by rfl, ?hy21⟩) hHeld ?rest21
      case hy21 => (intro w hSw; (try dsimp only at hSw); go_simp; (try with_reducible rfl))
      try simp only [Act.put, List.setIfInBounds_toArray, List.set_cons_zero, List.set_cons_succ]
      refine Gw.gw_take (i := 4) (v := ?v22) (d := (some 7)) rfl rfl (by kernel_rfl) (by kernel_rfl) (by kernel_rfl) (fun _ _ _ h => h) (Or.inl ⟨by rfl, ?hy22⟩) hHeld ?rest22
      case hy22 => (intro w hSw; (try dsimp only at hSw); go_simp; (try with_reducible rfl))
      try simp only [Act.put, List.setIfInBounds_toArray, List.set_cons_zero, List.set_cons_succ]
      refine Gw.gw_take (i := 5) (v := ?v23) (d := (some 8)) rfl rfl (by kernel_rfl) (by kernel_rfl) (by kernel_rfl) (fun _ _ _ h => h) (Or.inl ⟨by rfl, ?hy23⟩) hHeld ?rest23
      case hy23 => (intro w hSw; (try dsimp only at hSw); go_simp; (try with_reducible rfl))
      try simp only [Act.put, List.setIfInBounds_toArray, List.set_cons_zero, List.set_cons_succ]
      refine Gw.gw_take (i := 6) (v := ?v24) (d := (some 9)) rfl rfl (by kernel_rfl) (by kernel_rfl) (by kernel_rfl) (fun _ _ _ h => h) (Or.inl ⟨by rfl, ?hy24⟩) hHeld ?rest24
      case hy24 => (intro w hSw; (try dsimp only at hSw); go_simp; (try with_reducible rfl))
      try simp only [Act.put, List.setIfInBounds_toArray, List.set_cons_zero, List.set_cons_succ]
      refine Gw.gw_take (i := 7) (v := ?v25) (d := (some 10)) rfl rfl (by kernel_rfl) (by kernel_rfl) (by kernel_rfl) (fun _ _ _ h => h) (Or.inl ⟨by rfl, ?hy25⟩) hHeld ?rest25
      case hy25 => (intro w hSw; (try dsimp only at hSw); go_simp; (try with_reducible rfl))
      try simp only [Act.put, List.setIfInBounds_toArray, List.set_cons_zero, List.set_cons_succ]
      refine wpAnyH_ready (rs := [8]) (by kernel_rfl) (by simp) ?_
      refine AllReadyH.cons rfl (fun K hK => ?_) AllReadyH.nil
      go_simp
      (go_at_call 108; ((with_reducible refine (KF.out _).mono ?_); rintro e w4 ⟨rfl, hb4⟩; have HB4 := Lib.hid (HB3.out.trans (hb4.mono HB3.out.size)); clear hb4))
      refine hK.out _ _ ?_ (fun hHeld => ?_)
      · (first | exact HLD.out _ (below_own_drew _) | exact HLD.out _ HB5.out | exact HLD.out _ HB4.out | exact HLD.out _ HB3.out)
      clear hK K
      try simp only [Act.put, List.setIfInBounds_toArray, List.set_cons_zero, List.set_cons_succ]
      refine Gw.gw_take (i := 9) (v := ?v26) (d := (some 12)) rfl rfl (by kernel_rfl) (by kernel_rfl) (by kernel_rfl) (fun _ _ _ h => h) (Or.inl ⟨by rfl, ?hy26⟩) hHeld ?rest26
      case hy26 => (intro w hSw; (try dsimp only at hSw); go_simp; (try with_reducible rfl))
      try simp only [Act.put, List.setIfInBounds_toArray, List.set_cons_zero, List.set_cons_succ]
      refine Gw.gw_take (i := 10) (v := ?v27) (d := (some 13)) rfl rfl (by kernel_rfl) (by kernel_rfl) (by kernel_rfl) (fun _ _ _ h => h) (Or.inl ⟨by rfl, ?hy27⟩) hHeld ?rest27
      case hy27 => (intro w hSw; (try dsimp only at hSw); go_simp; (try with_reducible rfl))
      try simp only [Act.put, List.setIfInBounds_toArray, List.set_cons_zero, List.set_cons_succ]
      refine Gw.gw_take (i := 11) (v := ?v28) (d := (some 14)) rfl rfl (by kernel_rfl) (by kernel_rfl) (by kernel_rfl) (fun _ _ _ h => h) (Or.inl ⟨by rfl, ?hy28⟩) hHeld ?rest28
      case hy28 => (intro w hSw; (try dsimp only at hSw); go_simp; (try with_reducible rfl))
      try simp only [Act.put, List.setIfInBounds_toArray, List.set_cons_zero, List.set_cons_succ]
      refine Gw.gw_take (i := 12) (v := ?v29) (d := (some 15)) rfl rfl (by kernel_rfl) (by kernel_rfl) (by kernel_rfl) (fun _ _ _ h => h) (Or.inl ⟨by rfl, ?hy29⟩) hHeld ?rest29
      case hy29 => (intro w hSw; (try dsimp only at hSw); go_simp; (try with_reducible rfl))
      try simp only [Act.put, List.setIfInBounds_toArray, List.set_cons_zero, List.set_cons_succ]
      refine Gw.gw_take (i := 13) (v := ?v30) (d := (some 16)) rfl rfl (by kernel_rfl) (by kernel_rfl) (by kernel_rfl) (fun _ _ _ h => h) (Or.inl ⟨by rfl, ?hy30⟩) hHeld ?rest30
      case hy30 => (intro w hSw; (try dsimp only at hSw); go_simp; (try with_reducible rfl))
      try simp only [Act.put, List.setIfInBounds_toArray, List.set_cons_zero, List.set_cons_succ]
      refine Gw.gw_take (i := 14) (v := ?v31) (d := (some 17)) rfl rfl (by kernel_rfl) (by kernel_rfl) (by kernel_rfl) (fun _ _ _ h => h) (Or.inl ⟨by rfl, ?hy31⟩) hHeld ?rest31
      case hy31 => (intro w hSw; (try dsimp only at hSw); go_simp; (try with_reducible rfl))
      try simp only [Act.put, List.setIfInBounds_toArray, List.set_cons_zero, List.set_cons_succ]
      refine Gw.gw_take (i := 16) (v := ?v32) (d := (some 19)) rfl rfl (by kernel_rfl) (by kernel_rfl) (by kernel_rfl) (fun _ _ _ h => h) (Or.inl ⟨by rfl, ?hy32⟩) hHeld ?rest32
      case hy32 => (intro w hSw; (try dsimp only at hSw); go_simp; (try with_reducible rfl))
      try simp only [Act.put, List.setIfInBounds_toArray, List.set_cons_zero, List.set_cons_succ]
      refine Gw.gw_take (i := 17) (v := ?v33) (d := (some 20)) rfl rfl (by kernel_rfl) (by kernel_rfl) (by kernel_rfl) (fun _ _ _ h => h) (Or.inl ⟨by rfl, ?hy33⟩) hHeld ?rest33
      case hy33 => (intro w hSw; (try dsimp only at hSw); go_simp; (try with_reducible rfl))
      try simp only [Act.put, List.setIfInBounds_toArray, List.set_cons_zero, List.set_cons_succ]
      refine wpAnyH_ready (rs := [15]) (by kernel_rfl) (by simp) ?_
      refine AllReadyH.cons rfl (fun K hK => ?_) AllReadyH.nil
      go_simp
      (go_at_call 109; ((with_reducible refine (KC1.out _).mono ?_); rintro e w5 ⟨rfl, hb5⟩; have HB5 := Lib.hid (HB4.out.trans (hb5.mono HB4.out.size)); clear hb5))
      refine hK.out _ _ ?_ (fun hHeld => ?_)
      · (first | exact HLD.out _ (below_own_drew _) | exact HLD.out _ HB5.out | exact HLD.out _ HB4.out | exact HLD.out _ HB3.out)
      clear hK K
      try simp only [Act.put, List.setIfInBounds_toArray, List.set_cons_zero, List.set_cons_succ]
      refine Gw.gw_take (i := 18) (v := ?v34) (d := (some 21)) rfl rfl (by kernel_rfl) (by kernel_rfl) (by kernel_rfl) (fun _ _ _ h => h) (Or.inl ⟨by rfl, ?hy34⟩) hHeld ?rest34
      case hy34 => (intro w hSw; (try dsimp only at hSw); go_simp; (try with_reducible rfl))
      try simp only [Act.put, List.setIfInBounds_toArray, List.set_cons_zero, List.set_cons_succ]
      refine Gw.gw_take (i := 19) (v := ?v35) (d := (some 22)) rfl rfl (by kernel_rfl) (by kernel_rfl) (by kernel_rfl) (fun _ _ _ h => h) (Or.inl ⟨by rfl, ?hy35⟩) hHeld ?rest35
      case hy35 => (intro w hSw; (try dsimp only at hSw); go_simp; (try with_reducible rfl))
      try simp only [Act.put, List.setIfInBounds_toArray, List.set_cons_zero, List.set_cons_succ]
      refine Gw.gw_take (i := 20) (v := ?v36) (d := (some 2)) rfl rfl (by kernel_rfl) (by kernel_rfl) (by kernel_rfl) (fun _ _ _ h => h) (Or.inl ⟨by rfl, ?hy36⟩) hHeld ?rest36
      case hy36 => (intro w hSw; (try dsimp only at hSw); go_simp; (try with_reducible rfl))
      try simp only [Act.put, List.setIfInBounds_toArray, List.set_cons_zero, List.set_cons_succ]
      refine wpAnyH_done (by kernel_rfl) ?_ _
      go_wp2
      go_ret
      exact ⟨by (first | rfl | simp), HBD.out _ HB5.out⟩
/-- Does an address begin so? -/
def containsC (six : Bool) (b : List UInt8) (n : Int) (s2 : Bool) (c : List UInt8) : Bool := rightC six b n && (rightA s2 c && ((s2 == six) && decide (cutL c n.toNat = b)))
theorem cd2_of (six : Bool) (b : List UInt8) (n : Int) (hb : b.length = 16) (s2 : Bool) (c : List UInt8) (hc : c.length = 16) (w W : World) (h : Below ((w.alloc (.cells (ptA six b n) 74)).alloc (.cells (adA s2 c) 24)).heap.size ((w.alloc (.cells (ptA six b n) 74)).alloc (.cells (adA s2 c) 24)) W) :
    (loadCells ⟨w.heap.size, 0, none⟩ 17).run Tryz.prog W = .ok (adA six b) W ∧ (loadCells ⟨w.heap.size, 0, none⟩ 18).run Tryz.prog W = .ok (ptA six b n) W ∧ W.cell? ⟨w.heap.size, 17, none⟩ = some (.int .i64 n) ∧ W.cell? ⟨w.heap.size, 0, none⟩ = some (.bool six) ∧ (loadCells ⟨w.heap.size + 1, 0, none⟩ 17).run Tryz.prog W = .ok (adA s2 c) W ∧ W.cell? ⟨w.heap.size + 1, 0, none⟩ = some (.bool s2) := by
  have h1 := below_allocd h
  obtain ⟨l1, l2, l3⟩ := cdL_of six b n hb w W h1
  have l4 := cell_box w W (adCells six b ++ [Value.int .i64 n]) 74 h1 0 (.bool six) (by unfold adCells; rfl)
  have l5 := load_ad s2 c hc (w.alloc (.cells (ptA six b n) 74)) W h
  have l6 := cell_six (w.alloc (.cells (ptA six b n) 74)) W s2 c 24 h
  rw [World.size_alloc] at l5 l6
  exact ⟨l1, l2, l3, l4, l5, l6⟩
set_option maxHeartbeats 8000000 in
theorem ccontains_calls (six : Bool) (b : List UInt8) (hb : b.length = 16) (n : Int) (s2 : Bool) (c : List UInt8) (hc : c.length = 16) (w : World) :
    Calls Tryz.prog 62 #[ptV six b n, adV s2 c] w fun e w' => e = .returned (.bool (containsC six b n s2 c)) ∧ Below w.heap.size w w' := by
  have HLD := Lib.hid (fun W h => cd2_of six b n hb s2 c hc w W h)
  have HBD : Hid (∀ W, Below ((w.alloc (.cells (ptA six b n) 74)).alloc (.cells (adA s2 c) 24)).heap.size ((w.alloc (.cells (ptA six b n) 74)).alloc (.cells (adA s2 c) 24)) W → Below w.heap.size w W) := Lib.hid (fun W h => below_allocd (below_allocd h))
  have KR : Hid (∀ W, Calls Tryz.prog 58 #[.agg (ptA six b n)] W fun e w' => e = .returned (.bool (rightC six b n)) ∧ Below W.heap.size W w') := Lib.hid (fun W => cright_calls six b hb n W)
  have KA : Hid (∀ W, Calls Tryz.prog 16 #[.agg (adA s2 c)] W fun e w' => e = .returned (.bool (rightA s2 c)) ∧ Below W.heap.size W w') := Lib.hid (fun W => right_calls' s2 c hc W)
  have KC : Hid (rightC six b n = true → ∀ W, Calls Tryz.prog 109 #[.agg (adA s2 c), .int .i64 n] W fun e w' => e = .returned (.agg (adA s2 (cutL c n.toNat))) ∧ Below W.heap.size W w') := Lib.hid (fun h W => by
    unfold rightC at h
    rw [Bool.and_eq_true, Bool.and_eq_true, Bool.and_eq_true, decide_eq_true_iff, decide_eq_true_iff] at h
    have h2 := width_le six
    have h := cut3_calls s2 c hc n.toNat (by omega) W
    rw [show ((n.toNat : Nat) : Int) = n by omega] at h
    exact h)
  have HQ : Hid (rightC six b n = true → ∀ W, (binOp .eql 24 (.agg (adA s2 (cutL c n.toNat))) (.agg (adA six b))).run Tryz.prog W = .ok (.bool (decide (s2 = six ∧ cutL c n.toNat = b))) W) := Lib.hid (fun _ W => (eq_addr2 s2 six (cutL c n.toNat) b (by rw [cutL_len]; exact hc) hb W).1)
  have hsz := ptA_size six b n hb
  have hsz2 := adA_size six b hb
  have hsz4 := adA_size s2 c hc
  have hsz3 := adA_size s2 (cutL c n.toNat) (by rw [cutL_len]; exact hc)
  have hl0 := (HLD.out _ (Below.refl _ _)).1
  show Calls Tryz.prog 62 #[.agg (ptA six b n), .agg (adA s2 c)] w fun e w' => e = .returned (.bool (containsC six b n s2 c)) ∧ Below w.heap.size w w'
  unfold containsC
  have hz : s2 = six → decide (s2 = six ∧ cutL c n.toNat = b) = decide (cutL c n.toNat = b) := fun h => by simp [h]
  generalize adA s2 (cutL c n.toNat) = ka at *
  generalize adA six b = ca at *
  generalize adA s2 c = da at *
  generalize ptA six b n = pa at *
  generalize rightC six b n = r at *
  generalize rightA s2 c = a2 at *
  cases r with
  | false =>
    rw [Bool.false_and]
    go_enter Tryz.func62, Tryz.ntmps62
    go_upto_region 1 with (fail)
    obtain ⟨W0, hW0⟩ : ∃ W0, W0 = (w.alloc (.cells pa 74)).alloc (.cells da 24) := ⟨_, rfl⟩
    rw [← hW0] at HLD HBD hl0 ⊢
    clear hW0
    refine wp_region_held_drew (S := (fun W : World => (loadCells ⟨w.heap.size, 0, none⟩ 17).run Tryz.prog W = .ok ca W ∧ (loadCells ⟨w.heap.size, 0, none⟩ 18).run Tryz.prog W = .ok pa W ∧ W.cell? ⟨w.heap.size, 17, none⟩ = some (.int .i64 n) ∧ W.cell? ⟨w.heap.size, 0, none⟩ = some (.bool six) ∧ (loadCells ⟨w.heap.size + 1, 0, none⟩ 17).run Tryz.prog W = .ok da W ∧ W.cell? ⟨w.heap.size + 1, 0, none⟩ = some (.bool s2))) (by kernel_rfl) ?_ (fun hHeld => ?_)
    · (first | exact HLD.out _ (below_own_drew _) | exact HLD.out _ HB5.out | exact HLD.out _ HB4.out | exact HLD.out _ HB3.out)
    refine Gw.gw_take (i := 0) (v := ?v37) (d := (some 5)) rfl rfl (by kernel_rfl) (by kernel_rfl) (by kernel_rfl) (fun _ _ _ h => h) (Or.inl ⟨by rfl, ?hy37⟩) hHeld ?rest37
    case hy37 => (intro w hSw; (try dsimp only at hSw); go_simp; (try with_reducible rfl))
    try simp only [Act.put, List.setIfInBounds_toArray, List.set_cons_zero, List.set_cons_succ]
    refine wpAnyH_ready (rs := [1]) (by kernel_rfl) (by simp) ?_
    refine AllReadyH.cons rfl (fun K hK => ?_) AllReadyH.nil
    go_simp
    (go_at_call 58; ((with_reducible refine (KR.out _).mono ?_); rintro e w3 ⟨rfl, hb3⟩; have HB3 := Lib.hid (below_drewd hb3); clear hb3))
    refine hK.out _ _ ?_ (fun hHeld => ?_)
    · (first | exact HLD.out _ (below_own_drew _) | exact HLD.out _ HB5.out | exact HLD.out _ HB4.out | exact HLD.out _ HB3.out)
    clear hK K
    try simp only [Act.put, List.setIfInBounds_toArray, List.set_cons_zero, List.set_cons_succ]
    refine Gw.gw_take (i := 2) (v := ?v38) (d := (some 7)) rfl rfl (by kernel_rfl) (by kernel_rfl) (by kernel_rfl) (fun _ _ _ h => h) (Or.inl ⟨by rfl, ?hy38⟩) hHeld ?rest38
    case hy38 => (intro w hSw; (try dsimp only at hSw); go_simp; (try with_reducible rfl))
    try simp only [Act.put, List.setIfInBounds_toArray, List.set_cons_zero, List.set_cons_succ]
    refine Gw.gw_take (i := 3) (v := undef) (d := (some 8)) rfl rfl (by kernel_rfl) (by kernel_rfl) (by kernel_rfl) (fun _ _ _ h => h) (Or.inr ⟨by rfl, rfl⟩) hHeld ?_
    try simp only [Act.put, List.setIfInBounds_toArray, List.set_cons_zero, List.set_cons_succ]
    refine Gw.gw_take (i := 4) (v := undef) (d := (some 9)) rfl rfl (by kernel_rfl) (by kernel_rfl) (by kernel_rfl) (fun _ _ _ h => h) (Or.inr ⟨by rfl, rfl⟩) hHeld ?_
    try simp only [Act.put, List.setIfInBounds_toArray, List.set_cons_zero, List.set_cons_succ]
    refine Gw.gw_take (i := 5) (v := ?v39) (d := (some 10)) rfl rfl (by kernel_rfl) (by kernel_rfl) (by kernel_rfl) (fun _ _ _ h => h) (Or.inl ⟨by rfl, ?hy39⟩) hHeld ?rest39
    case hy39 => (intro w hSw; (try dsimp only at hSw); go_simp; (try with_reducible rfl))
    try simp only [Act.put, List.setIfInBounds_toArray, List.set_cons_zero, List.set_cons_succ]
    refine Gw.gw_take (i := 6) (v := ?v40) (d := (some 11)) rfl rfl (by kernel_rfl) (by kernel_rfl) (by kernel_rfl) (fun _ _ _ h => h) (Or.inl ⟨by rfl, ?hy40⟩) hHeld ?rest40
    case hy40 => (intro w hSw; (try dsimp only at hSw); go_simp; (try with_reducible rfl))
    try simp only [Act.put, List.setIfInBounds_toArray, List.set_cons_zero, List.set_cons_succ]
    refine Gw.gw_take (i := 7) (v := undef) (d := (some 12)) rfl rfl (by kernel_rfl) (by kernel_rfl) (by kernel_rfl) (fun _ _ _ h => h) (Or.inr ⟨by rfl, rfl⟩) hHeld ?_
    try simp only [Act.put, List.setIfInBounds_toArray, List.set_cons_zero, List.set_cons_succ]
    refine Gw.gw_take (i := 8) (v := undef) (d := (some 13)) rfl rfl (by kernel_rfl) (by kernel_rfl) (by kernel_rfl) (fun _ _ _ h => h) (Or.inr ⟨by rfl, rfl⟩) hHeld ?_
    try simp only [Act.put, List.setIfInBounds_toArray, List.set_cons_zero, List.set_cons_succ]
    refine Gw.gw_take (i := 9) (v := undef) (d := (some 14)) rfl rfl (by kernel_rfl) (by kernel_rfl) (by kernel_rfl) (fun _ _ _ h => h) (Or.inr ⟨by rfl, rfl⟩) hHeld ?_
    try simp only [Act.put, List.setIfInBounds_toArray, List.set_cons_zero, List.set_cons_succ]
    refine Gw.gw_take (i := 10) (v := undef) (d := (some 15)) rfl rfl (by kernel_rfl) (by kernel_rfl) (by kernel_rfl) (fun _ _ _ h => h) (Or.inr ⟨by rfl, rfl⟩) hHeld ?_
    try simp only [Act.put, List.setIfInBounds_toArray, List.set_cons_zero, List.set_cons_succ]
    refine Gw.gw_take (i := 11) (v := undef) (d := (some 16)) rfl rfl (by kernel_rfl) (by kernel_rfl) (by kernel_rfl) (fun _ _ _ h => h) (Or.inr ⟨by rfl, rfl⟩) hHeld ?_
    try simp only [Act.put, List.setIfInBounds_toArray, List.set_cons_zero, List.set_cons_succ]
    refine Gw.gw_take (i := 12) (v := undef) (d := (some 17)) rfl rfl (by kernel_rfl) (by kernel_rfl) (by kernel_rfl) (fun _ _ _ h => h) (Or.inr ⟨by rfl, rfl⟩) hHeld ?_
    try simp only [Act.put, List.setIfInBounds_toArray, List.set_cons_zero, List.set_cons_succ]
    refine Gw.gw_take (i := 13) (v := ?v41) (d := (some 18)) rfl rfl (by kernel_rfl) (by kernel_rfl) (by kernel_rfl) (fun _ _ _ h => h) (Or.inl ⟨by rfl, ?hy41⟩) hHeld ?rest41
    case hy41 => (intro w hSw; (try dsimp only at hSw); go_simp; (try with_reducible rfl))
    try simp only [Act.put, List.setIfInBounds_toArray, List.set_cons_zero, List.set_cons_succ]
    refine Gw.gw_take (i := 14) (v := ?v42) (d := (some 19)) rfl rfl (by kernel_rfl) (by kernel_rfl) (by kernel_rfl) (fun _ _ _ h => h) (Or.inl ⟨by rfl, ?hy42⟩) hHeld ?rest42
    case hy42 => (intro w hSw; (try dsimp only at hSw); go_simp; (try with_reducible rfl))
    try simp only [Act.put, List.setIfInBounds_toArray, List.set_cons_zero, List.set_cons_succ]
    refine Gw.gw_take (i := 15) (v := undef) (d := (some 20)) rfl rfl (by kernel_rfl) (by kernel_rfl) (by kernel_rfl) (fun _ _ _ h => h) (Or.inr ⟨by rfl, rfl⟩) hHeld ?_
    try simp only [Act.put, List.setIfInBounds_toArray, List.set_cons_zero, List.set_cons_succ]
    refine Gw.gw_take (i := 16) (v := undef) (d := (some 21)) rfl rfl (by kernel_rfl) (by kernel_rfl) (by kernel_rfl) (fun _ _ _ h => h) (Or.inr ⟨by rfl, rfl⟩) hHeld ?_
    try simp only [Act.put, List.setIfInBounds_toArray, List.set_cons_zero, List.set_cons_succ]
    refine Gw.gw_take (i := 17) (v := undef) (d := (some 22)) rfl rfl (by kernel_rfl) (by kernel_rfl) (by kernel_rfl) (fun _ _ _ h => h) (Or.inr ⟨by rfl, rfl⟩) hHeld ?_
    try simp only [Act.put, List.setIfInBounds_toArray, List.set_cons_zero, List.set_cons_succ]
    refine Gw.gw_take (i := 18) (v := undef) (d := (some 23)) rfl rfl (by kernel_rfl) (by kernel_rfl) (by kernel_rfl) (fun _ _ _ h => h) (Or.inr ⟨by rfl, rfl⟩) hHeld ?_
    try simp only [Act.put, List.setIfInBounds_toArray, List.set_cons_zero, List.set_cons_succ]
    refine Gw.gw_take (i := 19) (v := undef) (d := (some 24)) rfl rfl (by kernel_rfl) (by kernel_rfl) (by kernel_rfl) (fun _ _ _ h => h) (Or.inr ⟨by rfl, rfl⟩) hHeld ?_
    try simp only [Act.put, List.setIfInBounds_toArray, List.set_cons_zero, List.set_cons_succ]
    refine Gw.gw_take (i := 20) (v := undef) (d := (some 25)) rfl rfl (by kernel_rfl) (by kernel_rfl) (by kernel_rfl) (fun _ _ _ h => h) (Or.inr ⟨by rfl, rfl⟩) hHeld ?_
    try simp only [Act.put, List.setIfInBounds_toArray, List.set_cons_zero, List.set_cons_succ]
    refine Gw.gw_take (i := 21) (v := undef) (d := (some 26)) rfl rfl (by kernel_rfl) (by kernel_rfl) (by kernel_rfl) (fun _ _ _ h => h) (Or.inr ⟨by rfl, rfl⟩) hHeld ?_
    try simp only [Act.put, List.setIfInBounds_toArray, List.set_cons_zero, List.set_cons_succ]
    refine Gw.gw_take (i := 22) (v := ?v43) (d := (some 27)) rfl rfl (by kernel_rfl) (by kernel_rfl) (by kernel_rfl) (fun _ _ _ h => h) (Or.inl ⟨by rfl, ?hy43⟩) hHeld ?rest43
    case hy43 => (intro w hSw; (try dsimp only at hSw); go_simp; (try with_reducible rfl))
    try simp only [Act.put, List.setIfInBounds_toArray, List.set_cons_zero, List.set_cons_succ]
    refine Gw.gw_take (i := 23) (v := ?v44) (d := (some 4)) rfl rfl (by kernel_rfl) (by kernel_rfl) (by kernel_rfl) (fun _ _ _ h => h) (Or.inl ⟨by rfl, ?hy44⟩) hHeld ?rest44
    case hy44 => (intro w hSw; (try dsimp only at hSw); go_simp; (try with_reducible rfl))
    try simp only [Act.put, List.setIfInBounds_toArray, List.set_cons_zero, List.set_cons_succ]
    refine wpAnyH_done (by kernel_rfl) ?_ _
    go_wp2
    go_ret
    exact ⟨by (first | rfl | simp), HBD.out _ HB3.out⟩
  | true =>
    rw [Bool.true_and]
    cases a2 with
    | false =>
      rw [Bool.false_and]
      go_enter Tryz.func62, Tryz.ntmps62
      go_upto_region 1 with (fail)
      obtain ⟨W0, hW0⟩ : ∃ W0, W0 = (w.alloc (.cells pa 74)).alloc (.cells da 24) := ⟨_, rfl⟩
      rw [← hW0] at HLD HBD hl0 ⊢
      clear hW0
      refine wp_region_held_drew (S := (fun W : World => (loadCells ⟨w.heap.size, 0, none⟩ 17).run Tryz.prog W = .ok ca W ∧ (loadCells ⟨w.heap.size, 0, none⟩ 18).run Tryz.prog W = .ok pa W ∧ W.cell? ⟨w.heap.size, 17, none⟩ = some (.int .i64 n) ∧ W.cell? ⟨w.heap.size, 0, none⟩ = some (.bool six) ∧ (loadCells ⟨w.heap.size + 1, 0, none⟩ 17).run Tryz.prog W = .ok da W ∧ W.cell? ⟨w.heap.size + 1, 0, none⟩ = some (.bool s2))) (by kernel_rfl) ?_ (fun hHeld => ?_)
      · (first | exact HLD.out _ (below_own_drew _) | exact HLD.out _ HB5.out | exact HLD.out _ HB4.out | exact HLD.out _ HB3.out)
      refine Gw.gw_take (i := 0) (v := ?v45) (d := (some 5)) rfl rfl (by kernel_rfl) (by kernel_rfl) (by kernel_rfl) (fun _ _ _ h => h) (Or.inl ⟨by rfl, ?hy45⟩) hHeld ?rest45
      case hy45 => (intro w hSw; (try dsimp only at hSw); go_simp; (try with_reducible rfl))
      try simp only [Act.put, List.setIfInBounds_toArray, List.set_cons_zero, List.set_cons_succ]
      refine wpAnyH_ready (rs := [1]) (by kernel_rfl) (by simp) ?_
      refine AllReadyH.cons rfl (fun K hK => ?_) AllReadyH.nil
      go_simp
      (go_at_call 58; ((with_reducible refine (KR.out _).mono ?_); rintro e w3 ⟨rfl, hb3⟩; have HB3 := Lib.hid (below_drewd hb3); clear hb3))
      refine hK.out _ _ ?_ (fun hHeld => ?_)
      · (first | exact HLD.out _ (below_own_drew _) | exact HLD.out _ HB5.out | exact HLD.out _ HB4.out | exact HLD.out _ HB3.out)
      clear hK K
      try simp only [Act.put, List.setIfInBounds_toArray, List.set_cons_zero, List.set_cons_succ]
      refine Gw.gw_take (i := 2) (v := ?v46) (d := (some 7)) rfl rfl (by kernel_rfl) (by kernel_rfl) (by kernel_rfl) (fun _ _ _ h => h) (Or.inl ⟨by rfl, ?hy46⟩) hHeld ?rest46
      case hy46 => (intro w hSw; (try dsimp only at hSw); go_simp; (try with_reducible rfl))
      try simp only [Act.put, List.setIfInBounds_toArray, List.set_cons_zero, List.set_cons_succ]
      refine Gw.gw_take (i := 3) (v := ?v47) (d := (some 8)) rfl rfl (by kernel_rfl) (by kernel_rfl) (by kernel_rfl) (fun _ _ _ h => h) (Or.inl ⟨by rfl, ?hy47⟩) hHeld ?rest47
      case hy47 => (intro w hSw; (try dsimp only at hSw); go_simp; (try with_reducible rfl))
      try simp only [Act.put, List.setIfInBounds_toArray, List.set_cons_zero, List.set_cons_succ]
      refine wpAnyH_ready (rs := [4]) (by kernel_rfl) (by simp) ?_
      refine AllReadyH.cons rfl (fun K hK => ?_) AllReadyH.nil
      go_simp
      (go_at_call 16; ((with_reducible refine (KA.out _).mono ?_); rintro e w4 ⟨rfl, hb4⟩; have HB4 := Lib.hid (HB3.out.trans (hb4.mono HB3.out.size)); clear hb4))
      refine hK.out _ _ ?_ (fun hHeld => ?_)
      · (first | exact HLD.out _ (below_own_drew _) | exact HLD.out _ HB5.out | exact HLD.out _ HB4.out | exact HLD.out _ HB3.out)
      clear hK K
      try simp only [Act.put, List.setIfInBounds_toArray, List.set_cons_zero, List.set_cons_succ]
      refine Gw.gw_take (i := 5) (v := ?v48) (d := (some 10)) rfl rfl (by kernel_rfl) (by kernel_rfl) (by kernel_rfl) (fun _ _ _ h => h) (Or.inl ⟨by rfl, ?hy48⟩) hHeld ?rest48
      case hy48 => (intro w hSw; (try dsimp only at hSw); go_simp; (try with_reducible rfl))
      try simp only [Act.put, List.setIfInBounds_toArray, List.set_cons_zero, List.set_cons_succ]
      refine Gw.gw_take (i := 6) (v := ?v49) (d := (some 11)) rfl rfl (by kernel_rfl) (by kernel_rfl) (by kernel_rfl) (fun _ _ _ h => h) (Or.inl ⟨by rfl, ?hy49⟩) hHeld ?rest49
      case hy49 => (intro w hSw; (try dsimp only at hSw); go_simp; (try with_reducible rfl))
      try simp only [Act.put, List.setIfInBounds_toArray, List.set_cons_zero, List.set_cons_succ]
      refine Gw.gw_take (i := 7) (v := undef) (d := (some 12)) rfl rfl (by kernel_rfl) (by kernel_rfl) (by kernel_rfl) (fun _ _ _ h => h) (Or.inr ⟨by rfl, rfl⟩) hHeld ?_
      try simp only [Act.put, List.setIfInBounds_toArray, List.set_cons_zero, List.set_cons_succ]
      refine Gw.gw_take (i := 8) (v := undef) (d := (some 13)) rfl rfl (by kernel_rfl) (by kernel_rfl) (by kernel_rfl) (fun _ _ _ h => h) (Or.inr ⟨by rfl, rfl⟩) hHeld ?_
      try simp only [Act.put, List.setIfInBounds_toArray, List.set_cons_zero, List.set_cons_succ]
      refine Gw.gw_take (i := 9) (v := undef) (d := (some 14)) rfl rfl (by kernel_rfl) (by kernel_rfl) (by kernel_rfl) (fun _ _ _ h => h) (Or.inr ⟨by rfl, rfl⟩) hHeld ?_
      try simp only [Act.put, List.setIfInBounds_toArray, List.set_cons_zero, List.set_cons_succ]
      refine Gw.gw_take (i := 10) (v := undef) (d := (some 15)) rfl rfl (by kernel_rfl) (by kernel_rfl) (by kernel_rfl) (fun _ _ _ h => h) (Or.inr ⟨by rfl, rfl⟩) hHeld ?_
      try simp only [Act.put, List.setIfInBounds_toArray, List.set_cons_zero, List.set_cons_succ]
      refine Gw.gw_take (i := 11) (v := undef) (d := (some 16)) rfl rfl (by kernel_rfl) (by kernel_rfl) (by kernel_rfl) (fun _ _ _ h => h) (Or.inr ⟨by rfl, rfl⟩) hHeld ?_
      try simp only [Act.put, List.setIfInBounds_toArray, List.set_cons_zero, List.set_cons_succ]
      refine Gw.gw_take (i := 12) (v := undef) (d := (some 17)) rfl rfl (by kernel_rfl) (by kernel_rfl) (by kernel_rfl) (fun _ _ _ h => h) (Or.inr ⟨by rfl, rfl⟩) hHeld ?_
      try simp only [Act.put, List.setIfInBounds_toArray, List.set_cons_zero, List.set_cons_succ]
      refine Gw.gw_take (i := 13) (v := ?v50) (d := (some 18)) rfl rfl (by kernel_rfl) (by kernel_rfl) (by kernel_rfl) (fun _ _ _ h => h) (Or.inl ⟨by rfl, ?hy50⟩) hHeld ?rest50
      case hy50 => (intro w hSw; (try dsimp only at hSw); go_simp; (try with_reducible rfl))
      try simp only [Act.put, List.setIfInBounds_toArray, List.set_cons_zero, List.set_cons_succ]
      refine Gw.gw_take (i := 14) (v := ?v51) (d := (some 19)) rfl rfl (by kernel_rfl) (by kernel_rfl) (by kernel_rfl) (fun _ _ _ h => h) (Or.inl ⟨by rfl, ?hy51⟩) hHeld ?rest51
      case hy51 => (intro w hSw; (try dsimp only at hSw); go_simp; (try with_reducible rfl))
      try simp only [Act.put, List.setIfInBounds_toArray, List.set_cons_zero, List.set_cons_succ]
      refine Gw.gw_take (i := 15) (v := undef) (d := (some 20)) rfl rfl (by kernel_rfl) (by kernel_rfl) (by kernel_rfl) (fun _ _ _ h => h) (Or.inr ⟨by rfl, rfl⟩) hHeld ?_
      try simp only [Act.put, List.setIfInBounds_toArray, List.set_cons_zero, List.set_cons_succ]
      refine Gw.gw_take (i := 16) (v := undef) (d := (some 21)) rfl rfl (by kernel_rfl) (by kernel_rfl) (by kernel_rfl) (fun _ _ _ h => h) (Or.inr ⟨by rfl, rfl⟩) hHeld ?_
      try simp only [Act.put, List.setIfInBounds_toArray, List.set_cons_zero, List.set_cons_succ]
      refine Gw.gw_take (i := 17) (v := undef) (d := (some 22)) rfl rfl (by kernel_rfl) (by kernel_rfl) (by kernel_rfl) (fun _ _ _ h => h) (Or.inr ⟨by rfl, rfl⟩) hHeld ?_
      try simp only [Act.put, List.setIfInBounds_toArray, List.set_cons_zero, List.set_cons_succ]
      refine Gw.gw_take (i := 18) (v := undef) (d := (some 23)) rfl rfl (by kernel_rfl) (by kernel_rfl) (by kernel_rfl) (fun _ _ _ h => h) (Or.inr ⟨by rfl, rfl⟩) hHeld ?_
      try simp only [Act.put, List.setIfInBounds_toArray, List.set_cons_zero, List.set_cons_succ]
      refine Gw.gw_take (i := 19) (v := undef) (d := (some 24)) rfl rfl (by kernel_rfl) (by kernel_rfl) (by kernel_rfl) (fun _ _ _ h => h) (Or.inr ⟨by rfl, rfl⟩) hHeld ?_
      try simp only [Act.put, List.setIfInBounds_toArray, List.set_cons_zero, List.set_cons_succ]
      refine Gw.gw_take (i := 20) (v := undef) (d := (some 25)) rfl rfl (by kernel_rfl) (by kernel_rfl) (by kernel_rfl) (fun _ _ _ h => h) (Or.inr ⟨by rfl, rfl⟩) hHeld ?_
      try simp only [Act.put, List.setIfInBounds_toArray, List.set_cons_zero, List.set_cons_succ]
      refine Gw.gw_take (i := 21) (v := undef) (d := (some 26)) rfl rfl (by kernel_rfl) (by kernel_rfl) (by kernel_rfl) (fun _ _ _ h => h) (Or.inr ⟨by rfl, rfl⟩) hHeld ?_
      try simp only [Act.put, List.setIfInBounds_toArray, List.set_cons_zero, List.set_cons_succ]
      refine Gw.gw_take (i := 22) (v := ?v52) (d := (some 27)) rfl rfl (by kernel_rfl) (by kernel_rfl) (by kernel_rfl) (fun _ _ _ h => h) (Or.inl ⟨by rfl, ?hy52⟩) hHeld ?rest52
      case hy52 => (intro w hSw; (try dsimp only at hSw); go_simp; (try with_reducible rfl))
      try simp only [Act.put, List.setIfInBounds_toArray, List.set_cons_zero, List.set_cons_succ]
      refine Gw.gw_take (i := 23) (v := ?v53) (d := (some 4)) rfl rfl (by kernel_rfl) (by kernel_rfl) (by kernel_rfl) (fun _ _ _ h => h) (Or.inl ⟨by rfl, ?hy53⟩) hHeld ?rest53
      case hy53 => (intro w hSw; (try dsimp only at hSw); go_simp; (try with_reducible rfl))
      try simp only [Act.put, List.setIfInBounds_toArray, List.set_cons_zero, List.set_cons_succ]
      refine wpAnyH_done (by kernel_rfl) ?_ _
      go_wp2
      go_ret
      exact ⟨by (first | rfl | simp), HBD.out _ HB4.out⟩
    | true =>
      rw [Bool.true_and]
      by_cases hs : s2 = six
      · subst hs
        have KC1 := Lib.hid (KC.out rfl)
        have hq := HQ.out rfl
        clear KC HQ
        have hse : (s2 == s2) = true := by simp
        rw [hse, Bool.true_and]
        go_enter Tryz.func62, Tryz.ntmps62
        go_upto_region 1 with (fail)
        obtain ⟨W0, hW0⟩ : ∃ W0, W0 = (w.alloc (.cells pa 74)).alloc (.cells da 24) := ⟨_, rfl⟩
        rw [← hW0] at HLD HBD hl0 ⊢
        clear hW0
        refine wp_region_held_drew (S := (fun W : World => (loadCells ⟨w.heap.size, 0, none⟩ 17).run Tryz.prog W = .ok ca W ∧ (loadCells ⟨w.heap.size, 0, none⟩ 18).run Tryz.prog W = .ok pa W ∧ W.cell? ⟨w.heap.size, 17, none⟩ = some (.int .i64 n) ∧ W.cell? ⟨w.heap.size, 0, none⟩ = some (.bool s2) ∧ (loadCells ⟨w.heap.size + 1, 0, none⟩ 17).run Tryz.prog W = .ok da W ∧ W.cell? ⟨w.heap.size + 1, 0, none⟩ = some (.bool s2))) (by kernel_rfl) ?_ (fun hHeld => ?_)
        · (first | exact HLD.out _ (below_own_drew _) | exact HLD.out _ HB5.out | exact HLD.out _ HB4.out | exact HLD.out _ HB3.out)
        refine Gw.gw_take (i := 0) (v := ?v54) (d := (some 5)) rfl rfl (by kernel_rfl) (by kernel_rfl) (by kernel_rfl) (fun _ _ _ h => h) (Or.inl ⟨by rfl, ?hy54⟩) hHeld ?rest54
        case hy54 => (intro w hSw; (try dsimp only at hSw); go_simp; (try with_reducible rfl))
        try simp only [Act.put, List.setIfInBounds_toArray, List.set_cons_zero, List.set_cons_succ]
        refine wpAnyH_ready (rs := [1]) (by kernel_rfl) (by simp) ?_
        refine AllReadyH.cons rfl (fun K hK => ?_) AllReadyH.nil
        go_simp
        (go_at_call 58; ((with_reducible refine (KR.out _).mono ?_); rintro e w3 ⟨rfl, hb3⟩; have HB3 := Lib.hid (below_drewd hb3); clear hb3))
        refine hK.out _ _ ?_ (fun hHeld => ?_)
        · (first | exact HLD.out _ (below_own_drew _) | exact HLD.out _ HB5.out | exact HLD.out _ HB4.out | exact HLD.out _ HB3.out)
        clear hK K
        try simp only [Act.put, List.setIfInBounds_toArray, List.set_cons_zero, List.set_cons_succ]
        refine Gw.gw_take (i := 2) (v := ?v55) (d := (some 7)) rfl rfl (by kernel_rfl) (by kernel_rfl) (by kernel_rfl) (fun _ _ _ h => h) (Or.inl ⟨by rfl, ?hy55⟩) hHeld ?rest55
        case hy55 => (intro w hSw; (try dsimp only at hSw); go_simp; (try with_reducible rfl))
        try simp only [Act.put, List.setIfInBounds_toArray, List.set_cons_zero, List.set_cons_succ]
        refine Gw.gw_take (i := 3) (v := ?v56) (d := (some 8)) rfl rfl (by kernel_rfl) (by kernel_rfl) (by kernel_rfl) (fun _ _ _ h => h) (Or.inl ⟨by rfl, ?hy56⟩) hHeld ?rest56
        case hy56 => (intro w hSw; (try dsimp only at hSw); go_simp; (try with_reducible rfl))
        try simp only [Act.put, List.setIfInBounds_toArray, List.set_cons_zero, List.set_cons_succ]
        refine wpAnyH_ready (rs := [4]) (by kernel_rfl) (by simp) ?_
        refine AllReadyH.cons rfl (fun K hK => ?_) AllReadyH.nil
        go_simp
        (go_at_call 16; ((with_reducible refine (KA.out _).mono ?_); rintro e w4 ⟨rfl, hb4⟩; have HB4 := Lib.hid (HB3.out.trans (hb4.mono HB3.out.size)); clear hb4))
        refine hK.out _ _ ?_ (fun hHeld => ?_)
        · (first | exact HLD.out _ (below_own_drew _) | exact HLD.out _ HB5.out | exact HLD.out _ HB4.out | exact HLD.out _ HB3.out)
        clear hK K
        try simp only [Act.put, List.setIfInBounds_toArray, List.set_cons_zero, List.set_cons_succ]
        refine Gw.gw_take (i := 5) (v := ?v57) (d := (some 10)) rfl rfl (by kernel_rfl) (by kernel_rfl) (by kernel_rfl) (fun _ _ _ h => h) (Or.inl ⟨by rfl, ?hy57⟩) hHeld ?rest57
        case hy57 => (intro w hSw; (try dsimp only at hSw); go_simp; (try with_reducible rfl))
        try simp only [Act.put, List.setIfInBounds_toArray, List.set_cons_zero, List.set_cons_succ]
        refine Gw.gw_take (i := 6) (v := ?v58) (d := (some 11)) rfl rfl (by kernel_rfl) (by kernel_rfl) (by kernel_rfl) (fun _ _ _ h => h) (Or.inl ⟨by rfl, ?hy58⟩) hHeld ?rest58
        case hy58 => (intro w hSw; (try dsimp only at hSw); go_simp; (try with_reducible rfl))
        try simp only [Act.put, List.setIfInBounds_toArray, List.set_cons_zero, List.set_cons_succ]
        refine Gw.gw_take (i := 7) (v := ?v59) (d := (some 12)) rfl rfl (by kernel_rfl) (by kernel_rfl) (by kernel_rfl) (fun _ _ _ h => h) (Or.inl ⟨by rfl, ?hy59⟩) hHeld ?rest59
        case hy59 => (intro w hSw; (try dsimp only at hSw); go_simp; (try with_reducible rfl))
        try simp only [Act.put, List.setIfInBounds_toArray, List.set_cons_zero, List.set_cons_succ]
        refine Gw.gw_take (i := 8) (v := ?v60) (d := (some 13)) rfl rfl (by kernel_rfl) (by kernel_rfl) (by kernel_rfl) (fun _ _ _ h => h) (Or.inl ⟨by rfl, ?hy60⟩) hHeld ?rest60
        case hy60 => (intro w hSw; (try dsimp only at hSw); go_simp; (try with_reducible rfl))
        try simp only [Act.put, List.setIfInBounds_toArray, List.set_cons_zero, List.set_cons_succ]
        refine Gw.gw_take (i := 9) (v := ?v61) (d := (some 14)) rfl rfl (by kernel_rfl) (by kernel_rfl) (by kernel_rfl) (fun _ _ _ h => h) (Or.inl ⟨by rfl, ?hy61⟩) hHeld ?rest61
        case hy61 => (intro w hSw; (try dsimp only at hSw); go_simp; (try with_reducible rfl))
        try simp only [Act.put, List.setIfInBounds_toArray, List.set_cons_zero, List.set_cons_succ]
        refine Gw.gw_take (i := 10) (v := ?v62) (d := (some 15)) rfl rfl (by kernel_rfl) (by kernel_rfl) (by kernel_rfl) (fun _ _ _ h => h) (Or.inl ⟨by rfl, ?hy62⟩) hHeld ?rest62
        case hy62 => (intro w hSw; (try dsimp only at hSw); go_simp; (try with_reducible rfl))
        try simp only [Act.put, List.setIfInBounds_toArray, List.set_cons_zero, List.set_cons_succ]
        refine Gw.gw_take (i := 11) (v := ?v63) (d := (some 16)) rfl rfl (by kernel_rfl) (by kernel_rfl) (by kernel_rfl) (fun _ _ _ h => h) (Or.inl ⟨by rfl, ?hy63⟩) hHeld ?rest63
        case hy63 => (intro w hSw; (try dsimp only at hSw); go_simp; (try with_reducible rfl))
        try simp only [Act.put, List.setIfInBounds_toArray, List.set_cons_zero, List.set_cons_succ]
        refine Gw.gw_take (i := 12) (v := ?v64) (d := (some 17)) rfl rfl (by kernel_rfl) (by kernel_rfl) (by kernel_rfl) (fun _ _ _ h => h) (Or.inl ⟨by rfl, ?hy64⟩) hHeld ?rest64
        case hy64 => (intro w hSw; (try dsimp only at hSw); go_simp; (try with_reducible rfl))
        try simp only [Act.put, List.setIfInBounds_toArray, List.set_cons_zero, List.set_cons_succ]
        refine Gw.gw_take (i := 13) (v := ?v65) (d := (some 18)) rfl rfl (by kernel_rfl) (by kernel_rfl) (by kernel_rfl) (fun _ _ _ h => h) (Or.inl ⟨by rfl, ?hy65⟩) hHeld ?rest65
        case hy65 => (intro w hSw; (try dsimp only at hSw); go_simp; (try with_reducible rfl))
        try simp only [Act.put, List.setIfInBounds_toArray, List.set_cons_zero, List.set_cons_succ]
        refine Gw.gw_take (i := 14) (v := ?v66) (d := (some 19)) rfl rfl (by kernel_rfl) (by kernel_rfl) (by kernel_rfl) (fun _ _ _ h => h) (Or.inl ⟨by rfl, ?hy66⟩) hHeld ?rest66
        case hy66 => (intro w hSw; (try dsimp only at hSw); go_simp; (try with_reducible rfl))
        try simp only [Act.put, List.setIfInBounds_toArray, List.set_cons_zero, List.set_cons_succ]
        refine Gw.gw_take (i := 15) (v := ?v67) (d := (some 20)) rfl rfl (by kernel_rfl) (by kernel_rfl) (by kernel_rfl) (fun _ _ _ h => h) (Or.inl ⟨by rfl, ?hy67⟩) hHeld ?rest67
        case hy67 => (intro w hSw; (try dsimp only at hSw); go_simp; (try with_reducible rfl))
        try simp only [Act.put, List.setIfInBounds_toArray, List.set_cons_zero, List.set_cons_succ]
        refine Gw.gw_take (i := 16) (v := ?v68) (d := (some 21)) rfl rfl (by kernel_rfl) (by kernel_rfl) (by kernel_rfl) (fun _ _ _ h => h) (Or.inl ⟨by rfl, ?hy68⟩) hHeld ?rest68
        case hy68 => (intro w hSw; (try dsimp only at hSw); go_simp; (try with_reducible rfl))
        try simp only [Act.put, List.setIfInBounds_toArray, List.set_cons_zero, List.set_cons_succ]
        refine Gw.gw_take (i := 17) (v := ?v69) (d := (some 22)) rfl rfl (by kernel_rfl) (by kernel_rfl) (by kernel_rfl) (fun _ _ _ h => h) (Or.inl ⟨by rfl, ?hy69⟩) hHeld ?rest69
        case hy69 => (intro w hSw; (try dsimp only at hSw); go_simp; (try with_reducible rfl))
        try simp only [Act.put, List.setIfInBounds_toArray, List.set_cons_zero, List.set_cons_succ]
        refine Gw.gw_take (i := 19) (v := ?v70) (d := (some 24)) rfl rfl (by kernel_rfl) (by kernel_rfl) (by kernel_rfl) (fun _ _ _ h => h) (Or.inl ⟨by rfl, ?hy70⟩) hHeld ?rest70
        case hy70 => (intro w hSw; (try dsimp only at hSw); go_simp; (try with_reducible rfl))
        try simp only [Act.put, List.setIfInBounds_toArray, List.set_cons_zero, List.set_cons_succ]
        refine Gw.gw_take (i := 20) (v := ?v71) (d := (some 25)) rfl rfl (by kernel_rfl) (by kernel_rfl) (by kernel_rfl) (fun _ _ _ h => h) (Or.inl ⟨by rfl, ?hy71⟩) hHeld ?rest71
        case hy71 => (intro w hSw; (try dsimp only at hSw); go_simp; (try with_reducible rfl))
        try simp only [Act.put, List.setIfInBounds_toArray, List.set_cons_zero, List.set_cons_succ]
        refine wpAnyH_ready (rs := [18]) (by kernel_rfl) (by simp) ?_
        refine AllReadyH.cons rfl (fun K hK => ?_) AllReadyH.nil
        go_simp
        (go_at_call 109; ((with_reducible refine (KC1.out _).mono ?_); rintro e w5 ⟨rfl, hb5⟩; have HB5 := Lib.hid (HB4.out.trans (hb5.mono HB4.out.size)); clear hb5))
        refine hK.out _ _ ?_ (fun hHeld => ?_)
        · (first | exact HLD.out _ (below_own_drew _) | exact HLD.out _ HB5.out | exact HLD.out _ HB4.out | exact HLD.out _ HB3.out)
        clear hK K
        try simp only [Act.put, List.setIfInBounds_toArray, List.set_cons_zero, List.set_cons_succ]
        refine Gw.gw_take (i := 21) (v := ?v72) (d := (some 26)) rfl rfl (by kernel_rfl) (by kernel_rfl) (by kernel_rfl) (fun _ _ _ h => h) (Or.inl ⟨by rfl, ?hy72⟩) hHeld ?rest72
        case hy72 => (intro w hSw; (try dsimp only at hSw); go_simp; (try with_reducible rfl))
        try simp only [Act.put, List.setIfInBounds_toArray, List.set_cons_zero, List.set_cons_succ]
        refine Gw.gw_take (i := 22) (v := ?v73) (d := (some 27)) rfl rfl (by kernel_rfl) (by kernel_rfl) (by kernel_rfl) (fun _ _ _ h => h) (Or.inl ⟨by rfl, ?hy73⟩) hHeld ?rest73
        case hy73 => (intro w hSw; (try dsimp only at hSw); go_simp; (try with_reducible rfl))
        try simp only [Act.put, List.setIfInBounds_toArray, List.set_cons_zero, List.set_cons_succ]
        refine Gw.gw_take (i := 23) (v := ?v74) (d := (some 4)) rfl rfl (by kernel_rfl) (by kernel_rfl) (by kernel_rfl) (fun _ _ _ h => h) (Or.inl ⟨by rfl, ?hy74⟩) hHeld ?rest74
        case hy74 => (intro w hSw; (try dsimp only at hSw); go_simp; (try with_reducible rfl))
        try simp only [Act.put, List.setIfInBounds_toArray, List.set_cons_zero, List.set_cons_succ]
        refine wpAnyH_done (by kernel_rfl) ?_ _
        go_wp2
        go_ret
        exact ⟨by (first | rfl | simp), HBD.out _ HB5.out⟩
      · have hse : (s2 == six) = false := beq_eq_false_iff_ne.mpr hs
        rw [hse, Bool.false_and]
        clear KC HQ
        go_enter Tryz.func62, Tryz.ntmps62
        go_upto_region 1 with (fail)
        obtain ⟨W0, hW0⟩ : ∃ W0, W0 = (w.alloc (.cells pa 74)).alloc (.cells da 24) := ⟨_, rfl⟩
        rw [← hW0] at HLD HBD hl0 ⊢
        clear hW0
        refine wp_region_held_drew (S := (fun W : World => (loadCells ⟨w.heap.size, 0, none⟩ 17).run Tryz.prog W = .ok ca W ∧ (loadCells ⟨w.heap.size, 0, none⟩ 18).run Tryz.prog W = .ok pa W ∧ W.cell? ⟨w.heap.size, 17, none⟩ = some (.int .i64 n) ∧ W.cell? ⟨w.heap.size, 0, none⟩ = some (.bool six) ∧ (loadCells ⟨w.heap.size + 1, 0, none⟩ 17).run Tryz.prog W = .ok da W ∧ W.cell? ⟨w.heap.size + 1, 0, none⟩ = some (.bool s2))) (by kernel_rfl) ?_ (fun hHeld => ?_)
        · (first | exact HLD.out _ (below_own_drew _) | exact HLD.out _ HB5.out | exact HLD.out _ HB4.out | exact HLD.out _ HB3.out)
        refine Gw.gw_take (i := 0) (v := ?v75) (d := (some 5)) rfl rfl (by kernel_rfl) (by kernel_rfl) (by kernel_rfl) (fun _ _ _ h => h) (Or.inl ⟨by rfl, ?hy75⟩) hHeld ?rest75
        case hy75 => (intro w hSw; (try dsimp only at hSw); go_simp; (try with_reducible rfl))
        try simp only [Act.put, List.setIfInBounds_toArray, List.set_cons_zero, List.set_cons_succ]
        refine wpAnyH_ready (rs := [1]) (by kernel_rfl) (by simp) ?_
        refine AllReadyH.cons rfl (fun K hK => ?_) AllReadyH.nil
        go_simp
        (go_at_call 58; ((with_reducible refine (KR.out _).mono ?_); rintro e w3 ⟨rfl, hb3⟩; have HB3 := Lib.hid (below_drewd hb3); clear hb3))
        refine hK.out _ _ ?_ (fun hHeld => ?_)
        · (first | exact HLD.out _ (below_own_drew _) | exact HLD.out _ HB5.out | exact HLD.out _ HB4.out | exact HLD.out _ HB3.out)
        clear hK K
        try simp only [Act.put, List.setIfInBounds_toArray, List.set_cons_zero, List.set_cons_succ]
        refine Gw.gw_take (i := 2) (v := ?v76) (d := (some 7)) rfl rfl (by kernel_rfl) (by kernel_rfl) (by kernel_rfl) (fun _ _ _ h => h) (Or.inl ⟨by rfl, ?hy76⟩) hHeld ?rest76
        case hy76 => (intro w hSw; (try dsimp only at hSw); go_simp; (try with_reducible rfl))
        try simp only [Act.put, List.setIfInBounds_toArray, List.set_cons_zero, List.set_cons_succ]
        refine Gw.gw_take (i := 3) (v := ?v77) (d := (some 8)) rfl rfl (by kernel_rfl) (by kernel_rfl) (by kernel_rfl) (fun _ _ _ h => h) (Or.inl ⟨by rfl, ?hy77⟩) hHeld ?rest77
        case hy77 => (intro w hSw; (try dsimp only at hSw); go_simp; (try with_reducible rfl))
        try simp only [Act.put, List.setIfInBounds_toArray, List.set_cons_zero, List.set_cons_succ]
        refine wpAnyH_ready (rs := [4]) (by kernel_rfl) (by simp) ?_
        refine AllReadyH.cons rfl (fun K hK => ?_) AllReadyH.nil
        go_simp
        (go_at_call 16; ((with_reducible refine (KA.out _).mono ?_); rintro e w4 ⟨rfl, hb4⟩; have HB4 := Lib.hid (HB3.out.trans (hb4.mono HB3.out.size)); clear hb4))
        refine hK.out _ _ ?_ (fun hHeld => ?_)
        · (first | exact HLD.out _ (below_own_drew _) | exact HLD.out _ HB5.out | exact HLD.out _ HB4.out | exact HLD.out _ HB3.out)
        clear hK K
        try simp only [Act.put, List.setIfInBounds_toArray, List.set_cons_zero, List.set_cons_succ]
        refine Gw.gw_take (i := 5) (v := ?v78) (d := (some 10)) rfl rfl (by kernel_rfl) (by kernel_rfl) (by kernel_rfl) (fun _ _ _ h => h) (Or.inl ⟨by rfl, ?hy78⟩) hHeld ?rest78
        case hy78 => (intro w hSw; (try dsimp only at hSw); go_simp; (try with_reducible rfl))
        try simp only [Act.put, List.setIfInBounds_toArray, List.set_cons_zero, List.set_cons_succ]
        refine Gw.gw_take (i := 6) (v := ?v79) (d := (some 11)) rfl rfl (by kernel_rfl) (by kernel_rfl) (by kernel_rfl) (fun _ _ _ h => h) (Or.inl ⟨by rfl, ?hy79⟩) hHeld ?rest79
        case hy79 => (intro w hSw; (try dsimp only at hSw); go_simp; (try with_reducible rfl))
        try simp only [Act.put, List.setIfInBounds_toArray, List.set_cons_zero, List.set_cons_succ]
        refine Gw.gw_take (i := 7) (v := ?v80) (d := (some 12)) rfl rfl (by kernel_rfl) (by kernel_rfl) (by kernel_rfl) (fun _ _ _ h => h) (Or.inl ⟨by rfl, ?hy80⟩) hHeld ?rest80
        case hy80 => (intro w hSw; (try dsimp only at hSw); go_simp; (try with_reducible rfl))
        try simp only [Act.put, List.setIfInBounds_toArray, List.set_cons_zero, List.set_cons_succ]
        refine Gw.gw_take (i := 8) (v := ?v81) (d := (some 13)) rfl rfl (by kernel_rfl) (by kernel_rfl) (by kernel_rfl) (fun _ _ _ h => h) (Or.inl ⟨by rfl, ?hy81⟩) hHeld ?rest81
        case hy81 => (intro w hSw; (try dsimp only at hSw); go_simp; (try with_reducible rfl))
        try simp only [Act.put, List.setIfInBounds_toArray, List.set_cons_zero, List.set_cons_succ]
        refine Gw.gw_take (i := 9) (v := ?v82) (d := (some 14)) rfl rfl (by kernel_rfl) (by kernel_rfl) (by kernel_rfl) (fun _ _ _ h => h) (Or.inl ⟨by rfl, ?hy82⟩) hHeld ?rest82
        case hy82 => (intro w hSw; (try dsimp only at hSw); go_simp; (try with_reducible rfl))
        try simp only [Act.put, List.setIfInBounds_toArray, List.set_cons_zero, List.set_cons_succ]
        refine Gw.gw_take (i := 10) (v := ?v83) (d := (some 15)) rfl rfl (by kernel_rfl) (by kernel_rfl) (by kernel_rfl) (fun _ _ _ h => h) (Or.inl ⟨by rfl, ?hy83⟩) hHeld ?rest83
        case hy83 => (intro w hSw; (try dsimp only at hSw); go_simp; (try with_reducible rfl))
        try simp only [Act.put, List.setIfInBounds_toArray, List.set_cons_zero, List.set_cons_succ]
        refine Gw.gw_take (i := 11) (v := ?v84) (d := (some 16)) rfl rfl (by kernel_rfl) (by kernel_rfl) (by kernel_rfl) (fun _ _ _ h => h) (Or.inl ⟨by rfl, ?hy84⟩) hHeld ?rest84
        case hy84 => (intro w hSw; (try dsimp only at hSw); go_simp; (try with_reducible rfl))
        try simp only [Act.put, List.setIfInBounds_toArray, List.set_cons_zero, List.set_cons_succ]
        refine Gw.gw_take (i := 12) (v := ?v85) (d := (some 17)) rfl rfl (by kernel_rfl) (by kernel_rfl) (by kernel_rfl) (fun _ _ _ h => h) (Or.inl ⟨by rfl, ?hy85⟩) hHeld ?rest85
        case hy85 => (intro w hSw; (try dsimp only at hSw); go_simp; (try with_reducible rfl))
        try simp only [Act.put, List.setIfInBounds_toArray, List.set_cons_zero, List.set_cons_succ]
        refine Gw.gw_take (i := 13) (v := ?v86) (d := (some 18)) rfl rfl (by kernel_rfl) (by kernel_rfl) (by kernel_rfl) (fun _ _ _ h => h) (Or.inl ⟨by rfl, ?hy86⟩) hHeld ?rest86
        case hy86 => (intro w hSw; (try dsimp only at hSw); go_simp; (try with_reducible rfl))
        try simp only [Act.put, List.setIfInBounds_toArray, List.set_cons_zero, List.set_cons_succ]
        refine Gw.gw_take (i := 14) (v := ?v87) (d := (some 19)) rfl rfl (by kernel_rfl) (by kernel_rfl) (by kernel_rfl) (fun _ _ _ h => h) (Or.inl ⟨by rfl, ?hy87⟩) hHeld ?rest87
        case hy87 => (intro w hSw; (try dsimp only at hSw); go_simp; (try with_reducible rfl))
        try simp only [Act.put, List.setIfInBounds_toArray, List.set_cons_zero, List.set_cons_succ]
        refine Gw.gw_take (i := 15) (v := undef) (d := (some 20)) rfl rfl (by kernel_rfl) (by kernel_rfl) (by kernel_rfl) (fun _ _ _ h => h) (Or.inr ⟨by rfl, rfl⟩) hHeld ?_
        try simp only [Act.put, List.setIfInBounds_toArray, List.set_cons_zero, List.set_cons_succ]
        refine Gw.gw_take (i := 16) (v := undef) (d := (some 21)) rfl rfl (by kernel_rfl) (by kernel_rfl) (by kernel_rfl) (fun _ _ _ h => h) (Or.inr ⟨by rfl, rfl⟩) hHeld ?_
        try simp only [Act.put, List.setIfInBounds_toArray, List.set_cons_zero, List.set_cons_succ]
        refine Gw.gw_take (i := 17) (v := undef) (d := (some 22)) rfl rfl (by kernel_rfl) (by kernel_rfl) (by kernel_rfl) (fun _ _ _ h => h) (Or.inr ⟨by rfl, rfl⟩) hHeld ?_
        try simp only [Act.put, List.setIfInBounds_toArray, List.set_cons_zero, List.set_cons_succ]
        refine Gw.gw_take (i := 18) (v := undef) (d := (some 23)) rfl rfl (by kernel_rfl) (by kernel_rfl) (by kernel_rfl) (fun _ _ _ h => h) (Or.inr ⟨by rfl, rfl⟩) hHeld ?_
        try simp only [Act.put, List.setIfInBounds_toArray, List.set_cons_zero, List.set_cons_succ]
        refine Gw.gw_take (i := 19) (v := undef) (d := (some 24)) rfl rfl (by kernel_rfl) (by kernel_rfl) (by kernel_rfl) (fun _ _ _ h => h) (Or.inr ⟨by rfl, rfl⟩) hHeld ?_
        try simp only [Act.put, List.setIfInBounds_toArray, List.set_cons_zero, List.set_cons_succ]
        refine Gw.gw_take (i := 20) (v := undef) (d := (some 25)) rfl rfl (by kernel_rfl) (by kernel_rfl) (by kernel_rfl) (fun _ _ _ h => h) (Or.inr ⟨by rfl, rfl⟩) hHeld ?_
        try simp only [Act.put, List.setIfInBounds_toArray, List.set_cons_zero, List.set_cons_succ]
        refine Gw.gw_take (i := 21) (v := undef) (d := (some 26)) rfl rfl (by kernel_rfl) (by kernel_rfl) (by kernel_rfl) (fun _ _ _ h => h) (Or.inr ⟨by rfl, rfl⟩) hHeld ?_
        try simp only [Act.put, List.setIfInBounds_toArray, List.set_cons_zero, List.set_cons_succ]
        refine Gw.gw_take (i := 22) (v := ?v88) (d := (some 27)) rfl rfl (by kernel_rfl) (by kernel_rfl) (by kernel_rfl) (fun _ _ _ h => h) (Or.inl ⟨by rfl, ?hy88⟩) hHeld ?rest88
        case hy88 => (intro w hSw; (try dsimp only at hSw); go_simp; (try with_reducible rfl))
        try simp only [Act.put, List.setIfInBounds_toArray, List.set_cons_zero, List.set_cons_succ]
        refine Gw.gw_take (i := 23) (v := ?v89) (d := (some 4)) rfl rfl (by kernel_rfl) (by kernel_rfl) (by kernel_rfl) (fun _ _ _ h => h) (Or.inl ⟨by rfl, ?hy89⟩) hHeld ?rest89
        case hy89 => (intro w hSw; (try dsimp only at hSw); go_simp; (try with_reducible rfl))
        try simp only [Act.put, List.setIfInBounds_toArray, List.set_cons_zero, List.set_cons_succ]
        refine wpAnyH_done (by kernel_rfl) ?_ _
        go_wp2
        go_ret
        exact ⟨by (first | rfl | simp), HBD.out _ HB4.out⟩
end Go.Proofs.YtmcgkknpkocgoaaGreatDoor.Ad

