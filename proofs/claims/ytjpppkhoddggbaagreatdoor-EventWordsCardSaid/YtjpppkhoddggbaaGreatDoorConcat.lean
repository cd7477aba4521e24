/- slices.Grow, slices.Concat, for bytes. -/
import Derived.Test.YtjpppkhoddggbaaGreatDoorNum
import Derived.Test.YtjpppkhoddggbaaGreatDoorClone
import Derived.Test.YtjpppkhoddggbaaGreatDoorMemR
import Derived.OwnWalk
import Derived.RangeFuncRecord
import Derived.Handy
import Derived.Lib.AppendZeros
import Derived.LoopTactic
namespace Go.Proofs.YtjpppkhoddggbaaGreatDoor.Concat
open Go.RowKit Go.Proofs.YtjpppkhoddggbaaGreatDoor.Mem Go.Proofs.YtjpppkhoddggbaaGreatDoor.Num Go.Proofs.YtjpppkhoddggbaaGreatDoor.Clone
set_option linter.unusedVariables false
set_option linter.unusedSimpArgs false
set_option maxRecDepth 100000
attribute [-go_sem] Builtin.append_ loadCells loadCellsFrom
abbrev Sl := Option Addr × Nat × Nat
abbrev Sl.v (x : Sl) : Value := .slice x.1 x.2.1 x.2.2
def eSl : Enc Sl := .one1 (fun x => x.v) (fun _ => rfl)
/-- v is a slice of byte slices that read as ls. -/
def Rows (w : World) (v : Value) (ls : List (List UInt8)) : Prop := ∃ xs : List Sl, Row eSl w v xs ∧ xs.length = ls.length ∧ ∀ (k : Nat) (h : k < xs.length) (h' : k < ls.length), Row eU8 w xs[k].v ls[k]
theorem Own.trunc {α : Type} {E : Enc α} {e : TypeId} {base g n cap : Nat} {w : World} {xs : List α} (h : Own E e base w (.slice (some ⟨g, 0, none⟩) n cap) xs) (k : Nat) (hk : k ≤ xs.length) : Own E e base w (.slice (some ⟨g, 0, none⟩) k cap) (xs.take k) := by
  have hn := h.row.len
  subst hn
  obtain ⟨h1, h2⟩ := h
  rcases h2 with ⟨h2, _⟩ | ⟨g', cap', cur, he, hg, hh, hn, hm, hs, ht⟩
  · cases h2
  · cases he
    have hl : (xs.take k).length = k := by rw [List.length_take]; omega
    refine ⟨by rw [E.all_len], .inr ⟨g, cap, cur, by rw [hl], hg, hh, by omega, hm, hs, ?_⟩⟩
    rw [E.all_take, ← ht, List.take_take, hl, Nat.min_eq_left (Nat.mul_le_mul_right _ hk)]
theorem grow_calls (n : Nat) (w : World) (h0 : 0 < n) (h1 : n ≤ 1000000) :
    Calls Tryz.prog 19 #[.slice none 0 0, .int .i64 (n : Int)] w fun e w' => (∃ v, e = .returned v ∧ Own eU8 5 w.heap.size w' v []) ∧ Below w.heap.size w w' := by
  obtain ⟨i0, hi, hz0, hz1, hz2⟩ := info_parts infoU8
  have hrun := Lib.run_append_nil_zeros (P := Tryz.prog) w 26 3 26 5 i0 (.int .u8 0) .i64 .i64 Tryz.underlying26 Tryz.underlying3 hi hz0 n h0 (by omega) (by omega) (by rw [hz2]; omega)
  have hc1 := grownCap_ge w n 0 5
  have hc2 := grownCap_le_maxLen w n 0 5 (by unfold maxLen; omega)
  have hs := size_zeroCells (Value.int .u8 0).cells n
  have hs2 := size_zeroCells (Value.int .u8 0).cells (grownCap w n 0 5 - n)
  have hz : (Value.int .u8 0).cells.size = 1 := rfl
  rw [hz, Nat.mul_one] at hs hs2
  generalize grownCap w n 0 5 = cap at hrun hc1 hc2 hs2
  have hsz : (Builtin.zeroCells (Value.int .u8 0).cells n ++ Builtin.zeroCells (Value.int .u8 0).cells (cap - n)).size = cap := by rw [Array.size_append, hs, hs2]; omega
  generalize Builtin.zeroCells (Value.int .u8 0).cells n ++ Builtin.zeroCells (Value.int .u8 0).cells (cap - n) = cur at hrun hsz
  have hO : Own eU8 5 w.heap.size (w.drew.alloc (.cells cur 5)) (.slice (some ⟨w.heap.size, 0, none⟩) 0 cap) [] :=
    ⟨by simp [Enc.all], .inr ⟨w.heap.size, cap, cur, rfl, Nat.le_refl _, World.alloc_heap_new w.drew _, Nat.zero_le _, hc2, by rw [hsz]; show cap = cap * 1; omega, by simp [Enc.all]⟩⟩
  have HO := Lib.hid hO
  have hcm : cap ≤ 9223372036854775807 := by unfold maxLen at hc2; omega
  clear hO hs hs2 hz hi hz0 hz1 hz2 hsz hc2
  go_enter Tryz.func19, Tryz.ntmps19
  go_wp2_with (at_builtin; refine Lib.wpList_append_run _ rfl (.tmp 20) (.tmp 21) 26 3 rfl _ _ rfl rfl _ _ hrun ?_)
  go_ret
  exact ⟨⟨_, rfl, HO.out⟩, by go_grown⟩
theorem flat_take (ls : List (List UInt8)) (k : Nat) (hk : k < ls.length) : (ls.take (k + 1)).flatten = (ls.take k).flatten ++ ls[k] := by
  rw [List.take_succ_eq_append_getElem hk, List.flatten_append]; simp
theorem flat_le (ls : List (List UInt8)) (k : Nat) : (ls.take k).flatten.length ≤ ls.flatten.length := by
  conv => rhs; rw [← List.take_append_drop k ls, List.flatten_append, List.length_append]
  omega
def tot (ls : List (List UInt8)) (k : Nat) : Nat := (ls.take k).flatten.length
theorem tot_succ (ls : List (List UInt8)) (k : Nat) (hk : k < ls.length) : tot ls (k + 1) = tot ls k + ls[k].length := by
  unfold tot; rw [flat_take ls k hk, List.length_append]
theorem tot_le (ls : List (List UInt8)) (k : Nat) : tot ls k ≤ tot ls ls.length := by
  unfold tot; rw [List.take_length]; exact flat_le ls k
set_option maxHeartbeats 1000000 in
theorem concat_calls (v : Value) (ls : List (List UInt8)) (w : World) (hv : Rows w v ls) (h0 : 0 < ls.flatten.length) (h1 : ls.flatten.length ≤ 1000000) :
    Calls Tryz.prog 11 #[v] w fun e w' => (∃ v', e = .returned v' ∧ Own eU8 5 w.heap.size w' v' ls.flatten) ∧ Below w.heap.size w w' := by
  obtain ⟨xs, hr, hl, hall⟩ := hv
  obtain ⟨A, c, rfl, hc, hm, hr⟩ := hr.parts
  have ht : tot ls xs.length = ls.flatten.length := by unfold tot; rw [hl, List.take_length]
  have hflat : Hid ((ls.take xs.length).flatten = ls.flatten) := Lib.hid (by rw [hl, List.take_length])
  rw [← ht] at h0 h1
  have HTL := Lib.hid (fun k => (hl ▸ tot_le ls k : tot ls k ≤ tot ls xs.length))
  have HTS := Lib.hid (fun k (hk : k < ls.length) => tot_succ ls k hk)
  have HFT := Lib.hid (fun k (hk : k < ls.length) => flat_take ls k hk)
  have HR := Lib.hid hr
  have HA := Lib.hid hall
  have HL := Lib.hid hl
  have HT0 : tot ls 0 = 0 := rfl
  clear hr hall hl ht
  go_enter Tryz.func11, Tryz.ntmps11
  go_wp2
  go_loop [3, 11] (fun sv iv => ∃ k : Nat, k ≤ xs.length ∧ iv = .int .i64 (k : Int) ∧ sv = .int .i64 (tot ls k : Int)) (fun _ iv => xs.length - (intOf iv).toNat)
  case atStart => exact ⟨0, Nat.zero_le _, rfl, by rw [HT0]; rfl⟩
  case round =>
    obtain ⟨k, hk, rfl, rfl⟩ := hrel
    by_cases hlt : k < xs.length
    · obtain ⟨ad, rfl, hcell⟩ := HR.out.at1 (k := k) hlt
      have hln := (HA.out k hlt (by rw [← HL.out]; exact hlt)).len
      have hts := HTS.out k (by rw [← HL.out]; exact hlt)
      have hle := HTL.out (k + 1)
      rw [hts, ← hln] at hle
      rw [← hln] at hts
      have HS := Lib.hid hts
      generalize xs[k]'hlt = y at hcell hle HS
      obtain ⟨a1, n1, c1⟩ := y
      have hcell' : w.cell? (ad.add k) = some (.slice a1 n1 c1) := hcell
      have hle' : tot ls k + n1 ≤ tot ls xs.length := hle
      clear hln hts hcell hle
      go_wp2
      go_round
      case rel => exact ⟨k + 1, by omega, rfl, by rw [HS.out]; simp⟩
      case measure => simp [intOf]; omega
    · have hkx : k = xs.length := by omega
      subst hkx
      have HG := Lib.hid (fun W => grow_calls (tot ls xs.length) W h0 h1)
      go_wp2_with (go_at_call 19; ((with_reducible refine (HG.out _).mono ?_); rintro e w1 ⟨⟨gv, rfl, hG⟩, hB1⟩; have HG1 := Lib.hid hG; have HB1 := Lib.hid hB1; clear hG hB1))
      have hB := HB1.out
      go_loopw [6, 27] (fun sv iv W => ∃ k : Nat, k ≤ xs.length ∧ iv = .int .i64 (k : Int) ∧ Hid (Own eU8 5 w.heap.size W sv (ls.take k).flatten) ∧ Hid (Below w.heap.size w W)) (fun _ iv _ => xs.length - (intOf iv).toNat)
      case atStart => exact ⟨0, Nat.zero_le _, rfl, Lib.hid (by simpa using HG1.out), HB1⟩
      case round =>
        obtain ⟨k, hk, rfl, HO, HB⟩ := hrel
        by_cases hlt : k < xs.length
        · obtain ⟨ad, rfl, hcell⟩ := (HR.out.below HB.out).at1 (k := k) hlt
          have hlk : k < ls.length := by rw [← HL.out]; exact hlt
          have hrow := (HA.out k hlt hlk).below HB.out
          have hft := HFT.out k hlk
          have hle := HTL.out (k + 1)
          have hts := HTS.out k hlk
          rw [hts] at hle
          have hle0 : (ls.take k).flatten.length + ls[k].length ≤ 1000000 := by
            have : (ls.take k).flatten.length = tot ls k := rfl
            omega
          generalize xs[k] = y at hcell hrow
          generalize ls[k] = L at hrow hft hle0
          obtain ⟨a1, n1, c1⟩ := y
          have hcell' : wr.cell? (ad.add k) = some (.slice a1 n1 c1) := hcell
          have HROW := Lib.hid (show Row eU8 wr (.slice a1 n1 c1) L from hrow)
          have HF := Lib.hid hft
          have HLE := Lib.hid hle0
          have hsz := HB.out.size
          clear hcell hrow hft hle0 hle hts
          go_wp2_with (at_builtin; go_loud (refine wp_append (E := eU8) w.heap.size rfl (.tmp 31) (.tmp 32) 26 5 _ 1 rfl Tryz.underlying26 infoU8 rfl (by decide) _ _ (ls.take k).flatten L rfl rfl HO.out HROW.out hsz (by have := HLE.out; omega) ?_; intro v1 w2 ho1 hg1 hat1))
          go_roundw
          case rel => exact ⟨k + 1, by omega, rfl, Lib.hid (by rw [HF.out]; exact ho1), Lib.hid (below_app HB.out hsz HO.out hg1)⟩
          case measure => simp [intOf]; omega
        · have hkx : k = xs.length := by omega
          subst hkx
          rw [hflat.out] at HO
          go_wp2
          go_ret
          exact ⟨⟨_, rfl, HO.out⟩, HB.out⟩
end Go.Proofs.YtjpppkhoddggbaaGreatDoor.Concat
