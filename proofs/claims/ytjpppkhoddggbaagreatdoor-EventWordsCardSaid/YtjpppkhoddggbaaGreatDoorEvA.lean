/- octets.Num, frame.Bytes where nothing is wrong; a row of two slices. -/
import Derived.Test.YtjpppkhoddggbaaGreatDoorNum
import Derived.BigQuiet
import Derived.Deep.QuietTactic
import Derived.Test.YtjpppkhoddggbaaGreatDoorConcat
import Derived.Test.YtjpppkhoddggbaaGreatDoorLaidT
namespace Go.Proofs.YtjpppkhoddggbaaGreatDoor.Ev
open Go.RowKit Go.Proofs.YtjpppkhoddggbaaGreatDoor.Mem Go.Proofs.YtjpppkhoddggbaaGreatDoor.Num Go.Proofs.YtjpppkhoddggbaaGreatDoor.Err
set_option linter.unusedVariables false
set_option linter.unusedSimpArgs false
set_option maxRecDepth 100000
theorem all_u8 (l : List UInt8) : eU8.all l = l.map (fun x => Value.int .u8 (x.toNat : Int)) := all_one1 _ _ l

def beByte (n k i : Nat) : UInt8 := UInt8.ofNat (n / 2 ^ (8 * (k - 1 - i)) % 256)
def beBytes (n k : Nat) : List UInt8 := (List.range k).map (beByte n k)
theorem beBytes_len (n k : Nat) : (beBytes n k).length = k := by simp [beBytes]
theorem beBytes_take (n k j : Nat) (h : j < k) : (beBytes n k).take (j + 1) = (beBytes n k).take j ++ [beByte n k j] := by
  rw [List.take_succ_eq_append_getElem (by rw [beBytes_len]; exact h)]
  simp [beBytes]
theorem beByte_int (n k i : Nat) : ((beByte n k i).toNat : Int) = (n : Int) / 2 ^ (8 * (k - 1 - i)) % 256 := by
  unfold beByte
  rw [UInt8.toNat_ofNat_of_lt' (Nat.mod_lt _ (by decide))]
  simp
def RetBytes (base : Nat) (w' : World) (l : List UInt8) (e : Ending) : Prop := ∃ v, Own eU8 5 base w' v l ∧ e = .returned (.tuple #[v, .nilIface])
theorem num_calls (n size : Nat) (w : World) (h1 : 1 ≤ size) (h2 : size ≤ 8) (h3 : n ≤ 4611686018427387904) (h4 : size < 8 → n / 2 ^ (8 * size) = 0) :
    Calls Tryz.prog 10 #[.int .i64 (n : Int), .int .i64 (size : Int)] w fun e w' => RetBytes w.heap.size w' (beBytes n size) e ∧ Below w.heap.size w w' := by
  have h5 : ((size : Int) < 8) → (n : Int) / 2 ^ (8 * size) = 0 := fun h => by
    have := h4 (by omega)
    rw [show ((n : Int) / 2 ^ (8 * size)) = ((n / 2 ^ (8 * size) : Nat) : Int) by simp, this]; rfl
  have H5 := Lib.hid h5
  clear h4 h5
  by_cases h8 : size < 8
  all_goals
    first
      | (have q := H5.out (by omega); have q' : decide (0 < (n : Int) / 2 ^ (8 * size)) = false := by rw [q]; rfl
         clear q
         go_enter Tryz.func10, Tryz.ntmps10
         go_wp2)
      | (go_enter Tryz.func10, Tryz.ntmps10
         go_wp2)
    go_loopw [6, 7] (fun v i wr => ∃ j : Nat, j ≤ size ∧ i = .int .i64 ((j : Int) - 1) ∧ Own eU8 5 w.heap.size wr v ((beBytes n size).take (size - j)) ∧ Below w.heap.size w wr) (fun _ i _ => (intOf i + 1).toNat)
    case atStart => exact ⟨size, Nat.le_refl _, rfl, by rw [Nat.sub_self]; exact Own.nil _ _ _ _, Below.refl _ _⟩
    case round =>
      obtain ⟨j, hj, hi, ho, hb⟩ := hrel
      cases j with
      | zero =>
        subst hi
        rw [Nat.sub_zero, List.take_of_length_le (by rw [beBytes_len]; omega)] at ho
        have HO := Lib.hid ho
        clear ho
        go_wp2
        go_ret2
        exact ⟨⟨_, HO.out, rfl⟩, hb⟩
      | succ j =>
        rw [show (((j + 1 : Nat) : Int) - 1) = (j : Int) by omega] at hi
        subst hi
        have HO := Lib.hid ho
        have g1 : 8 * (j : Int) ≤ 64 := by omega
        clear ho
        go_wp2_with (at_builtin; refine wp_append (E := eU8) w.heap.size rfl (.tmp 40) (.tmp 46) 26 5 _ 1 rfl Tryz.underlying26 infoU8 rfl (by decide) _ _ _ [beByte n size (size - (j + 1))] rfl rfl (HO.out.alloc _) (Own.lit _ 0 eU8 5 [beByte n size (size - (j + 1))] 1 rfl _ (by rw [all_u8, List.map_cons, List.map_nil, beByte_int, show size - 1 - (size - (j + 1)) = j by omega]) (Nat.zero_le _) (by simp)).row (size_alloc_le hb _) (by simp; omega) ?_; intro v1 w1 ho1 hg1 hat1)
        go_roundw
        case rel => exact ⟨j, by omega, by simp, by rw [show size - j = (size - (j + 1)) + 1 by omega, beBytes_take _ _ _ (by omega)]; exact ho1, below_app (hb.alloc hb.size _) (size_alloc_le hb _) (HO.out.alloc _) hg1⟩
        case measure => simp [intOf]
def frV (k : Int) (A : Option Addr) (n c : Nat) : Value := .agg #[.int .i64 k, .slice A n c]
def encF (k : UInt8) (l : List UInt8) : List UInt8 := UInt8.ofNat ((l.length + 1) / 256) :: UInt8.ofNat ((l.length + 1) % 256) :: k :: l
theorem encF_len (k : UInt8) (l : List UInt8) : (encF k l).length = l.length + 3 := by simp [encF]
section
attribute [-go_sem] Builtin.append_
theorem frbytes_ok (k : UInt8) (A : Option Addr) (n c : Nat) (l : List UInt8) (w : World) (hn : n ≤ 1199) (hv : Row eU8 w (.slice A n c) l) :
    Calls Tryz.prog 13 #[frV (k.toNat : Int) A n c] w fun e w' => (∃ v, e = .returned (.tuple #[v, .nilIface]) ∧ Own eU8 5 w.heap.size w' v (encF k l)) ∧ Below w.heap.size w w' := by
  have hnl := hv.len
  have hk := k.toNat_lt
  have hk2 : (k.toNat : Int) ≤ 255 := by omega
  have hl2 : (n : Int) + 1 ≤ 1200 := by omega
  have e1 : IntKind.u8.wrap (((n : Int) + 1) / 256) = ((UInt8.ofNat ((l.length + 1) / 256)).toNat : Int) := by
    rw [IntKind.wrap_u8, UInt8.toNat_ofNat_of_lt' (by show (l.length + 1) / 256 < 256; omega)]; omega
  have e2 : IntKind.u8.wrap ((n : Int) + 1) = ((UInt8.ofNat ((l.length + 1) % 256)).toNat : Int) := by
    rw [IntKind.wrap_u8, UInt8.toNat_ofNat_of_lt' (by show (l.length + 1) % 256 < 256; omega)]; omega
  have e3 : IntKind.u8.wrap (k.toNat : Int) = (k.toNat : Int) := by rw [IntKind.wrap_u8]; omega
  have henc : encF k l = [UInt8.ofNat ((l.length + 1) / 256), UInt8.ofNat ((l.length + 1) % 256), k] ++ l := rfl
  rw [henc]
  have HLL := Lib.hid (show l.length ≤ 1199 by omega)
  generalize UInt8.ofNat ((l.length + 1) / 256) = x at e1 ⊢
  generalize UInt8.ofNat ((l.length + 1) % 256) = y at e2 ⊢
  have HV := Lib.hid hv
  clear hv henc hnl hk
  unfold frV
  go_enter Tryz.func13, Tryz.ntmps13
  go_wp2_with (at_builtin; (refine wp_append (E := eU8) w.heap.size rfl (.tmp 31) (.tmp 33) 26 5 _ 1 rfl Tryz.underlying26 infoU8 rfl (by decide) _ _ [x, y, k] l rfl rfl (Own.lit' (w.alloc (.cells #[.int .i64 (k.toNat : Int), .slice A n c] 28)) (w.heap.size + 1) (by simp) w.heap.size eU8 5 [x, y, k] 3 rfl #[.int .u8 (x.toNat : Int), .int .u8 (y.toNat : Int), .int .u8 (k.toNat : Int)] rfl (by simp) (by simp)) ((HV.out.alloc _).alloc _) (by simp; omega) (by have := HLL.out; simp; omega) ?_; intro v1 w1 ho1 hg1 hat1))
  go_ret2
  exact ⟨⟨_, rfl, ho1⟩, below_app (((Below.refl _ _).alloc (Nat.le_refl _) _).alloc (by simp) _) (by simp; omega) (Own.lit' (w.alloc (.cells #[.int .i64 (k.toNat : Int), .slice A n c] 28)) (w.heap.size + 1) (by simp) w.heap.size eU8 5 [x, y, k] 3 rfl #[.int .u8 (x.toNat : Int), .int .u8 (y.toNat : Int), .int .u8 (k.toNat : Int)] rfl (by simp) (by simp)) hg1⟩
end
theorem rows2 (W : World) (g : Nat) (hg : W.heap.size = g) (x y : Concat.Sl) (a b : List UInt8) (t : TypeId) (ha : Row eU8 W x.v a) (hb : Row eU8 W y.v b) :
    Go.Proofs.YtjpppkhoddggbaaGreatDoor.Concat.Rows (W.alloc (.cells #[x.v, y.v] t)) (.slice (some ⟨g, 0, none⟩) 2 2) [a, b] := by
  subst hg
  refine ⟨[x, y], (Mem.Own.lit W 0 Concat.eSl t [x, y] 2 rfl #[x.v, y.v] rfl (Nat.zero_le _) (by simp)).row, rfl, fun k h h' => ?_⟩
  match k, h with
  | 0, _ => exact ha.alloc _
  | 1, _ => exact hb.alloc _
end Go.Proofs.YtjpppkhoddggbaaGreatDoor.Ev
