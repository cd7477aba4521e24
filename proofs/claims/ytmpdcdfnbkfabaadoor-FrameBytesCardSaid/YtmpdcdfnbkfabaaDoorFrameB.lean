/- frame.Bytes, frame.Same. -/
import Derived.Test.YtmpdcdfnbkfabaaDoorFrame5
namespace Go.Proofs.YtmpdcdfnbkfabaaDoor.Frame
open Go.RowKit Go.Proofs.YtmpdcdfnbkfabaaDoor.Mem Go.Proofs.YtmpdcdfnbkfabaaDoor.Num Go.Proofs.YtmpdcdfnbkfabaaDoor.Err
set_option linter.unusedVariables false
set_option linter.unusedSimpArgs false
set_option maxRecDepth 100000
attribute [-go_sem] Builtin.append_
def frV (k : Int) (A : Option Addr) (n c : Nat) : Value := .agg #[.int .i64 k, .slice A n c]
/-- A frame's bytes. -/
def encF (k : UInt8) (l : List UInt8) : List UInt8 := UInt8.ofNat ((l.length + 1) / 256) :: UInt8.ofNat ((l.length + 1) % 256) :: k :: l
theorem encF_len (k : UInt8) (l : List UInt8) : (encF k l).length = l.length + 3 := by simp [encF]
theorem cutF_enc (k : UInt8) (l : List UInt8) (h : l.length ≤ 1199) : cutF (encF k l) = ([(k, l)], 0, false) := by
  have hn : frLen (encF k l) = l.length + 1 := by
    unfold frLen encF
    simp only [List.getD_cons_zero, List.getD_cons_succ]
    rw [UInt8.toNat_ofNat_of_lt' (by show (l.length + 1) / 256 < 256; omega), UInt8.toNat_ofNat_of_lt' (by show (l.length + 1) % 256 < 256; omega)]
    omega
  have hl := encF_len k l
  rw [cutF_one (by omega) (by omega) (by omega)]
  have hd : (encF k l).drop (2 + frLen (encF k l)) = [] := List.drop_eq_nil_of_le (by omega)
  rw [hd, cutF_few (by simp)]
  have hk : frKind (encF k l) = k := rfl
  have hb : frBody (encF k l) = l := by
    unfold frBody
    rw [List.take_of_length_le (by omega)]; rfl
  rw [hk, hb]; rfl
theorem equal_calls (v u : Value) (l m : List UInt8) (w : World) (hv : Row eU8 w v l) (hu : Row eU8 w u m) :
    Calls Tryd.prog 64 #[v, u] w fun e w' => e = .returned (.bool (decide (l = m))) ∧ w = w' := by
  have c1 := hv.conv' Tryd.underlying27 Tryd.underlying5 Tryd.underlying9
  have c2 := hu.conv' Tryd.underlying27 Tryd.underlying5 Tryd.underlying9
  by_cases h : l = m
  · subst h
    rw [decide_eq_true rfl]
    clear hv hu
    go_enter Tryd.func64, Tryd.ntmps64
    go_wp2
    go_ret
    exact ⟨by simp, rfl⟩
  · rw [decide_eq_false h]
    clear hv hu
    go_enter Tryd.func64, Tryd.ntmps64
    go_wp2
    go_ret
    exact ⟨by simp [h], rfl⟩
theorem same_fr_calls (k1 k2 : Int) (A B : Option Addr) (n1 c1 n2 c2 : Nat) (l m : List UInt8) (w : World) (hv : Row eU8 w (.slice A n1 c1) l) (hu : Row eU8 w (.slice B n2 c2) m) :
    Calls Tryd.prog 30 #[frV k1 A n1 c1, frV k2 B n2 c2] w fun e w' => e = .returned (.bool (decide (k1 = k2 ∧ l = m))) ∧ Below w.heap.size w w' := by
  have KE := Lib.hid (fun W h1 h2 => equal_calls (.slice A n1 c1) (.slice B n2 c2) l m W h1 h2)
  have HV := Lib.hid hv
  have HU := Lib.hid hu
  clear hv hu
  unfold frV
  by_cases hk : k1 = k2
  · subst hk
    have hd : decide (k1 = k1 ∧ l = m) = decide (l = m) := by simp
    rw [hd]
    generalize decide (l = m) = bb at KE
    go_enter Tryd.func30, Tryd.ntmps30
    go_wp2_with (go_at_call 64; ((with_reducible refine (KE.out _ ((HV.out.alloc _).alloc _) ((HU.out.alloc _).alloc _)).mono ?_); rintro e w' ⟨rfl, rfl⟩))
    go_ret
    exact ⟨rfl, by go_grown⟩
  · have hd : decide (k1 = k2 ∧ l = m) = false := decide_eq_false fun h => hk h.1
    have hb : (k1 == k2) = false := beq_eq_false_iff_ne.mpr hk
    rw [hd]
    go_enter Tryd.func30, Tryd.ntmps30
    go_wp2
    go_ret
    exact ⟨by simp [hb], by go_grown⟩
theorem frbytes_range (k : Int) (A : Option Addr) (n c : Nat) (w : World) (e0 : Addr) (hk : k < 0 ∨ 255 < k) (hn : n ≤ 1000000) (he : Holds w 2 e0) :
    Calls Tryd.prog 29 #[frV k A n c] w fun e w' => e = .returned (.tuple #[.slice none 0 0, .iface 131 (.pointer (some e0))]) ∧ Below w.heap.size w w' := by
  have hc0 : w.cell? ⟨2, 0, none⟩ = some (.iface 131 (.pointer (some e0))) := he.1
  have hca := cell_below ((Below.refl w.heap.size w).alloc (Nat.le_refl _) (.cells #[.int .i64 k, .slice A n c] 50)) hc0
  clear he
  unfold frV
  by_cases h : k < 0
  · clear hk
    go_enter Tryd.func29, Tryd.ntmps29
    go_wp2
    go_quiet (fail)
    go_wp2
    go_ret2
    exact ⟨rfl, below_drewN ((Below.refl _ _).alloc (Nat.le_refl _) _) _⟩
  · have h2 : 255 < k := by omega
    clear hk
    go_enter Tryd.func29, Tryd.ntmps29
    go_wp2
    go_quiet (fail)
    go_wp2
    go_ret2
    exact ⟨rfl, below_drewN ((Below.refl _ _).alloc (Nat.le_refl _) _) _⟩
theorem frbytes_long (k : Int) (A : Option Addr) (n c : Nat) (w : World) (e0 : Addr) (hk : 0 ≤ k) (hk2 : k ≤ 255) (hn : n ≤ 1000000) (hl : 1199 < n) (he : Holds w 4 e0) :
    Calls Tryd.prog 29 #[frV k A n c] w fun e w' => e = .returned (.tuple #[.slice none 0 0, .iface 131 (.pointer (some e0))]) ∧ Below w.heap.size w w' := by
  have hc0 : w.cell? ⟨4, 0, none⟩ = some (.iface 131 (.pointer (some e0))) := he.1
  have hca := cell_below ((Below.refl w.heap.size w).alloc (Nat.le_refl _) (.cells #[.int .i64 k, .slice A n c] 50)) hc0
  have hl2 : 1200 < (n : Int) + 1 := by omega
  clear he
  unfold frV
  go_enter Tryd.func29, Tryd.ntmps29
  go_wp2
  go_quiet (fail)
  go_wp2
  go_ret2
  exact ⟨rfl, below_drewN ((Below.refl _ _).alloc (Nat.le_refl _) _) _⟩
theorem frbytes_ok (k : UInt8) (A : Option Addr) (n c : Nat) (l : List UInt8) (w : World) (hn : n ≤ 1199) (hv : Row eU8 w (.slice A n c) l) :
    Calls Tryd.prog 29 #[frV (k.toNat : Int) A n c] w fun e w' => (∃ v, e = .returned (.tuple #[v, .nilIface]) ∧ Own eU8 5 w.heap.size w' v (encF k l)) ∧ Below w.heap.size w w' := by
  have hnl := hv.len
  have hk := k.toNat_lt
  have hk2 : (k.toNat : Int) ≤ 255 := by omega
  have hl2 : (n : Int) + 1 ≤ 1200 := by omega
  have e1 : IntKind.u8.wrap (((n : Int) + 1) / 256) = ((UInt8.ofNat ((l.length + 1) / 256)).toNat : Int) := by
    rw [IntKind.wrap_u8, UInt8.toNat_ofNat_of_lt' (by show (l.length + 1) / 256 < 256; omega)]; omega
  have e2 : IntKind.u8.wrap ((n : Int) + 1) = ((UInt8.ofNat ((l.length + 1) % 256)).toNat : Int) := by
    rw [IntKind.wrap_u8, UInt8.toNat_ofNat_of_lt' (by show (l.length + 1) % 256 < 256; omega)]; omega
  have e3 : IntKind.u8.wrap (k.toNat : Int) = (k.toNat : Int) := by rw [IntKind.wrap_u8]; omega
  have henc : encF k l = [UInt8.ofNat ((l.length + 1) / 256), UInt8.ofNat ((l.length + 1) % 256), k] ++ l := rfl
  rw [henc]
  have HLL := Lib.hid (show l.length ≤ 1199 by omega)
  generalize UInt8.ofNat ((l.length + 1) / 256) = x at e1 ⊢
  generalize UInt8.ofNat ((l.length + 1) % 256) = y at e2 ⊢
  have HV := Lib.hid hv
  clear hv henc hnl hk
  unfold frV
  go_enter Tryd.func29, Tryd.ntmps29
  go_wp2_with (at_builtin; (refine wp_append (E := eU8) w.heap.size rfl (.tmp 31) (.tmp 33) 27 5 _ 1 rfl Tryd.underlying27 infoU8 rfl (by decide) _ _ [x, y, k] l rfl rfl (Own.lit' (w.alloc (.cells #[.int .i64 (k.toNat : Int), .slice A n c] 50)) (w.heap.size + 1) (by simp) w.heap.size eU8 5 [x, y, k] 3 rfl #[.int .u8 (x.toNat : Int), .int .u8 (y.toNat : Int), .int .u8 (k.toNat : Int)] rfl (by simp) (by simp)) ((HV.out.alloc _).alloc _) (by simp; omega) (by have := HLL.out; simp; omega) ?_; intro v1 w1 ho1 hg1 hat1))
  go_ret2
  exact ⟨⟨_, rfl, ho1⟩, below_app (((Below.refl _ _).alloc (Nat.le_refl _) _).alloc (by simp) _) (by simp; omega) (Own.lit' (w.alloc (.cells #[.int .i64 (k.toNat : Int), .slice A n c] 50)) (w.heap.size + 1) (by simp) w.heap.size eU8 5 [x, y, k] 3 rfl #[.int .u8 (x.toNat : Int), .int .u8 (y.toNat : Int), .int .u8 (k.toNat : Int)] rfl (by simp) (by simp)) hg1⟩
end Go.Proofs.YtmpdcdfnbkfabaaDoor.Frame
