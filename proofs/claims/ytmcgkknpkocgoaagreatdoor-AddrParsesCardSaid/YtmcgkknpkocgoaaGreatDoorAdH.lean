/- The law PortsWords. -/
import Derived.Test.YtmcgkknpkocgoaaGreatDoorAdG
import Derived.Test.YtmcgkknpkocgoaaGreatDoorErrNum
import Derived.Deep.QuietTactic
import Derived.BigQuiet
namespace Go.Proofs.YtmcgkknpkocgoaaGreatDoor.Ad
open Go.RowKit Go.Proofs.YtmcgkknpkocgoaaGreatDoor.Mem Go.Proofs.YtmcgkknpkocgoaaGreatDoor.Num Go.Proofs.YtmcgkknpkocgoaaGreatDoor.Err Go.Proofs.YtmcgkknpkocgoaaGreatDoor.AdP Go.Proofs.YtmcgkknpkocgoaaGreatDoor.Key
set_option linter.unusedVariables false
set_option linter.unusedSimpArgs false
set_option maxRecDepth 100000
attribute [-go_sem] Builtin.append_ loadCells loadCellsFrom storeCells run_eql_struct
theorem eq80 (W : World) : (binOp .eql 61 (.agg pt80.toArray) (.agg pt80.toArray)).run Tryz.prog W = .ok (.bool true) W := by
  have h := key_point 3 true [0, 0, 0, 0, 0, 0, 0, 0, 0, 0, 0, 0, 0, 0, 0, 1] rfl 80 ⟨by decide, by decide⟩
  exact (eql_deep (D := 7) (D' := 7) (by kernel_rfl) true ⟨fun _ => rfl, fun _ => rfl⟩ (by kernel_rfl) (by kernel_rfl) h h W).1
set_option maxHeartbeats 1000000 in
theorem alive4_calls (ea : Addr) (w : World) (hE : Env ea w) : Calls Tryz.prog 37 #[] w fun e w' => e = .returned (.bool true) ∧ Below w.heap.size w w' := by
  have KP := Lib.hid (fun W hE => pparse80 ea W hE)
  have HE := Lib.hid hE
  have heq := eq80
  clear hE
  go_enter Tryz.func37, Tryz.ntmps37
  go_wp2_with (first
    | (go_at_call 50; ((with_reducible refine (KP.out _ HE.out).mono ?_); rintro e w1 ⟨rfl, hb⟩; have HB1 := Lib.hid hb; clear hb))
    | (refine wp_store_blk rfl 61 (.tmp 1) (.tmp 5) rfl w1.heap.size 0 pt0 pt80 61 _ rfl rfl rfl (Blk.new _ _ _ _ _ rfl rfl) (by decide) infoPt pt80_one (by decide) ?_; intro w5 hk5 ha5; have hld : (loadCells ⟨w1.heap.size, 0, none⟩ 18).run Tryz.prog w5 = .ok pt80.toArray w5 := Blk.load (cs := pt80) hk5 0 18 pt80 rfl rfl; have HB5 := Lib.hid (HB1.out.trans ((below_alt (below_own_alloc w1 _) ha5 (by simp) (fun k hk => by omega)).mono HB1.out.size)); clear hk5 ha5))
  go_ret
  exact ⟨rfl, HB5.out⟩
noncomputable def rightB (n : Int) : Bool := decide (1 ≤ n ∧ n ≤ 65535)
noncomputable def protoB (n : Int) : Bool := decide (n = 6 ∨ n = 17)
theorem right_calls (n : Int) (W : World) (h1 : -9223372036854775808 ≤ n) (h2 : n ≤ 9223372036854775807) : Calls Tryz.prog 39 #[.int .i64 n] W fun e w' => e = .returned (.bool (rightB n)) ∧ W = w' := by
  by_cases h : 1 ≤ n
  · go_enter Tryz.func39, Tryz.ntmps39
    go_wp2
    go_ret
    exact ⟨by unfold rightB; simp [h], rfl⟩
  · go_enter Tryz.func39, Tryz.ntmps39
    go_wp2
    go_ret
    exact ⟨by unfold rightB; simp; omega, rfl⟩
theorem rright_calls (n : Int) (W : World) (h1 : -9223372036854775808 ≤ n) (h2 : n ≤ 9223372036854775807) : Calls Tryz.prog 40 #[.int .i64 n] W fun e w' => e = .returned (.bool (rightB n)) ∧ W = w' := by
  by_cases h : 0 < n
  · go_enter Tryz.func40, Tryz.ntmps40
    go_wp2
    go_ret
    have e : decide (n < 65536) = rightB n := by unfold rightB; rw [decide_eq_decide]; omega
    exact ⟨by simp [e], rfl⟩
  · go_enter Tryz.func40, Tryz.ntmps40
    go_wp2
    go_ret
    exact ⟨by unfold rightB; simp; omega, rfl⟩
theorem proto_calls (n : Int) (W : World) : Calls Tryz.prog 41 #[.int .i64 n] W fun e w' => e = .returned (.bool (protoB n)) ∧ W = w' := by
  by_cases h : n = 6
  · subst h
    go_enter Tryz.func41, Tryz.ntmps41
    go_wp2
    go_ret
    exact ⟨by unfold protoB; simp, rfl⟩
  · have h6 : (n == 6) = false := beq_eq_false_iff_ne.mpr h
    go_enter Tryz.func41, Tryz.ntmps41
    go_wp2
    go_ret
    exact ⟨by unfold protoB; simp [h]; rfl, rfl⟩
theorem rproto_calls (n : Int) (W : World) : Calls Tryz.prog 42 #[.int .i64 n] W fun e w' => e = .returned (.bool (protoB n)) ∧ W = w' := by
  by_cases h : n = 6
  · subst h
    go_enter Tryz.func42, Tryz.ntmps42
    go_wp2
    go_ret
    exact ⟨by unfold protoB; simp, rfl⟩
  · have h6 : (n == 6) = false := beq_eq_false_iff_ne.mpr h
    go_enter Tryz.func42, Tryz.ntmps42
    go_wp2
    go_ret
    exact ⟨by unfold protoB; simp [h]; rfl, rfl⟩
def wordS (n : Int) : ByteArray := if n = 6 then ⟨#[116, 99, 112]⟩ else if n = 17 then ⟨#[117, 100, 112]⟩ else ByteArray.empty
theorem word_calls (n : Int) (W : World) : Calls Tryz.prog 43 #[.int .i64 n] W fun e w' => e = .returned (.string (wordS n)) ∧ W = w' := by
  by_cases h : n = 6
  · subst h
    go_enter Tryz.func43, Tryz.ntmps43
    go_wp2
    go_ret
    exact ⟨rfl, rfl⟩
  · have h6 : (n == 6) = false := beq_eq_false_iff_ne.mpr h
    by_cases h' : n = 17
    · subst h'
      go_enter Tryz.func43, Tryz.ntmps43
      go_wp2
      go_ret
      exact ⟨rfl, rfl⟩
    · have h17 : (n == 17) = false := beq_eq_false_iff_ne.mpr h'
      have e : wordS n = ByteArray.empty := by unfold wordS; rw [if_neg h, if_neg h']
      rw [e]
      clear e h h'
      go_enter Tryz.func43, Tryz.ntmps43
      go_wp2
      go_ret
      exact ⟨rfl, rfl⟩
theorem named_tcp (W : World) : Calls Tryz.prog 38 #[.string ⟨#[116, 99, 112]⟩] W fun e w' => e = .returned (.tuple #[.int .i64 6, .nilIface]) ∧ Below W.heap.size W w' := by
  go_enter Tryz.func38, Tryz.ntmps38
  go_wp2
  go_ret2
  exact ⟨rfl, Below.refl _ _⟩
theorem named_udp (W : World) : Calls Tryz.prog 38 #[.string ⟨#[117, 100, 112]⟩] W fun e w' => e = .returned (.tuple #[.int .i64 17, .nilIface]) ∧ Below W.heap.size W w' := by
  go_enter Tryz.func38, Tryz.ntmps38
  go_wp2
  go_ret2
  exact ⟨rfl, Below.refl _ _⟩
theorem named_no (s : ByteArray) (ep : Addr) (W : World) (hp : Holds W 16 ep) (h1 : s.toList ≠ [116, 99, 112]) (h2 : s.toList ≠ [117, 100, 112]) : Calls Tryz.prog 38 #[.string s] W fun e w' => e = .returned (.tuple #[.int .i64 0, ev ep]) ∧ Below W.heap.size W w' := by
  have c1 := hp.1
  unfold ev at c1
  have q1 : (s.toList == [116, 99, 112]) = false := beq_eq_false_iff_ne.mpr h1
  have q2 : (s.toList == [117, 100, 112]) = false := beq_eq_false_iff_ne.mpr h2
  have H1 := Lib.hid h1
  have H2 := Lib.hid h2
  clear hp h1 h2
  go_enter Tryz.func38, Tryz.ntmps38
  go_wp2
  go_quiet (fail)
  go_wp2
  go_ret2
  exact ⟨rfl, below_drewN (Below.refl _ _) _⟩
end Go.Proofs.YtmcgkknpkocgoaaGreatDoor.Ad
