/- bytes.Clone. -/
import Derived.Test.YtmcgkknpkocgoaaGreatDoorNum
import Derived.Lib.Hide
import Derived.Lib.LazyBuf
import Derived.Handy
namespace Go.Proofs.YtmcgkknpkocgoaaGreatDoor.Clone
open Go.RowKit Go.Proofs.YtmcgkknpkocgoaaGreatDoor.Mem Go.Proofs.YtmcgkknpkocgoaaGreatDoor.Num
set_option linter.unusedVariables false
set_option linter.unusedSimpArgs false
set_option maxRecDepth 100000
/-! A copy of bytes. -/
theorem clone_calls (v : Value) (l : List UInt8) (w : World) (hv : Row eU8 w v l) (hl : l.length ≤ 1000000) :
    Calls Tryz.prog 94 #[v] w fun e w' => (∃ v', e = .returned v' ∧ Own eU8 5 w.heap.size w' v' l) ∧ Below w.heap.size w w' := by
  obtain ⟨A, c, rfl, hc, hm, hr⟩ := hv.parts
  cases A with
  | none =>
    have h0 : c = 0 := hr.cap.2.2 rfl
    have h1 : l = [] := List.eq_nil_of_length_eq_zero (by omega)
    subst h1
    subst h0
    have hnil := fun W => Go.run_eql_slice_nil (P := Tryz.prog) W 39 5 none 0 0 Tryz.underlying39
    clear hv hr hc hm
    go_enter Tryz.func94, Tryz.ntmps94
    go_wp2
    go_returns
    exact ⟨⟨_, rfl, Own.nil _ _ _ _⟩, Below.refl _ _⟩
  | some ad =>
    clear hv
    have HR := Lib.hid hr
    have hnil := fun W => Go.run_eql_slice_nil (P := Tryz.prog) W 39 5 (some ad) l.length c Tryz.underlying39
    clear hr
    go_enter Tryz.func94, Tryz.ntmps94
    go_wp2_with (at_builtin; refine wp_append (E := eU8) w.heap.size rfl (.tmp 5) (.tmp 6) 39 5 _ 1 rfl Tryz.underlying39 infoU8 rfl (by decide) _ _ [] l rfl rfl (Own.lit w w.heap.size eU8 5 [] 0 rfl _ rfl (Nat.le_refl _) (by simp)) (HR.out.alloc _) (by simp) (by simp; omega) ?_; intro v1 w1 ho1 hg1 hat1)
    go_ret
    exact ⟨⟨_, rfl, by simpa using ho1⟩, below_app ((Below.refl _ w).alloc (Nat.le_refl _) _) (by simp) (Own.lit w w.heap.size eU8 5 [] 0 rfl _ rfl (Nat.le_refl _) (by simp)) hg1⟩
end Go.Proofs.YtmcgkknpkocgoaaGreatDoor.Clone
