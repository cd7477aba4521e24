/- linkboynum.Num: the number of an error. -/
import Derived.Test.YtmcgkknpkocgoaaGreatDoorErr
namespace Go.Proofs.YtmcgkknpkocgoaaGreatDoor.Err
open Go.RowKit Go.Extern.Stop Go.Stop Go.Extern Go.Proofs.YtmcgkknpkocgoaaGreatDoor.Mem
set_option linter.unusedVariables false
set_option linter.unusedSimpArgs false
/-- The variables, in the document's order. -/
def gl : List Nat := [0, 1, 2, 3, 4, 5, 6, 7, 8, 9, 10, 11, 12, 13, 14, 15, 16, 17]
/-- All errors of package api, where they lie: no two at one place. -/
def Errs (w : World) (es : List Addr) : Prop := es.length = 18 ∧ es.Nodup ∧ ∀ k (h : k < es.length), Holds w (gl.getD k 0) es[k]
theorem Errs.below {w w1 : World} {es : List Addr} (h : Errs w es) (hb : Below w.heap.size w w1) : Errs w1 es := ⟨h.1, h.2.1, fun k hk => (h.2.2 k hk).below hb⟩
def eErr : Enc Addr := .one1 (fun a => .iface 226 (.pointer (some a))) (fun _ => rfl)
theorem num_nil (w : World) : Calls Tryz.prog 24 #[.nilIface] w fun e w' => e = .returned (.int .i64 0) ∧ w = w' := by
  go_enter Tryz.func24, Tryz.ntmps24
  go_wp2
  go_ret
  exact ⟨rfl, rfl⟩
theorem num_calls (w : World) (es : List Addr) (h : Errs w es) (k : Nat) (hk : k < es.length) :
    Calls Tryz.prog 24 #[.iface 226 (.pointer (some es[k]))] w fun e w' => e = .returned (.int .i64 ((k : Int) + 1)) ∧ Below w.heap.size w w' := by
  obtain ⟨hl, hnd, hh⟩ := h
  obtain ⟨a0, a1, a2, a3, a4, a5, a6, a7, a8, a9, a10, a11, a12, a13, a14, a15, a16, a17, rfl⟩ : ∃ a0 a1 a2 a3 a4 a5 a6 a7 a8 a9 a10 a11 a12 a13 a14 a15 a16 a17, es = [a0, a1, a2, a3, a4, a5, a6, a7, a8, a9, a10, a11, a12, a13, a14, a15, a16, a17] := by
    match es, hl with
    | [a0, a1, a2, a3, a4, a5, a6, a7, a8, a9, a10, a11, a12, a13, a14, a15, a16, a17], _ => exact ⟨a0, a1, a2, a3, a4, a5, a6, a7, a8, a9, a10, a11, a12, a13, a14, a15, a16, a17, rfl⟩
  have HH := Lib.hid hh
  have HN := Lib.hid hnd
  have c0 : w.cell? ⟨0, 0, none⟩ = some (.iface 226 (.pointer (some a0))) := (hh 0 (by simp)).1
  have c1 : w.cell? ⟨1, 0, none⟩ = some (.iface 226 (.pointer (some a1))) := (hh 1 (by simp)).1
  have c2 : w.cell? ⟨2, 0, none⟩ = some (.iface 226 (.pointer (some a2))) := (hh 2 (by simp)).1
  have c3 : w.cell? ⟨3, 0, none⟩ = some (.iface 226 (.pointer (some a3))) := (hh 3 (by simp)).1
  have c4 : w.cell? ⟨4, 0, none⟩ = some (.iface 226 (.pointer (some a4))) := (hh 4 (by simp)).1
  have c5 : w.cell? ⟨5, 0, none⟩ = some (.iface 226 (.pointer (some a5))) := (hh 5 (by simp)).1
  have c6 : w.cell? ⟨6, 0, none⟩ = some (.iface 226 (.pointer (some a6))) := (hh 6 (by simp)).1
  have c7 : w.cell? ⟨7, 0, none⟩ = some (.iface 226 (.pointer (some a7))) := (hh 7 (by simp)).1
  have c8 : w.cell? ⟨8, 0, none⟩ = some (.iface 226 (.pointer (some a8))) := (hh 8 (by simp)).1
  have c9 : w.cell? ⟨9, 0, none⟩ = some (.iface 226 (.pointer (some a9))) := (hh 9 (by simp)).1
  have c10 : w.cell? ⟨10, 0, none⟩ = some (.iface 226 (.pointer (some a10))) := (hh 10 (by simp)).1
  have c11 : w.cell? ⟨11, 0, none⟩ = some (.iface 226 (.pointer (some a11))) := (hh 11 (by simp)).1
  have c12 : w.cell? ⟨12, 0, none⟩ = some (.iface 226 (.pointer (some a12))) := (hh 12 (by simp)).1
  have c13 : w.cell? ⟨13, 0, none⟩ = some (.iface 226 (.pointer (some a13))) := (hh 13 (by simp)).1
  have c14 : w.cell? ⟨14, 0, none⟩ = some (.iface 226 (.pointer (some a14))) := (hh 14 (by simp)).1
  have c15 : w.cell? ⟨15, 0, none⟩ = some (.iface 226 (.pointer (some a15))) := (hh 15 (by simp)).1
  have c16 : w.cell? ⟨16, 0, none⟩ = some (.iface 226 (.pointer (some a16))) := (hh 16 (by simp)).1
  have c17 : w.cell? ⟨17, 0, none⟩ = some (.iface 226 (.pointer (some a17))) := (hh 17 (by simp)).1
  clear hnd hh
  go_enter Tryz.func24, Tryz.ntmps24
  go_wp2
  have hr := (Own.lit w 0 eErr 29 [a0, a1, a2, a3, a4, a5, a6, a7, a8, a9, a10, a11, a12, a13, a14, a15, a16, a17] 18 rfl #[.iface 226 (.pointer (some a0)), .iface 226 (.pointer (some a1)), .iface 226 (.pointer (some a2)), .iface 226 (.pointer (some a3)), .iface 226 (.pointer (some a4)), .iface 226 (.pointer (some a5)), .iface 226 (.pointer (some a6)), .iface 226 (.pointer (some a7)), .iface 226 (.pointer (some a8)), .iface 226 (.pointer (some a9)), .iface 226 (.pointer (some a10)), .iface 226 (.pointer (some a11)), .iface 226 (.pointer (some a12)), .iface 226 (.pointer (some a13)), .iface 226 (.pointer (some a14)), .iface 226 (.pointer (some a15)), .iface 226 (.pointer (some a16)), .iface 226 (.pointer (some a17))] rfl (Nat.zero_le _) (by simp)).row
  have hb := (Below.refl w.heap.size w).alloc (Nat.le_refl _) (.cells #[.iface 226 (.pointer (some a0)), .iface 226 (.pointer (some a1)), .iface 226 (.pointer (some a2)), .iface 226 (.pointer (some a3)), .iface 226 (.pointer (some a4)), .iface 226 (.pointer (some a5)), .iface 226 (.pointer (some a6)), .iface 226 (.pointer (some a7)), .iface 226 (.pointer (some a8)), .iface 226 (.pointer (some a9)), .iface 226 (.pointer (some a10)), .iface 226 (.pointer (some a11)), .iface 226 (.pointer (some a12)), .iface 226 (.pointer (some a13)), .iface 226 (.pointer (some a14)), .iface 226 (.pointer (some a15)), .iface 226 (.pointer (some a16)), .iface 226 (.pointer (some a17))] 29)
  obtain ⟨W, hW⟩ : ∃ W, W = w.alloc (.cells #[.iface 226 (.pointer (some a0)), .iface 226 (.pointer (some a1)), .iface 226 (.pointer (some a2)), .iface 226 (.pointer (some a3)), .iface 226 (.pointer (some a4)), .iface 226 (.pointer (some a5)), .iface 226 (.pointer (some a6)), .iface 226 (.pointer (some a7)), .iface 226 (.pointer (some a8)), .iface 226 (.pointer (some a9)), .iface 226 (.pointer (some a10)), .iface 226 (.pointer (some a11)), .iface 226 (.pointer (some a12)), .iface 226 (.pointer (some a13)), .iface 226 (.pointer (some a14)), .iface 226 (.pointer (some a15)), .iface 226 (.pointer (some a16)), .iface 226 (.pointer (some a17))] 29) := ⟨_, rfl⟩
  rw [← hW] at hr hb ⊢
  have HL : Hid (∀ j (h : j < [a0, a1, a2, a3, a4, a5, a6, a7, a8, a9, a10, a11, a12, a13, a14, a15, a16, a17].length), Lies W [a0, a1, a2, a3, a4, a5, a6, a7, a8, a9, a10, a11, a12, a13, a14, a15, a16, a17][j]) := fun j hj => ((HH.out j hj).below hb).2
  have HR := Lib.hid hr
  have HB := Lib.hid hb
  clear hW hr hb HH
  generalize hes : [a0, a1, a2, a3, a4, a5, a6, a7, a8, a9, a10, a11, a12, a13, a14, a15, a16, a17] = es at *
  have hl' : es.length = 18 := by rw [← hes]; rfl
  clear hes
  go_loop [29] (fun i => ∃ j : Nat, j ≤ k ∧ i = .int .i64 j) (fun i => 18 - (intOf i).toNat)
  case atStart => exact ⟨0, Nat.zero_le _, rfl⟩
  case round =>
    obtain ⟨j, hj, rfl⟩ := hrel
    have hj18 : j < es.length := by omega
    have hcell : W.cell? ⟨w.heap.size, j, none⟩ = some (.iface 226 (.pointer (some es[j]))) := HR.out.at0 hj18
    have hlt18 : j < 18 := by omega
    by_cases hlt : j < k
    · have hne : es[k] ≠ es[j] := by
        exact fun e => List.pairwise_iff_getElem.1 HN.out j k hj18 hk hlt e.symm
      have LK := HL.out k hk
      have LJ := HL.out j hj18
      go_wp2_with (go_at_call 93; ((with_reducible refine (is_other _ _ _ hne LK LJ).mono ?_); rintro e w' ⟨rfl, rfl⟩))
      go_round
      case rel => exact ⟨j + 1, by omega, by go_num⟩
      case measure => simp [intOf]; omega
    · have hjk : j = k := by omega
      subst hjk
      go_wp2_with (go_at_call 93; ((with_reducible refine (is_same _ _).mono ?_); rintro e w' ⟨rfl, rfl⟩))
      go_ret
      exact ⟨rfl, HB.out⟩
/-- v is the error of number r: nil for 0. -/
def ErrIs (es : List Addr) (r : Nat) (v : Value) : Prop := (r = 0 ∧ v = .nilIface) ∨ ∃ (k : Nat) (h : k < es.length), r = k + 1 ∧ v = .iface 226 (.pointer (some es[k]))
theorem numU (w : World) (es : List Addr) (he : Errs w es) (r : Nat) (v : Value) (h : ErrIs es r v) :
    Calls Tryz.prog 24 #[v] w fun e w' => e = .returned (.int .i64 (r : Int)) ∧ Below w.heap.size w w' := by
  rcases h with ⟨rfl, rfl⟩ | ⟨k, hk, rfl, rfl⟩
  · exact (num_nil w).mono fun e w' ⟨h, h'⟩ => ⟨h, h' ▸ Below.refl _ _⟩
  · exact (num_calls w es he k hk).mono fun e w' ⟨h, h'⟩ => ⟨by rw [h]; simp, h'⟩
theorem errs_of (W : World) (es : List Addr) (el : es.length = 18) (en : es.Nodup) (eh : ∀ (k g : Nat) (a : Addr), gl[k]? = some g → es[k]? = some a → Holds W g a) : Errs W es :=
  ⟨el, en, fun k hk => by
    have hg : k < gl.length := by show k < 18; omega
    have := eh k gl[k] es[k] (List.getElem?_eq_getElem hg) (List.getElem?_eq_getElem hk)
    rwa [List.getD_eq_getElem?_getD, List.getElem?_eq_getElem hg]⟩
end Go.Proofs.YtmcgkknpkocgoaaGreatDoor.Err
