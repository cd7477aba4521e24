/- event.Frame of a bookmark; event.Word; the chapter's example; the law EventWords. -/
import Derived.Test.YtjpppkhoddggbaaGreatDoorEvA
import Derived.Test.YtjpppkhoddggbaaGreatDoorBox
import Derived.Test.YtjpppkhoddggbaaGreatDoorBlk
import Derived.Deep.RegionHeld3
import Derived.Deep.DeepCutAuto
namespace Go.Proofs.YtjpppkhoddggbaaGreatDoor.Ev
open Go.RowKit Go.Proofs.YtjpppkhoddggbaaGreatDoor.Mem Go.Proofs.YtjpppkhoddggbaaGreatDoor.Num Go.Proofs.YtjpppkhoddggbaaGreatDoor.Concat Go.Proofs.YtjpppkhoddggbaaGreatDoor.Laid
set_option linter.unusedVariables false
set_option linter.unusedSimpArgs false
set_option maxRecDepth 100000
theorem known_calls (n : Int) (w : World) :
    Calls Tryz.prog 7 #[.int .i64 n] w fun e w' => e = .returned (.bool (decide (1 ≤ n ∧ n ≤ 9))) ∧ w = w' := by
  by_cases h1 : 1 ≤ n
  · go_enter Tryz.func7, Tryz.ntmps7
    go_wp2
    go_ret
    exact ⟨by simp [h1], rfl⟩
  · go_enter Tryz.func7, Tryz.ntmps7
    go_wp2
    go_ret
    exact ⟨by simp; omega, rfl⟩
theorem versions_calls (w : World) :
    Calls Tryz.prog 8 #[.int .i64 5] w fun e w' => e = .returned (.bool true) ∧ w = w' := by
  go_enter Tryz.func8, Tryz.ntmps8
  go_wp2
  go_ret
  exact ⟨rfl, rfl⟩
abbrev evA : List Value := [.int .i64 7, .int .i64 5, .string ByteArray.empty, .string ByteArray.empty, .int .i64 0, .slice none 0 0, .slice none 0 0, .slice none 0 0, .slice none 0 0, .slice none 0 0, .bool false, .bool false, .bool false, .int .i64 0, .bool false,
  .string ByteArray.empty, .string ByteArray.empty, .string ByteArray.empty, .bool false, .slice none 0 0, .slice none 0 0, .string ByteArray.empty, .string ByteArray.empty, .slice none 0 0, .string ByteArray.empty, .string ByteArray.empty, .string ByteArray.empty]
theorem content_calls (ea : Array Value) (he : ea.size = 27) (h0 : ea[0]? = some (.int .i64 7)) (w : World) :
    Calls Tryz.prog 9 #[.agg ea] w fun e w' => e = .returned (.bool true) ∧ Below w.heap.size w w' := by
  have hc : (w.alloc (.cells ea 46)).cell? ⟨w.heap.size, 0, none⟩ = some (.int .i64 7) := by unfold World.cell?; rw [World.alloc_heap_new]; exact h0
  go_enter Tryz.func9, Tryz.ntmps9
  go_wp2
  go_ret
  exact ⟨rfl, by go_grown⟩
theorem body_calls (ea : Array Value) (he : ea.size = 27) (h0 : ea[0]? = some (.int .i64 7)) (w : World) :
    Calls Tryz.prog 12 #[.agg ea] w fun e w' => e = .returned (.slice none 0 0) ∧ Below w.heap.size w w' := by
  have hc : (w.alloc (.cells ea 46)).cell? ⟨w.heap.size, 0, none⟩ = some (.int .i64 7) := by unfold World.cell?; rw [World.alloc_heap_new]; exact h0
  go_enter Tryz.func12, Tryz.ntmps12
  go_wp2
  go_ret
  exact ⟨rfl, by go_grown⟩
abbrev five : List UInt8 := [0, 0, 0, 0, 0, 0, 0, 5]
theorem num5 (w : World) : Calls Tryz.prog 10 #[.int .i64 5, .int .i64 8] w fun e w' => (∃ A n c, e = .returned (.tuple #[.slice A n c, .nilIface]) ∧ Hid (Row eU8 w' (.slice A n c) five)) ∧ Below w.heap.size w w' := by
  refine (num_calls 5 8 w (by omega) (by omega) (by omega) (fun h => by omega)).mono ?_
  rintro e w1 ⟨⟨v, ho, rfl⟩, hb⟩
  obtain ⟨A, c, rfl, _, _, hr⟩ := ho.row.parts
  have h5 : beBytes 5 8 = five := by decide
  rw [h5] at hr
  exact ⟨⟨A, _, c, rfl, Lib.hid (by rw [h5]; exact hr)⟩, hb⟩
theorem concat5 (v : Value) (w : World) (hv : Go.Proofs.YtjpppkhoddggbaaGreatDoor.Concat.Rows w v [five, []]) : Calls Tryz.prog 11 #[v] w fun e w' => (∃ g c, e = .returned (.slice (some ⟨g, 0, none⟩) 8 c) ∧ Hid (w.heap.size ≤ g ∧ g < w'.heap.size ∧ Row eU8 w' (.slice (some ⟨g, 0, none⟩) 8 c) five)) ∧ Below w.heap.size w w' := by
  refine (Concat.concat_calls v _ w hv (by decide) (by decide)).mono ?_
  rintro e w1 ⟨⟨v', rfl, ho⟩, hb⟩
  have ho' : Mem.Own eU8 5 w.heap.size w1 v' five := ho
  have hr := ho'.row
  obtain ⟨h1, h2⟩ := ho'
  rcases h2 with ⟨h2, _⟩ | ⟨g, cap, cur, he, hg, hh, hn, hm, hs, ht⟩
  · subst h2
    exact absurd hr.len (by decide)
  · subst he
    have hl := hr.len
    exact ⟨⟨g, cap, rfl, Lib.hid ⟨hg, (Array.getElem?_eq_some_iff.1 hh).1, hr⟩⟩, hb⟩
theorem frbytes5 (A : Option Addr) (n c : Nat) (w : World) (hv : Row eU8 w (.slice A n c) five) :
    Calls Tryz.prog 13 #[.agg #[.int .i64 7, .slice A n c]] w fun e w' => (∃ v, e = .returned (.tuple #[v, .nilIface])) ∧ Below w.heap.size w w' := by
  have hl := hv.len
  refine (frbytes_ok 7 A n c five w (by simp at hl; omega) hv).mono ?_
  rintro e w1 ⟨⟨v, rfl, _⟩, hb⟩
  exact ⟨⟨v, rfl⟩, hb⟩
theorem rows5 (W : World) (g : Nat) (hg : W.heap.size = g) (A : Option Addr) (n c : Nat) (t : TypeId) (h : Row eU8 W (.slice A n c) five) :
    Go.Proofs.YtjpppkhoddggbaaGreatDoor.Concat.Rows (W.alloc (.cells #[.slice A n c, .slice none 0 0] t)) (.slice (some ⟨g, 0, none⟩) 2 2) [five, []] :=
  rows2 W g hg (A, n, c) (none, 0, 0) five [] t h (Row.nil _ _)
theorem rows5a (W : World) (o : Obj) (v : Value) (ls : List (List UInt8)) (h : Go.Proofs.YtjpppkhoddggbaaGreatDoor.Concat.Rows W v ls) : Go.Proofs.YtjpppkhoddggbaaGreatDoor.Concat.Rows (W.alloc o) v ls := by
  obtain ⟨xs, hr, hl, hall⟩ := h
  exact ⟨xs, hr.alloc _, hl, fun k h h' => (hall k h h').alloc _⟩
def FrCut (w : World) (b : Nat) (W : World) : Prop := (∃ A n c, Box b #[.int .i64 7, .slice A n c] W ∧ Row eU8 W (.slice A n c) five ∧ ∀ ad, A = some ad → ad.block ≠ w.heap.size + 1) ∧ Box (w.heap.size + 1) #[.int .i64 0, .slice none 0 0] W ∧ w.heap.size + 1 < b ∧ Below w.heap.size w W
theorem frCut_new {w w2 W : World} {o : Obj} {t t2 : TypeId} {g c : Nat} (h2 : Below ((w.alloc o).alloc (.cells #[.int .i64 0, .slice none 0 0] t)).heap.size ((w.alloc o).alloc (.cells #[.int .i64 0, .slice none 0 0] t)) w2)
    (h6 : Below w2.heap.size w2 W) (hgl : w2.heap.size ≤ g) (hr : Row eU8 W (.slice (some ⟨g, 0, none⟩) 8 c) five) :
    FrCut w W.heap.size (W.alloc (.cells #[.int .i64 7, .slice (some ⟨g, 0, none⟩) 8 c] t2)) := by
  have hz := h2.size
  have hz2 : ((w.alloc o).alloc (.cells #[.int .i64 0, .slice none 0 0] t)).heap.size = w.heap.size + 1 + 1 := by simp
  have hz6 := h6.size
  rw [hz2] at hz
  have hR := ((Box.new (w.alloc o) #[.int .i64 0, .slice none 0 0] t (w.heap.size + 1) (by simp)).below h2).below h6
  exact ⟨⟨some ⟨g, 0, none⟩, 8, c, Box.new W _ _ _ rfl, hr.alloc _, by intro ad he; cases he; show g ≠ w.heap.size + 1; omega⟩, hR.alloc _, by omega, (below_allocd (below_allocd (h2.trans (h6.mono h2.size)))).alloc (by omega) _⟩
theorem load2 {P : Program} {W : World} {b : Nat} {x y : Value} (h : Box b #[x, y] W) : (loadCells ⟨b, 0, none⟩ 2).run P W = .ok #[x, y] W :=
  run_loadCells_list (P := P) W ⟨b, 0, none⟩ [x, y] (fun j v hv => by
    have hadd : (⟨b, 0, none⟩ : Addr).add j = ⟨b, 0 + j, none⟩ := by unfold Addr.add; split <;> simp_all
    rw [hadd, Nat.zero_add]
    exact h.cell j v (by simpa using hv))
theorem row_set2 {w W : World} {A : Option Addr} {n c b : Nat} {u v : Value} (h : Row eU8 W (.slice A n c) five) (hn : ∀ ad, A = some ad → ad.block ≠ b) : Row eU8 ((W.setCell ⟨b, 0, none⟩ u).setCell ⟨b, 1, none⟩ v) (.slice A n c) five :=
  h.alt ((Alt.set (R := (· = b)) _ rfl).trans (Alt.set _ rfl)) hn
theorem frCut_of {w w2 W : World} {o : Obj} {t : TypeId} {b g c : Nat} (h2 : Below ((w.alloc o).alloc (.cells #[.int .i64 0, .slice none 0 0] t)).heap.size ((w.alloc o).alloc (.cells #[.int .i64 0, .slice none 0 0] t)) w2)
    (h6 : Below w2.heap.size w2 W) (X : Box b #[.int .i64 0, .slice none 0 0] W) (hb : w2.heap.size ≤ b) (hg : b ≠ g) (hgl : w2.heap.size ≤ g) (hr : Row eU8 W (.slice (some ⟨g, 0, none⟩) 8 c) five) :
    FrCut w b ((W.setCell ⟨b, 0, none⟩ (.int .i64 7)).setCell ⟨b, 1, none⟩ (.slice (some ⟨g, 0, none⟩) 8 c)) := by
  have hz := h2.size
  have hz2 : ((w.alloc o).alloc (.cells #[.int .i64 0, .slice none 0 0] t)).heap.size = w.heap.size + 1 + 1 := by simp
  rw [hz2] at hz
  have ha : Alt (· = b) W ((W.setCell ⟨b, 0, none⟩ (.int .i64 7)).setCell ⟨b, 1, none⟩ (.slice (some ⟨g, 0, none⟩) 8 c)) := (Alt.set (R := (· = b)) _ rfl).trans (Alt.set _ rfl)
  have hR := ((Box.new (w.alloc o) #[.int .i64 0, .slice none 0 0] t (w.heap.size + 1) (by simp)).below h2).below h6
  refine ⟨⟨some ⟨g, 0, none⟩, 8, c, (X.set 0 (.int .i64 7) (show 0 < 2 by decide)).set 1 _ (show 1 < 2 by decide), hr.alt ha (by intro ad he; cases he; exact fun e => hg e.symm), by intro ad he; cases he; show g ≠ w.heap.size + 1; omega⟩, hR.alt ha (by show ¬ (w.heap.size + 1 = b); omega), by omega, ?_⟩
  exact below_alt (below_allocd (below_allocd (h2.trans (h6.mono h2.size)))) ha (Nat.le_trans (by omega) h6.size) (by rintro k rfl; omega)
def words : List (List UInt8) := [[], [112, 117, 116, 45, 115, 101, 114, 118, 105, 99, 101], [112, 117, 116, 45, 115, 108, 105, 99, 101], [112, 117, 116, 45, 110, 111, 100, 101], [100, 114, 111, 112, 45, 115, 101, 114, 118, 105, 99, 101], [100, 114, 111, 112, 45, 115, 108, 105, 99, 101], [100, 114, 111, 112, 45, 110, 111, 100, 101], [98, 111, 111, 107, 109, 97, 114, 107], [114, 101, 108, 105, 115, 116], [108, 105, 115, 116, 101, 100]]
/-- A kind's name. -/
def wordOf (n : Int) : List UInt8 := if 1 ≤ n ∧ n ≤ 9 then words.getD n.toNat [] else []
theorem word_calls (n : Int) (w : World) (hw : Strs w 0 words) :
    Calls Tryz.prog 5 #[.int .i64 n] w fun e w' => e = .returned (.string (str (wordOf n))) ∧ w = w' := by
  have KN := Lib.hid (fun W => known_calls n W)
  by_cases g1 : 1 ≤ n ∧ n ≤ 9
  · have hd : decide (1 ≤ n ∧ n ≤ 9) = true := decide_eq_true g1
    rw [hd] at KN
    clear hd
    obtain ⟨m, rfl⟩ : ∃ m : Nat, n = m := ⟨n.toNat, by omega⟩
    have h0 : w.cell? ⟨0, m, none⟩ = some (.string (str (wordOf m))) := by
      unfold wordOf
      rw [if_pos g1]
      refine hw m _ ?_
      show words[m]? = some (words.getD m [])
      rw [List.getD_eq_getElem?_getD, List.getElem?_eq_getElem (show m < words.length by show m < 10; omega)]
      rfl
    generalize str (wordOf m) = s at h0 ⊢
    clear hw
    go_enter Tryz.func5, Tryz.ntmps5
    go_wp2_with (go_at_call 7; ((with_reducible refine (KN.out _).mono ?_); rintro e w1 ⟨rfl, rfl⟩))
    go_ret
    exact ⟨rfl, rfl⟩
  · have hd : decide (1 ≤ n ∧ n ≤ 9) = false := decide_eq_false g1
    rw [hd] at KN
    clear hd hw
    have hwd : wordOf n = [] := by unfold wordOf; rw [if_neg g1]
    rw [hwd]
    clear hwd
    have G1 := Lib.hid g1
    clear g1
    go_enter Tryz.func5, Tryz.ntmps5
    go_wp2_with (go_at_call 7; ((with_reducible refine (KN.out _).mono ?_); rintro e w1 ⟨rfl, rfl⟩))
    go_ret
    exact ⟨rfl, rfl⟩
end Go.Proofs.YtjpppkhoddggbaaGreatDoor.Ev
