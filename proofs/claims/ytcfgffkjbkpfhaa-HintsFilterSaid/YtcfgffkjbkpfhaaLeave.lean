/- linkboylaw18.alive; the law HintsLeave. -/
import Derived.Test.YtcfgffkjbkpfhaaZones
import Derived.Test.YtcfgffkjbkpfhaaCandO
namespace Go.Proofs.Ytcfgffkjbkpfhaa.Cand
open Go.RowKit Go.Proofs.Ytcfgffkjbkpfhaa.SortS Go.Proofs.Ytcfgffkjbkpfhaa.Mem Go.Proofs.Ytcfgffkjbkpfhaa.Num Go.Proofs.Ytcfgffkjbkpfhaa.Key
open Go.Proofs.Ytcfgffkjbkpfhaa.Addr hiding below_allocd
set_option linter.unusedVariables false
set_option linter.unusedSimpArgs false
set_option maxRecDepth 100000
attribute [-go_sem] Builtin.append_ loadCells loadCellsFrom storeCells run_eql_struct
def z1 : ByteArray := ⟨#[122, 49]⟩
def aA (b : Nat) : Cd := { cd0 with rdy := true, A := some ⟨b, 0, none⟩, n := 1, c := 1 }
def aB : Cd := { cd0 with rdy := true }
def aZ (x : Cd) : List ByteArray := if x.n = 1 then [z1] else []
theorem z1_ne : z1.toList.isEmpty = false := by decide +kernel
theorem count_ab (b : Nat) : countB z1 aZ [aA b, aB] = false ∧ countB z1 aZ [aA b, aA b] = true := by
  have h1 : rdyL [aA b, aB] = [aA b, aB] := rfl
  have h2 : rdyL [aA b, aA b] = [aA b, aA b] := rfl
  have h3 : bareB aB = true := rfl
  have h4 : bareB (aA b) = false := rfl
  have h5 : memS z1 (aZ (aA b)) = true := by
    have : aZ (aA b) = [z1] := rfl
    rw [this]
    unfold memS
    simp
  unfold countB
  rw [h1, h2, z1_ne]
  simp [h3, h4, h5]
theorem store_cd {P : Program} {b : Nat} {cs : List Value} {W : World} (h : Blk b cs 44 W) (hl : cs.length = 23) (x : Cd) : ∃ W4, (storeCells ⟨b, 0, none⟩ x.cells).run P W = .ok () W4 ∧ Blk b x.cells 44 W4 ∧ Alt (fun k => k = b) W W4 := by
  have hcl := Cd.len x
  have hs := run_storeCells_cells (P := P) b 0 x.cells 0 W (fun j hj => by simpa using ((h.there 0 x.cells.length (by omega)) j hj).1) (fun j hj => ((h.there 0 x.cells.length (by omega)) j (by simpa using hj)).2) x.one
  rw [Nat.add_zero] at hs
  obtain ⟨q1, q2⟩ := setCells_heap x.cells 0 h (by omega)
  rw [splice_all _ _ (by omega)] at q1
  exact ⟨_, hs, q1, q2⟩
set_option maxHeartbeats 4000000 in
theorem alive18_calls (w : World) : Calls Try.prog 24 #[] w fun e w' => e = .returned (.bool true) ∧ Below w.heap.size w w' := by
  have HA : Hid (∀ W v (l : List Cd) q, Row eCd W v l → (∀ x ∈ l, x = aA w.heap.size ∨ x = aB) → l.length = 2 → Row eStr W (.slice (some ⟨w.heap.size, 0, none⟩) 1 1) [z1] → countB z1 aZ l = q → Calls Try.prog 30 #[v, .string z1] W fun e w' => e = .returned (.bool q) ∧ Below W.heap.size W w') := Lib.hid (fun W v l q hr hm hl hs hq => by
    rw [← hq]
    refine count_calls v z1 l aZ W ⟨hr, fun x hx => ?_⟩ (by omega)
    rcases hm x hx with rfl | rfl
    · exact hs
    · exact Row.nil _ _)
  have H1 := Lib.hid (count_ab w.heap.size)
  obtain ⟨W1, hW1⟩ : ∃ W1, W1 = w.alloc (.cells #[.string z1] 9) := ⟨_, rfl⟩
  have hB1 : Below w.heap.size w W1 := by rw [hW1]; exact (Below.refl _ _).alloc (Nat.le_refl _) _
  have hS1 : Row eStr W1 (.slice (some ⟨w.heap.size, 0, none⟩) 1 1) [z1] := by rw [hW1]; exact (Own.lit w 0 eStr 9 [z1] 1 rfl _ rfl (Nat.zero_le _) (by simp)).row
  have hz1 : W1.heap.size = w.heap.size + 1 := by rw [hW1]; simp
  have hk1 : Blk (w.heap.size + 1) [.bool false, .int .u8 0, .int .u8 0, .int .u8 0, .int .u8 0, .int .u8 0, .int .u8 0, .int .u8 0, .int .u8 0, .int .u8 0, .int .u8 0, .int .u8 0, .int .u8 0, .int .u8 0, .int .u8 0, .int .u8 0, .int .u8 0, .int .i64 0, .bool false, .bool false, .bool false, .bool false, .slice none 0 0] 44 ((W1.alloc (.cells #[.bool false, .int .u8 0, .int .u8 0, .int .u8 0, .int .u8 0, .int .u8 0, .int .u8 0, .int .u8 0, .int .u8 0, .int .u8 0, .int .u8 0, .int .u8 0, .int .u8 0, .int .u8 0, .int .u8 0, .int .u8 0, .int .u8 0, .int .i64 0, .bool false, .bool false, .bool false, .bool false, .slice none 0 0] 44)).alloc (.cells #[.bool false, .int .u8 0, .int .u8 0, .int .u8 0, .int .u8 0, .int .u8 0, .int .u8 0, .int .u8 0, .int .u8 0, .int .u8 0, .int .u8 0, .int .u8 0, .int .u8 0, .int .u8 0, .int .u8 0, .int .u8 0, .int .u8 0, .int .i64 0, .bool false, .bool false, .bool false, .bool false, .slice none 0 0] 44)) := (Blk.new W1 _ _ _ _ rfl hz1).alloc _
  have hk2 : Blk (w.heap.size + 1 + 1) [.bool false, .int .u8 0, .int .u8 0, .int .u8 0, .int .u8 0, .int .u8 0, .int .u8 0, .int .u8 0, .int .u8 0, .int .u8 0, .int .u8 0, .int .u8 0, .int .u8 0, .int .u8 0, .int .u8 0, .int .u8 0, .int .u8 0, .int .i64 0, .bool false, .bool false, .bool false, .bool false, .slice none 0 0] 44 ((W1.alloc (.cells #[.bool false, .int .u8 0, .int .u8 0, .int .u8 0, .int .u8 0, .int .u8 0, .int .u8 0, .int .u8 0, .int .u8 0, .int .u8 0, .int .u8 0, .int .u8 0, .int .u8 0, .int .u8 0, .int .u8 0, .int .u8 0, .int .u8 0, .int .i64 0, .bool false, .bool false, .bool false, .bool false, .slice none 0 0] 44)).alloc (.cells #[.bool false, .int .u8 0, .int .u8 0, .int .u8 0, .int .u8 0, .int .u8 0, .int .u8 0, .int .u8 0, .int .u8 0, .int .u8 0, .int .u8 0, .int .u8 0, .int .u8 0, .int .u8 0, .int .u8 0, .int .u8 0, .int .u8 0, .int .i64 0, .bool false, .bool false, .bool false, .bool false, .slice none 0 0] 44)) := Blk.new _ _ _ _ _ rfl (by simp [hz1])
  have hb3 : Below w.heap.size w ((W1.alloc (.cells #[.bool false, .int .u8 0, .int .u8 0, .int .u8 0, .int .u8 0, .int .u8 0, .int .u8 0, .int .u8 0, .int .u8 0, .int .u8 0, .int .u8 0, .int .u8 0, .int .u8 0, .int .u8 0, .int .u8 0, .int .u8 0, .int .u8 0, .int .i64 0, .bool false, .bool false, .bool false, .bool false, .slice none 0 0] 44)).alloc (.cells #[.bool false, .int .u8 0, .int .u8 0, .int .u8 0, .int .u8 0, .int .u8 0, .int .u8 0, .int .u8 0, .int .u8 0, .int .u8 0, .int .u8 0, .int .u8 0, .int .u8 0, .int .u8 0, .int .u8 0, .int .u8 0, .int .u8 0, .int .i64 0, .bool false, .bool false, .bool false, .bool false, .slice none 0 0] 44)) := (hB1.alloc hB1.size _).alloc (size_alloc_le hB1 _) _
  have hS3 : Row eStr ((W1.alloc (.cells #[.bool false, .int .u8 0, .int .u8 0, .int .u8 0, .int .u8 0, .int .u8 0, .int .u8 0, .int .u8 0, .int .u8 0, .int .u8 0, .int .u8 0, .int .u8 0, .int .u8 0, .int .u8 0, .int .u8 0, .int .u8 0, .int .u8 0, .int .i64 0, .bool false, .bool false, .bool false, .bool false, .slice none 0 0] 44)).alloc (.cells #[.bool false, .int .u8 0, .int .u8 0, .int .u8 0, .int .u8 0, .int .u8 0, .int .u8 0, .int .u8 0, .int .u8 0, .int .u8 0, .int .u8 0, .int .u8 0, .int .u8 0, .int .u8 0, .int .u8 0, .int .u8 0, .int .u8 0, .int .i64 0, .bool false, .bool false, .bool false, .bool false, .slice none 0 0] 44)) (.slice (some ⟨w.heap.size, 0, none⟩) 1 1) [z1] := (hS1.alloc _).alloc _
  obtain ⟨W4, s4, k4, a4⟩ := store_cd (P := Try.prog) hk1 rfl (aA w.heap.size)
  have hk24 := hk2.alt a4 (by omega)
  obtain ⟨W5, s5, k5, a5⟩ := store_cd (P := Try.prog) hk24 rfl aB
  have hk15 := k4.alt a5 (by omega)
  have hb5 : Below w.heap.size w W5 := below_alt (below_alt hb3 a4 hb3.size (fun k hk => by omega)) a5 (Nat.le_trans hb3.size a4.size) (fun k hk => by omega)
  have hS5 : Row eStr W5 (.slice (some ⟨w.heap.size, 0, none⟩) 1 1) [z1] := (hS3.alt a4 (fun ad had => by cases had; show ¬ w.heap.size = _; omega)).alt a5 (fun ad had => by cases had; show ¬ w.heap.size = _; omega)
  rw [hW1] at s4
  have s4' : (storeCells ⟨w.heap.size + 1, 0, none⟩ [.bool false, .int .u8 0, .int .u8 0, .int .u8 0, .int .u8 0, .int .u8 0, .int .u8 0, .int .u8 0, .int .u8 0, .int .u8 0, .int .u8 0, .int .u8 0, .int .u8 0, .int .u8 0, .int .u8 0, .int .u8 0, .int .u8 0, .int .i64 0, .bool false, .bool true, .bool false, .bool false, .slice (some ⟨w.heap.size, 0, none⟩) 1 1]).run Try.prog (((w.alloc (.cells #[.string z1] 9)).alloc (.cells #[.bool false, .int .u8 0, .int .u8 0, .int .u8 0, .int .u8 0, .int .u8 0, .int .u8 0, .int .u8 0, .int .u8 0, .int .u8 0, .int .u8 0, .int .u8 0, .int .u8 0, .int .u8 0, .int .u8 0, .int .u8 0, .int .u8 0, .int .i64 0, .bool false, .bool false, .bool false, .bool false, .slice none 0 0] 44)).alloc (.cells #[.bool false, .int .u8 0, .int .u8 0, .int .u8 0, .int .u8 0, .int .u8 0, .int .u8 0, .int .u8 0, .int .u8 0, .int .u8 0, .int .u8 0, .int .u8 0, .int .u8 0, .int .u8 0, .int .u8 0, .int .u8 0, .int .u8 0, .int .i64 0, .bool false, .bool false, .bool false, .bool false, .slice none 0 0] 44)) = .ok () W4 := s4
  have s5' : (storeCells ⟨w.heap.size + 1 + 1, 0, none⟩ [.bool false, .int .u8 0, .int .u8 0, .int .u8 0, .int .u8 0, .int .u8 0, .int .u8 0, .int .u8 0, .int .u8 0, .int .u8 0, .int .u8 0, .int .u8 0, .int .u8 0, .int .u8 0, .int .u8 0, .int .u8 0, .int .u8 0, .int .i64 0, .bool false, .bool true, .bool false, .bool false, .slice none 0 0]).run Try.prog W4 = .ok () W5 := s5
  have HLD : Hid (∀ W, Below W5.heap.size W5 W → (loadCells ⟨w.heap.size + 1, 0, none⟩ 23).run Try.prog W = .ok #[.bool false, .int .u8 0, .int .u8 0, .int .u8 0, .int .u8 0, .int .u8 0, .int .u8 0, .int .u8 0, .int .u8 0, .int .u8 0, .int .u8 0, .int .u8 0, .int .u8 0, .int .u8 0, .int .u8 0, .int .u8 0, .int .u8 0, .int .i64 0, .bool false, .bool true, .bool false, .bool false, .slice (some ⟨w.heap.size, 0, none⟩) 1 1] W ∧ (loadCells ⟨w.heap.size + 1 + 1, 0, none⟩ 23).run Try.prog W = .ok #[.bool false, .int .u8 0, .int .u8 0, .int .u8 0, .int .u8 0, .int .u8 0, .int .u8 0, .int .u8 0, .int .u8 0, .int .u8 0, .int .u8 0, .int .u8 0, .int .u8 0, .int .u8 0, .int .u8 0, .int .u8 0, .int .u8 0, .int .i64 0, .bool false, .bool true, .bool false, .bool false, .slice none 0 0] W) := Lib.hid (fun W hW => ⟨(hk15.below hW).load 0 23 _ rfl rfl, (k5.below hW).load 0 23 _ rfl rfl⟩)
  have HS5 := Lib.hid hS5
  have HB5 := Lib.hid hb5
  have KC1 : Hid (Calls Try.prog 30 #[.slice (some ⟨W5.heap.size, 0, none⟩) 2 2, .string ⟨#[122, 49]⟩] (W5.alloc (.cells #[.bool false, .int .u8 0, .int .u8 0, .int .u8 0, .int .u8 0, .int .u8 0, .int .u8 0, .int .u8 0, .int .u8 0, .int .u8 0, .int .u8 0, .int .u8 0, .int .u8 0, .int .u8 0, .int .u8 0, .int .u8 0, .int .u8 0, .int .i64 0, .bool false, .bool true, .bool false, .bool false, .slice (some ⟨w.heap.size, 0, none⟩) 1 1, .bool false, .int .u8 0, .int .u8 0, .int .u8 0, .int .u8 0, .int .u8 0, .int .u8 0, .int .u8 0, .int .u8 0, .int .u8 0, .int .u8 0, .int .u8 0, .int .u8 0, .int .u8 0, .int .u8 0, .int .u8 0, .int .u8 0, .int .i64 0, .bool false, .bool true, .bool false, .bool false, .slice none 0 0] 44)) fun e w' => e = .returned (.bool false) ∧ Below W5.heap.size W5 w') := Lib.hid (by
    have hr : Row eCd (W5.alloc (.cells #[.bool false, .int .u8 0, .int .u8 0, .int .u8 0, .int .u8 0, .int .u8 0, .int .u8 0, .int .u8 0, .int .u8 0, .int .u8 0, .int .u8 0, .int .u8 0, .int .u8 0, .int .u8 0, .int .u8 0, .int .u8 0, .int .u8 0, .int .i64 0, .bool false, .bool true, .bool false, .bool false, .slice (some ⟨w.heap.size, 0, none⟩) 1 1, .bool false, .int .u8 0, .int .u8 0, .int .u8 0, .int .u8 0, .int .u8 0, .int .u8 0, .int .u8 0, .int .u8 0, .int .u8 0, .int .u8 0, .int .u8 0, .int .u8 0, .int .u8 0, .int .u8 0, .int .u8 0, .int .u8 0, .int .i64 0, .bool false, .bool true, .bool false, .bool false, .slice none 0 0] 44)) (.slice (some ⟨W5.heap.size, 0, none⟩) 2 2) [aA w.heap.size, aB] := (Own.lit W5 0 eCd 44 [aA w.heap.size, aB] 2 rfl _ rfl (Nat.zero_le _) (by simp)).row
    have hm : ∀ x ∈ [aA w.heap.size, aB], x = aA w.heap.size ∨ x = aB := fun x hx => by
      rcases List.mem_cons.1 hx with h | h
      · exact .inl h
      · exact .inr (List.mem_singleton.1 h)
    have hc := HA.out _ _ _ false hr hm rfl (HS5.out.alloc _) H1.out.1
    refine hc.mono ?_
    rintro e w6 ⟨rfl, hb6⟩
    exact ⟨rfl, below_allocd hb6⟩)
  have KC2 : Hid (∀ W, Below W5.heap.size W5 W → Calls Try.prog 30 #[.slice (some ⟨W.heap.size, 0, none⟩) 2 2, .string ⟨#[122, 49]⟩] (W.alloc (.cells #[.bool false, .int .u8 0, .int .u8 0, .int .u8 0, .int .u8 0, .int .u8 0, .int .u8 0, .int .u8 0, .int .u8 0, .int .u8 0, .int .u8 0, .int .u8 0, .int .u8 0, .int .u8 0, .int .u8 0, .int .u8 0, .int .u8 0, .int .i64 0, .bool false, .bool true, .bool false, .bool false, .slice (some ⟨w.heap.size, 0, none⟩) 1 1, .bool false, .int .u8 0, .int .u8 0, .int .u8 0, .int .u8 0, .int .u8 0, .int .u8 0, .int .u8 0, .int .u8 0, .int .u8 0, .int .u8 0, .int .u8 0, .int .u8 0, .int .u8 0, .int .u8 0, .int .u8 0, .int .u8 0, .int .i64 0, .bool false, .bool true, .bool false, .bool false, .slice (some ⟨w.heap.size, 0, none⟩) 1 1] 44)) fun e w' => e = .returned (.bool true) ∧ Below W.heap.size W w') := Lib.hid (fun W hW => by
    have hr : Row eCd (W.alloc (.cells #[.bool false, .int .u8 0, .int .u8 0, .int .u8 0, .int .u8 0, .int .u8 0, .int .u8 0, .int .u8 0, .int .u8 0, .int .u8 0, .int .u8 0, .int .u8 0, .int .u8 0, .int .u8 0, .int .u8 0, .int .u8 0, .int .u8 0, .int .i64 0, .bool false, .bool true, .bool false, .bool false, .slice (some ⟨w.heap.size, 0, none⟩) 1 1, .bool false, .int .u8 0, .int .u8 0, .int .u8 0, .int .u8 0, .int .u8 0, .int .u8 0, .int .u8 0, .int .u8 0, .int .u8 0, .int .u8 0, .int .u8 0, .int .u8 0, .int .u8 0, .int .u8 0, .int .u8 0, .int .u8 0, .int .i64 0, .bool false, .bool true, .bool false, .bool false, .slice (some ⟨w.heap.size, 0, none⟩) 1 1] 44)) (.slice (some ⟨W.heap.size, 0, none⟩) 2 2) [aA w.heap.size, aA w.heap.size] := (Own.lit W 0 eCd 44 [aA w.heap.size, aA w.heap.size] 2 rfl _ rfl (Nat.zero_le _) (by simp)).row
    have hm : ∀ x ∈ [aA w.heap.size, aA w.heap.size], x = aA w.heap.size ∨ x = aB := fun x hx => by
      rcases List.mem_cons.1 hx with h | h
      · exact .inl h
      · exact .inl (List.mem_singleton.1 h)
    have hc := HA.out _ _ _ true hr hm rfl ((HS5.out.below hW).alloc _) H1.out.2
    refine hc.mono ?_
    rintro e w6 ⟨rfl, hb6⟩
    exact ⟨rfl, below_allocd hb6⟩)
  obtain ⟨l1, l2⟩ := HLD.out _ (Below.refl _ _)
  clear hW1 hB1 hS1 hz1 hk1 hk2 hb3 hS3 s4 k4 a4 hk24 s5 k5 a5 hk15 hb5 hS5
  unfold z1 at s4'
  go_enter Try.func24, Try.ntmps24
  go_wp2_with (first
    | (go_at_call 30; ((with_reducible refine KC1.out.mono ?_); rintro e w6 ⟨rfl, hb6⟩; have HB6 := Lib.hid hb6; obtain ⟨l3, l4⟩ := HLD.out _ hb6; clear hb6))
    | (go_at_call 30; ((with_reducible refine (KC2.out _ HB6.out).mono ?_); rintro e w7 ⟨rfl, hb7⟩; have HB7 := Lib.hid (HB6.out.trans (hb7.mono HB6.out.size)); clear hb7)))
  go_ret
  exact ⟨rfl, HB5.out.trans (HB7.out.mono HB5.out.size)⟩
end Go.Proofs.Ytcfgffkjbkpfhaa.Cand
