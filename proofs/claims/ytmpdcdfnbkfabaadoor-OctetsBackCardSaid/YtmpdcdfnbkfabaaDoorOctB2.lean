/- octets.Cursor: numbers, texts, flags. -/
import Derived.Test.YtmpdcdfnbkfabaaDoorOctB
namespace Go.Proofs.YtmpdcdfnbkfabaaDoor.Octets
open Go.RowKit Go.Proofs.YtmpdcdfnbkfabaaDoor.Mem Go.Proofs.YtmpdcdfnbkfabaaDoor.Err Go.Proofs.YtmpdcdfnbkfabaaDoor.Num
set_option linter.unusedVariables false
set_option linter.unusedSimpArgs false
set_option maxRecDepth 100000
attribute [-go_sem] Builtin.append_
theorem ret_u64 {a b : Int} (h : a = b) : Ending.returned (.int .u64 a) = .returned (.int .u64 b) := by rw [h]
theorem number_calls (v : Value) (l : List UInt8) (w : World) (hv : Row eU8 w v l) (hl : l.length ≤ 8) :
    Calls Tryd.prog 75 #[v] w fun e w' => e = .returned (.int .u64 (beVal l : Int)) ∧ w = w' := by
  obtain ⟨A, c, rfl, hc, hm, hr⟩ := hv.parts
  have HR := Lib.hid hr
  clear hr hv
  go_enter Tryd.func75, Tryd.ntmps75
  go_wp2
  go_loop [3, 8] (fun nv iv => ∃ k : Nat, k ≤ l.length ∧ iv = .int .i64 (k : Int) ∧ nv = .int .u64 (beVal (l.take k) : Int)) (fun _ iv => l.length - (intOf iv).toNat)
  case atStart => exact ⟨0, Nat.zero_le _, rfl, rfl⟩
  case round =>
    obtain ⟨k, hk, rfl, rfl⟩ := hrel
    by_cases hlt : k < l.length
    · obtain ⟨ad, rfl, hcell⟩ := HR.out.atU8 hlt
      have hs := beVal_snoc (l.take k) l[k]
      rw [← List.take_succ_eq_append_getElem hlt] at hs
      have hb := beVal_lt (l.take k)
      have hp : 256 ^ (l.take k).length ≤ 256 ^ 7 := Nat.pow_le_pow_right (by decide) (by rw [List.length_take]; omega)
      have hx := l[k].toNat_lt
      generalize beVal (l.take k) = m at hs hb ⊢
      generalize l[k] = x at hcell hs hx
      have HS := Lib.hid hs
      have hm : m < 72057594037927936 := Nat.lt_of_lt_of_le hb hp
      have hj := join64 m x.toNat hm hx
      have hm1 : (m : Int) < 72057594037927936 := by omega
      have hx1 : (x.toNat : Int) < 256 := by omega
      clear hs hb hp hm hx
      go_wp2
      go_round
      case rel => exact ⟨k + 1, by omega, rfl, by rw [HS.out]; simp⟩
      case measure => simp [intOf]; omega
    · have hkl : k = l.length := by omega
      subst hkl
      rw [List.take_length]
      go_wp2
      go_ret
      exact ⟨rfl, rfl⟩
/-- A cursor: the bytes, the place; nothing is wrong. -/
abbrev curA (ad : Addr) (n cc pos : Nat) : Array Value := #[.slice (some ad) n cc, .int .i64 (pos : Int), .nilIface]
theorem cur_step {c : Nat} {ad : Addr} {n cc pos k : Nat} {w : World} (h : Box c (curA ad n cc pos) w) (m : Nat) : Box c (curA ad n cc (pos + k)) ((w.drewN m).setCell ⟨c, 1, none⟩ (.int .i64 ((pos : Int) + (k : Int)))) ∧ Alt (fun b => b = c) w ((w.drewN m).setCell ⟨c, 1, none⟩ (.int .i64 ((pos : Int) + (k : Int)))) := by
  have h1 : Box c (curA ad n cc pos) (w.drewN m) := h.below (below_drewN (Below.refl _ _) m)
  have h2 := h1.set 1 (.int .i64 ((pos : Int) + (k : Int))) (show 1 < 3 by decide)
  have e : curA ad n cc (pos + k) = #[.slice (some ad) n cc, .int .i64 ((pos : Int) + (k : Int)), .nilIface] := by unfold curA; rw [Int.natCast_add]
  rw [e]
  exact ⟨h2, ((Alt.refl _ w).drewN m).trans (Alt.set _ rfl)⟩
theorem cell1_of {w : World} {A : Addr} {v : Value} (h : w.cell? (A.add 0) = some v) : w.cell? A = some v := by simpa [Addr.add] using h
theorem cur_num (c : Nat) (ad : Addr) (n cc pos k : Nat) (K : Int) (m : Nat) (all : List UInt8) (w : World) (hx : Box c (curA ad n cc pos) w) (hr : Row eU8 w (.slice (some ad) n cc) all) (hK : K = (k : Int)) (hk : 1 ≤ k) (hk8 : k ≤ 8) (hle : pos + k ≤ n) (hn : n ≤ 1000000)
    (hm : (all.take (pos + k)).drop pos = beBytes m k) (hmk : m < 256 ^ k) (hm2 : m ≤ 4611686018427387904) :
    Calls Tryd.prog 51 #[.pointer (some ⟨c, 0, none⟩), .int .i64 K] w fun e w' => e = .returned (.int .i64 (m : Int)) ∧ Box c (curA ad n cc (pos + k)) w' ∧ Alt (fun b => b = c) w w' := by
  subst hK
  have KN := Lib.hid (fun W hx hr => next_calls c ad n cc pos k _ all W hx hr rfl hk hle hn)
  rw [hm] at KN
  have KB := Lib.hid (fun W v hv => (beVal_be m k hmk) ▸ number_calls v (beBytes m k) W hv (by rw [beBytes_len]; omega))
  have HX := Lib.hid hx
  have HR := Lib.hid hr
  obtain ⟨c0, c1, c2⟩ := hx.c3
  obtain ⟨f0, f1, f2, _⟩ := hx.f4
  have hk' : 1 ≤ (k : Int) := by omega
  have hk8' : (k : Int) ≤ 8 := by omega
  have hm2' : (m : Int) ≤ 4611686018427387904 := by omega
  clear hx hr hm hmk hm2
  go_enter Tryd.func51, Tryd.ntmps51
  go_wp2_with (first
    | (go_at_call 73; ((with_reducible refine (KN.out _ HX.out HR.out).mono ?_); rintro e w1 ⟨⟨A1, rfl, hr1, _⟩, m1, rfl⟩; have HR1 := Lib.hid hr1; clear hr1))
    | (go_at_call 75; ((with_reducible refine (KB.out _ _ HR1.out).mono ?_); rintro e w2 ⟨rfl, rfl⟩)))
  go_ret
  exact ⟨rfl, (cur_step HX.out _).1, (cur_step HX.out _).2⟩
theorem cur_text (c : Nat) (ad : Addr) (n cc pos : Nat) (s : List UInt8) (all : List UInt8) (w : World) (hx : Box c (curA ad n cc pos) w) (hr : Row eU8 w (.slice (some ad) n cc) all) (hs : s.length ≤ 255) (hle : pos + (1 + s.length) ≤ n) (hn : n ≤ 1000000) (hne : ad.block ≠ c)
    (hm : (all.take (pos + (1 + s.length))).drop pos = UInt8.ofNat s.length :: s) :
    Calls Tryd.prog 52 #[.pointer (some ⟨c, 0, none⟩), .int .i64 255] w fun e w' => e = .returned (.string (str s)) ∧ Box c (curA ad n cc (pos + (1 + s.length))) w' ∧ Alt (fun b => b = c) w w' := by
  have hm1 : (all.take (pos + 1)).drop pos = [UInt8.ofNat s.length] := by
    have h1 : (all.take (pos + 1)).drop pos = ((all.take (pos + (1 + s.length))).drop pos).take 1 := by
      rw [List.take_drop, List.take_take, show min (pos + 1) (pos + (1 + s.length)) = pos + 1 by omega]
    rw [h1, hm]; rfl
  have KN := Lib.hid (fun W hx hr => next_calls c ad n cc pos 1 1 all W hx hr rfl (by omega) (by omega) hn)
  rw [hm1] at KN
  have KM := Lib.hid (fun W hx hr => next_calls c ad n cc pos (1 + s.length) (1 + (s.length : Int)) all W hx hr (by omega) (by omega) hle hn)
  rw [hm] at KM
  have hb : (UInt8.ofNat s.length).toNat = s.length := UInt8.toNat_ofNat_of_lt' (by show s.length < 256; omega)
  have hlen : (UInt8.ofNat s.length :: s).length = 1 + s.length := by simp; omega
  have HB := Lib.hid hb
  have HL := Lib.hid hlen
  have HX := Lib.hid hx
  have HR := Lib.hid hr
  have hsl : (s.length : Int) ≤ 255 := by omega
  obtain ⟨c0, c1, c2⟩ := hx.c3
  obtain ⟨f0, f1, f2, _⟩ := hx.f4
  have HS := Lib.hid hs
  have HNE := Lib.hid hne
  clear hx hr hm hm1 hb hlen hs hne
  generalize UInt8.ofNat s.length = x at KN KM HB HL
  go_enter Tryd.func52, Tryd.ntmps52
  go_wp2_with (first
    | (go_at_call 73; ((with_reducible refine (KN.out _ HX.out HR.out).mono ?_); rintro e w1 ⟨⟨A1, rfl, hr1, _⟩, m1, rfl⟩; have hnil := fun W => Go.run_eql_slice_nil (P := Tryd.prog) W 27 5 (some A1) 1 1 Tryd.underlying27; obtain ⟨ad1, ha1, hcell⟩ := hr1.atU8 (k := 0) (by simp); cases ha1; simp only [List.getElem_cons_zero, HB.out] at hcell; have hcell1 : (w.drewN m1).cell? A1 = some (.int .u8 (s.length : Int)) := (by simpa [Addr.add] using hcell); have HX1 := Lib.hid (HX.out.below (below_drewN (Below.refl _ _) m1)); have HR1 := Lib.hid (HR.out.drewN m1); clear hr1 hcell))
    | (go_at_call 73; ((with_reducible refine (KM.out _ HX1.out HR1.out).mono ?_); rintro e w2 ⟨⟨A2, rfl, hr2, hbk2⟩, m2, rfl⟩; have hnil2 := fun W => Go.run_eql_slice_nil (P := Tryd.prog) W 27 5 (some A2) (1 + s.length) (1 + s.length) Tryd.underlying27; obtain ⟨A5, hcut, hrow5⟩ := row_cut1 (P := Tryd.prog) 27 5 Tryd.underlying27 infoU8 hr2 1 (by omega); simp only [Nat.add_sub_cancel_left] at hcut hrow5; have hs5 : ∀ W, (Instr.slice 27 (.slice (some A2) (1 + s.length) (1 + s.length)) (some (.int .i64 1)) none none).run Tryd.prog W = .ok (.slice A5 s.length s.length) W := (fun W => hcut W .i64); have cv5 := fun u => ((hrow5 ((w.drewN (m1 + m2)).setCell ⟨c, 1, none⟩ u) (fun a v hb h => by rw [World.cell?_setCell_other _ _ _ _ (fun e => HNE.out (by rw [← hbk2, ← hb, ← e])), ← drew2]; exact h)).conv (P := Tryd.prog) Tryd.underlying27 Tryd.underlying5 Tryd.underlying9); clear hr2 hcut hrow5)))
  go_ret
  have hcs := cur_step (k := 1 + s.length) HX.out (m1 + m2)
  rw [show ((1 + s.length : Nat) : Int) = 1 + (s.length : Int) by omega] at hcs
  exact ⟨rfl, hcs.1, hcs.2⟩
theorem flag_row {w : World} {A : Addr} {x : UInt8} (h : Row eU8 w (.slice (some A) 1 1) [x]) : w.cell? A = some (.int .u8 (x.toNat : Int)) := by
  obtain ⟨ad1, ha1, hcell⟩ := h.atU8 (k := 0) (by simp)
  cases ha1
  exact cell1_of hcell
theorem flag_val {w : World} {A : Addr} {b : Bool} (h : Row eU8 w (.slice (some A) 1 1) [if b then 1 else 0]) : w.cell? A = some (.int .u8 (if b then 1 else 0)) := by
  have := flag_row h
  cases b <;> exact this
theorem cur_flag (c : Nat) (ad : Addr) (n cc pos : Nat) (b : Bool) (all : List UInt8) (w : World) (hx : Box c (curA ad n cc pos) w) (hr : Row eU8 w (.slice (some ad) n cc) all) (hle : pos + 1 ≤ n) (hn : n ≤ 1000000) (hne : ad.block ≠ c)
    (hm : (all.take (pos + 1)).drop pos = [if b then 1 else 0]) :
    Calls Tryd.prog 50 #[.pointer (some ⟨c, 0, none⟩)] w fun e w' => e = .returned (.bool b) ∧ Box c (curA ad n cc (pos + 1)) w' ∧ Alt (fun b => b = c) w w' := by
  have KN := Lib.hid (fun W hx hr => next_calls c ad n cc pos 1 1 all W hx hr rfl (by omega) (by omega) hn)
  rw [hm] at KN
  have HX := Lib.hid hx
  have HR := Lib.hid hr
  have HNE := Lib.hid hne
  obtain ⟨c0, c1, c2⟩ := hx.c3
  obtain ⟨f0, f1, f2, _⟩ := hx.f4
  clear hx hr hm hne
  cases b
  all_goals
    go_enter Tryd.func50, Tryd.ntmps50
    go_wp2_with (go_at_call 73; ((with_reducible refine (KN.out _ HX.out HR.out).mono ?_); rintro e w1 ⟨⟨A1, rfl, hr1, hbk1⟩, m1, rfl⟩; have hnil := fun W => Go.run_eql_slice_nil (P := Tryd.prog) W 27 5 (some A1) 1 1 Tryd.underlying27; have hcell1 := flag_val hr1; simp only [Bool.false_eq_true, if_false, if_true] at hcell1; have hcell2 : ∀ u, ((w.drewN m1).setCell ⟨c, 1, none⟩ u).cell? A1 = some _ := fun u => (World.cell?_setCell_other _ _ _ _ (fun e => HNE.out (by rw [← hbk1, ← e]))).trans hcell1; clear hr1))
    go_ret
    have hcs := cur_step (k := 1) HX.out m1
    exact ⟨rfl, hcs.1, hcs.2⟩
theorem left_calls (c : Nat) (ad : Addr) (n cc pos : Nat) (w : World) (hx : Box c (curA ad n cc pos) w) (hle : pos ≤ n) (hn : n ≤ 1000000) :
    Calls Tryd.prog 54 #[.pointer (some ⟨c, 0, none⟩)] w fun e w' => e = .returned (.int .i64 ((n : Int) - (pos : Int))) ∧ ∃ m, w' = w.drewN m := by
  obtain ⟨c0, c1, c2⟩ := hx.c3
  clear hx
  go_enter Tryd.func54, Tryd.ntmps54
  go_wp2
  go_quiet (fail)
  go_wp2
  go_ret
  exact ⟨rfl, _, rfl⟩
theorem cplace_calls (c : Nat) (ad : Addr) (n cc pos : Nat) (w : World) (hx : Box c (curA ad n cc pos) w) :
    Calls Tryd.prog 55 #[.pointer (some ⟨c, 0, none⟩)] w fun e w' => e = .returned (.int .i64 (pos : Int)) ∧ w = w' := by
  obtain ⟨c0, c1, c2⟩ := hx.c3
  clear hx
  go_enter Tryd.func55, Tryd.ntmps55
  go_wp2
  go_ret
  exact ⟨rfl, rfl⟩
theorem end_calls (c : Nat) (ad : Addr) (n cc : Nat) (w : World) (hx : Box c (curA ad n cc n) w) (hn : n ≤ 1000000) :
    Calls Tryd.prog 53 #[.pointer (some ⟨c, 0, none⟩)] w fun e w' => e = .returned .nilIface ∧ ∃ m, w' = w.drewN m := by
  have KL := Lib.hid (fun W hx => left_calls c ad n cc n W hx (Nat.le_refl _) hn)
  have HX := Lib.hid hx
  obtain ⟨c0, c1, c2⟩ := hx.c3
  clear hx
  go_enter Tryd.func53, Tryd.ntmps53
  go_wp2_with (go_at_call 54; ((with_reducible refine (KL.out _ HX.out).mono ?_); rintro e w1 ⟨rfl, m1, rfl⟩))
  go_ret
  exact ⟨rfl, _, rfl⟩
theorem at_calls (v : Value) (l : List UInt8) (w : World) (hv : Row eU8 w v l) (hl : l.length ≤ 1000000) (hpos : 0 < l.length) :
    Calls Tryd.prog 49 #[v] w fun e w' => (∃ c ad cc, e = .returned (.pointer (some ⟨c, 0, none⟩)) ∧ Box c (curA ad l.length cc 0) w' ∧ Row eU8 w' (.slice (some ad) l.length cc) l ∧ ad.block ≠ c ∧ w.heap.size ≤ c) ∧ Below w.heap.size w w' := by
  have HV := Lib.hid hv
  clear hv
  go_enter Tryd.func49, Tryd.ntmps49
  go_wp2_with (go_at_call 72; ((with_reducible refine (clone_calls v l _ HV.out hl).mono ?_); rintro e w1 ⟨⟨v1, rfl, ho1⟩, hb1⟩; obtain ⟨A1, c1, rfl, hc1, hm1, _⟩ := ho1.row.parts))
  go_ret
  cases A1 with
  | none => have := ho1.row.cap.2.2 rfl; omega
  | some ad =>
    exact ⟨⟨_, ad, c1, rfl, Box.new w1 _ 100 _ rfl, ho1.row.alloc _, fun e => by have := (ho1.block ad.block rfl).2; omega, hb1.size⟩, hb1.alloc hb1.size _⟩
end Go.Proofs.YtmpdcdfnbkfabaaDoor.Octets
