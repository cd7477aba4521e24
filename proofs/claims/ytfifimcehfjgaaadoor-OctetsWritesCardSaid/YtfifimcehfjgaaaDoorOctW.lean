/- The statement OctetsWrites. -/
import Derived.Test.YtfifimcehfjgaaaDoorOctets
namespace Go.Proofs.YtfifimcehfjgaaaDoor.Octets
open Go.RowKit Go.Proofs.YtfifimcehfjgaaaDoor.Mem Go.Proofs.YtfifimcehfjgaaaDoor.Err Go.Proofs.YtfifimcehfjgaaaDoor.Num
set_option linter.unusedVariables false
set_option linter.unusedSimpArgs false

theorem alive_calls (w : World) (es : List Addr) (he : Errs w es) : Calls Tryd.prog 16 #[] w fun e w' => e = .returned (.bool true) ∧ Below w.heap.size w w' := by
  have hn : ∀ W, Calls Tryd.prog 17 #[.int .i64 258, .int .i64 2] W fun e w' => RetBytes W.heap.size w' [1, 2] e ∧ Below W.heap.size W w' := by
    intro W
    have := num_calls 258 2 W (by omega) (by omega) (by omega) (fun _ => by decide)
    rw [show beBytes 258 2 = [1, 2] by decide] at this
    exact this
  have HN := Lib.hid hn
  clear hn he
  go_enter Tryd.func16, Tryd.ntmps16
  go_wp2_with (go_at_call 17; ((with_reducible refine (HN.out _).mono ?_); rintro e w1 ⟨⟨v, ho, rfl⟩, hb1⟩; have hcv := ho.row.conv' Tryd.underlying27 Tryd.underlying5 Tryd.underlying9; have HB := Lib.hid hb1; clear ho hb1))
  go_ret
  exact ⟨rfl, HB.out⟩
set_option maxRecDepth 100000 in
theorem writes_calls (n size : Int) (s : ByteArray) (w : World) (es : List Addr) (he : Errs w es) (hs : size ≤ 9223372036854775807) (hs2 : s.size ≤ 9223372036854775807) :
    Calls Tryd.prog 4 #[.int .i64 n, .int .i64 size, .string s] w fun e w' => e = .returned (.bool true) ∧ Below w.heap.size w w' := by
  have HE := Lib.hid he
  clear he
  by_cases h400 : 400 < s.size
  · go_enter Tryd.func4, Tryd.ntmps4
    go_wp2_with (go_at_call 16; ((with_reducible refine (alive_calls _ es HE.out).mono ?_); rintro e w0 ⟨rfl, hb0⟩))
    go_ret
    exact ⟨rfl, hb0⟩
  · by_cases h255 : 255 < s.size
    · go_enter Tryd.func4, Tryd.ntmps4
      go_wp2_with (first
        | (go_at_call 16; ((with_reducible refine (alive_calls _ es HE.out).mono ?_); rintro e w0 ⟨rfl, hb0⟩; have HE0 := Lib.hid (HE.out.below hb0)))
        | (go_at_call 17; ((with_reducible refine (numU_calls _ _ _ es HE0.out hs).mono ?_); rintro e w1 ⟨⟨v1, u1, rfl, hr1, hu1⟩, hb1⟩; have HE1 := Lib.hid (HE0.out.below hb1); have HR1 := Lib.hid hr1; have HU1 := Lib.hid hu1; clear hr1 hu1))
        | (go_at_call 18; ((with_reducible refine (refnumU_calls _ _ _).mono ?_); rintro e w2 ⟨⟨v2, rfl, hr2⟩, hb2⟩; have HE2 := Lib.hid (HE1.out.below hb2); have hcv1 := (HR1.out.below hb2).conv' Tryd.underlying27 Tryd.underlying5 Tryd.underlying9; have hcv2 := hr2.conv' Tryd.underlying27 Tryd.underlying5 Tryd.underlying9; clear hr2))
        | (go_at_call 19; ((with_reducible refine (numU _ es HE2.out _ _ HU1.out).mono ?_); rintro e w3 ⟨rfl, hb3⟩; have HE3 := Lib.hid (HE2.out.below hb3))))
      refine (text_no s w3 _ (by omega) (HE3.out.2.2 2 (by have := HE3.out.1; omega)) hs2).mono ?_
      rintro e w4 ⟨rfl, k4, rfl⟩
      have HE4 := Lib.hid (HE3.out.below (below_drewN (Below.refl _ _) k4))
      have hl18 := HE4.out.1
      have KN := Lib.hid (Err.num_calls _ es HE4.out 2 (by omega))
      go_wp2_with (first
        | (go_at_call 19; ((with_reducible refine KN.out.mono ?_); rintro e w5 ⟨rfl, hb5⟩))
        | (go_at_call 21; ((with_reducible refine (flag_calls true _).mono ?_); rintro e w6 ⟨⟨v6, ho6, rfl⟩, hb6⟩; have hcv6 := ho6.row.conv' Tryd.underlying27 Tryd.underlying5 Tryd.underlying9; clear ho6))
        | (go_at_call 21; ((with_reducible refine (flag_calls false _).mono ?_); rintro e w7 ⟨⟨v7, ho7, rfl⟩, hb7⟩; have hcv7 := ho7.row.conv' Tryd.underlying27 Tryd.underlying5 Tryd.underlying9; clear ho7)))
      go_ret
      exact ⟨rfl, below_next (below_next (below_next (below_drewN (below_next (below_next (below_next hb0 hb1) hb2) hb3) _) hb5) hb6) hb7⟩
    · have hle : s.size ≤ 255 := by omega
      go_enter Tryd.func4, Tryd.ntmps4
      go_wp2_with (first
        | (go_at_call 16; ((with_reducible refine (alive_calls _ es HE.out).mono ?_); rintro e w0 ⟨rfl, hb0⟩; have HE0 := Lib.hid (HE.out.below hb0)))
        | (go_at_call 17; ((with_reducible refine (numU_calls _ _ _ es HE0.out hs).mono ?_); rintro e w1 ⟨⟨v1, u1, rfl, hr1, hu1⟩, hb1⟩; have HE1 := Lib.hid (HE0.out.below hb1); have HR1 := Lib.hid hr1; have HU1 := Lib.hid hu1; clear hr1 hu1))
        | (go_at_call 18; ((with_reducible refine (refnumU_calls _ _ _).mono ?_); rintro e w2 ⟨⟨v2, rfl, hr2⟩, hb2⟩; have HE2 := Lib.hid (HE1.out.below hb2); have hcv1 := (HR1.out.below hb2).conv' Tryd.underlying27 Tryd.underlying5 Tryd.underlying9; have hcv2 := hr2.conv' Tryd.underlying27 Tryd.underlying5 Tryd.underlying9; clear hr2))
        | (go_at_call 19; ((with_reducible refine (numU _ es HE2.out _ _ HU1.out).mono ?_); rintro e w3 ⟨rfl, hb3⟩; have HE3 := Lib.hid (HE2.out.below hb3))))
      refine (text_calls s w3 hle).mono ?_
      rintro e w4 ⟨⟨v4, ho4, rfl⟩, hb4⟩
      have hr := ho4.row
      have hlen : (textBytes s).length = s.size + 1 := by unfold textBytes; rw [List.length_cons, ByteArray.toList_eq, Array.length_toList]; rfl
      obtain ⟨A4, c4, rfl, hc4, hm4, hr4⟩ := hr.parts
      obtain ⟨ad4, rfl, hcell⟩ := hr4.atU8 (k := 0) (by omega)
      obtain ⟨A5, _, _, hcut, hrow5⟩ := hr4.cut (P := Tryd.prog) 27 5 Tryd.underlying27 infoU8 1 (textBytes s).length (by omega) (Nat.le_refl _)
      have hcut' : ∀ W, (Instr.slice 27 (.slice (some ad4) (s.size + 1) c4) (some (.int .i64 1)) none none).run Tryd.prog W = .ok (.slice A5 s.size (c4 - 1)) W := by
        intro W
        have := hcut rfl W .i64
        rw [hlen] at this
        exact this
      have hcv5 : (convert 27 9 (.slice A5 s.size (c4 - 1))).run Tryd.prog w4 = .ok (.string (str s.toList)) w4 := by
        have := (hrow5 w4 (fun _ _ h => h)).conv Tryd.underlying27 Tryd.underlying5 Tryd.underlying9
        rw [hlen] at this
        rw [show s.toList = ((textBytes s).take (s.size + 1)).drop 1 by rw [List.take_of_length_le (by omega)]; rfl]
        exact this
      have hb0' : ((textBytes s)[0]'(by omega)).toNat = s.size := by
        show (UInt8.ofNat s.size).toNat = s.size
        rw [UInt8.toNat_ofNat_of_lt' (by show s.size < 256; omega)]
      have hcell' : w4.cell? ad4 = some (.int .u8 (s.size : Int)) := by rw [hb0'] at hcell; simpa [Addr.add] using hcell
      rw [hlen]
      have hpos : 0 < s.size + 1 := by omega
      clear hr hr4 ho4 hcell hcut hrow5 hb0' hlen hc4
      go_wp2_with (first
        | (go_at_call 21; ((with_reducible refine (flag_calls true _).mono ?_); rintro e w6 ⟨⟨v6, ho6, rfl⟩, hb6⟩; have hcv6 := ho6.row.conv' Tryd.underlying27 Tryd.underlying5 Tryd.underlying9; clear ho6))
        | (go_at_call 21; ((with_reducible refine (flag_calls false _).mono ?_); rintro e w7 ⟨⟨v7, ho7, rfl⟩, hb7⟩; have hcv7 := ho7.row.conv' Tryd.underlying27 Tryd.underlying5 Tryd.underlying9; clear ho7)))
      go_ret
      exact ⟨rfl, below_next (below_next (below_next (below_next (below_next (below_next hb0 hb1) hb2) hb3) hb4) hb6) hb7⟩
theorem writes_row (W : World) (es : List Addr) (el : es.length = 18) (en : es.Nodup) (eh : ∀ (k g : Nat) (a : Addr), gl[k]? = some g → es[k]? = some a → Holds W g a) (n : Int) (hn : (Lit.int .i64 n).wf = true) (size : Int) (hs : (Lit.int .i64 size).wf = true) (s : ByteArray) (hw : s.size ≤ 140737488351232) :
    Calls Tryd.prog 4 #[.int .i64 n, .int .i64 size, .string s] W fun e W' => e = .returned (.bool true) ∧ Below W.heap.size W W' :=
  writes_calls n size s W es (errs_of W es el en eh) (by simp [Lit.wf, IntKind.min, IntKind.max, IntKind.signed, IntKind.bits] at hs; omega) (by omega)
end Go.Proofs.YtfifimcehfjgaaaDoor.Octets
