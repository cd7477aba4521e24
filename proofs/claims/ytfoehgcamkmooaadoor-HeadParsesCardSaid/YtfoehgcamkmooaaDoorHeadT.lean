/- The law HeadParses. -/
import Derived.Test.YtfoehgcamkmooaaDoorHeadJ
import Derived.Test.YtfoehgcamkmooaaDoorHeadS4
import Derived.Test.YtfoehgcamkmooaaDoorHeadS5
import Derived.Test.YtfoehgcamkmooaaDoorHeadS6
import Derived.Test.YtfoehgcamkmooaaDoorKey
namespace Go.Proofs.YtfoehgcamkmooaaDoor.Head
open Go.RowKit Go.Proofs.YtfoehgcamkmooaaDoor.Mem Go.Proofs.YtfoehgcamkmooaaDoor.Num Go.Proofs.YtfoehgcamkmooaaDoor.Err
open Go.Proofs.YtfoehgcamkmooaaDoor.Addr hiding below_allocd
open Go.Proofs.YtfoehgcamkmooaaDoor.Sums Go.Proofs.YtfoehgcamkmooaaDoor.SumsP Go.Proofs.YtfoehgcamkmooaaDoor.Pseudo
set_option linter.unusedVariables false
set_option linter.unusedSimpArgs false
set_option maxRecDepth 100000
attribute [-go_sem] Builtin.append_ loadCells loadCellsFrom storeCells run_eql_struct
theorem refparse_calls (v : Value) (l : List UInt8) (w : World) (hv : Row eU8 w v l) (hl : l.length ≤ 600) :
    Calls Tryd.prog 12 #[v] w fun e w' => e = .returned (.tuple #[.agg (hdA (if parseR l = 0 then parseH l else hd0)), .int .i64 (parseR l : Int)]) ∧ Below w.heap.size w w' := by
  by_cases h0 : l.length = 0
  · exact refparse_early v l w hv hl (.inl h0)
  · by_cases h1 : verN l ≠ 4 ∧ verN l ≠ 6
    · exact refparse_early v l w hv hl (.inr (.inl h1))
    · by_cases h2 : 300 < l.length
      · exact refparse_early v l w hv hl (.inr (.inr h2))
      · by_cases h4 : verN l = 4
        · by_cases hmr : midR l = 0
          · exact refparse_main4ok v l w hv hl h0 h1 h2 h4 hmr
          · exact refparse_main4bad v l w hv hl h0 h1 h2 h4 hmr
        · exact refparse_main6 v l w hv hl h0 h1 h2 h4
theorem u8_in (x : UInt8) : Key.InI64 (x.toNat : Int) := by have := x.toNat_lt; unfold Key.InI64; omega
theorem two_in (l : List UInt8) (i : Nat) : Key.InI64 (twoN l i : Int) := by have := twoN_lt l i; unfold Key.InI64; omega
theorem midH_wf (l : List UInt8) : Key.InI64 (midH l).pr ∧ Key.InI64 (midH l).fl ∧ 0 ≤ (midH l).pt ∧ (midH l).pt ≤ 60 := by
  unfold midH
  split
  · refine ⟨u8_in _, ?_, ?_, ?_⟩
    · show Key.InI64 0; unfold Key.InI64; omega
    · show (0 : Int) ≤ (ptN l : Int); omega
    · show (ptN l : Int) ≤ 60; unfold ptN; omega
  · refine ⟨u8_in _, ?_, ?_, ?_⟩
    · show Key.InI64 0; unfold Key.InI64; omega
    · show (0 : Int) ≤ 40; omega
    · show (40 : Int) ≤ 60; omega
theorem own_wf (h : Hd) (q : List UInt8) (h1 : Key.InI64 h.pr) (h2 : Key.InI64 h.fl) (h3 : 0 ≤ h.pt) (h4 : h.pt ≤ 60) : Key.Hd.wf (ownH (ptsH h q) q) := by
  unfold ownH
  have hp : Key.InI64 h.pt := by unfold Key.InI64; omega
  have ho : ownN q ≤ 60 := by have := (q.getD 12 0).toNat_lt; unfold ownN; omega
  split
  · refine ⟨h1, two_in q 0, two_in q 2, u8_in _, hp, ?_⟩
    show Key.InI64 (h.pt + (ownN q : Int))
    unfold Key.InI64; omega
  · refine ⟨h1, two_in q 0, two_in q 2, h2, hp, ?_⟩
    show Key.InI64 (h.pt + 8)
    unfold Key.InI64; omega
theorem hd0_wf : Key.Hd.wf hd0 := by
  have z : Key.InI64 0 := by unfold Key.InI64; omega
  exact ⟨z, z, z, z, z, z⟩
theorem parse_wf (l : List UInt8) : Key.Hd.wf (if parseR l = 0 then parseH l else hd0) := by
  split
  · unfold parseH
    obtain ⟨a, b, c, d⟩ := midH_wf l
    exact own_wf _ _ a b c d
  · exact hd0_wf
/-- A head in a box of its own. -/
theorem box_head (W : World) (H : Hd) (t : TypeId) (ca : Array Value) (hc : ca = hd0.cells.toArray) : ∃ w2, (storeCells ⟨W.heap.size, 0, none⟩ H.cells).run Tryd.prog (W.alloc (.cells ca t)) = .ok () w2 ∧ HBlk W.heap.size H t w2 ∧ Below W.heap.size W w2 ∧ W.heap.size < w2.heap.size := by
  have hb : Blk W.heap.size hd0.cells t (W.alloc (.cells ca t)) := Blk.new _ _ _ _ _ hc rfl
  obtain ⟨w1, s1, k1, a1⟩ := store_at (P := Tryd.prog) (off := 0) (vs := H.cells) hb (by rw [Hd.len, Hd.len]; decide) H.one
  rw [splice_all _ _ (by rw [Hd.len, Hd.len])] at k1
  exact ⟨w1, s1, k1, below_alt ((Below.refl _ _).alloc (Nat.le_refl _) _) a1 (by simp) (fun k hk => by omega), Blk.lt k1⟩
set_option maxHeartbeats 4000000 in
theorem alive_calls (w : World) (es : List Addr) (he : Errs w es) : Calls Tryd.prog 9 #[] w fun e w' => e = .returned (.bool true) ∧ Below w.heap.size w w' := by
  have hc : ∀ W es, Errs W es → Calls Tryd.prog 11 #[.slice none 0 0] W fun e w' => (∃ u, e = .returned (.tuple #[.agg (hdA hd0), u]) ∧ ErrIs es 2 u) ∧ Below W.heap.size W w' := fun W es hE => parse_calls (.slice none 0 0) [] W es hE (Row.nil _ _) (by simp)
  have HC := Lib.hid hc
  have HE := Lib.hid he
  have HBX := Lib.hid (fun W => box_head W hd0 31 #[.int .i64 0, .bool false, .int .u8 0, .int .u8 0, .int .u8 0, .int .u8 0, .int .u8 0, .int .u8 0, .int .u8 0, .int .u8 0, .int .u8 0, .int .u8 0, .int .u8 0, .int .u8 0, .int .u8 0, .int .u8 0, .int .u8 0, .int .u8 0, .int .i64 0, .bool false, .int .u8 0, .int .u8 0, .int .u8 0, .int .u8 0, .int .u8 0, .int .u8 0, .int .u8 0, .int .u8 0, .int .u8 0, .int .u8 0, .int .u8 0, .int .u8 0, .int .u8 0, .int .u8 0, .int .u8 0, .int .u8 0, .int .i64 0, .int .i64 0, .int .i64 0, .int .i64 0] rfl)
  have hsl : (hdA hd0).toList = hd0.cells := rfl
  have hsz : (hdA hd0).size = 40 := Hd.len hd0
  clear hc he
  generalize hdA hd0 = ha at HC hsl hsz
  go_enter Tryd.func9, Tryd.ntmps9
  go_wp2_with (first
    | (go_at_call 11; ((with_reducible refine (HC.out _ es HE.out).mono ?_); rintro e w1 ⟨⟨u, rfl, hu⟩, hb1⟩; obtain ⟨w2, s2, k2, b2, l2⟩ := HBX.out w1; have HB2 := Lib.hid (hb1.trans (b2.mono hb1.size)); have HU := Lib.hid hu; clear hu hb1 k2 b2))
    | (go_at_call 13; ((with_reducible refine (numU _ es (HE.out.below HB2.out) 2 _ HU.out).mono ?_); rintro e w3 ⟨rfl, hb3⟩; have HB3 := Lib.hid (HB2.out.trans (hb3.mono HB2.out.size)); clear hb3)))
  go_ret
  exact ⟨rfl, HB3.out⟩
set_option maxHeartbeats 4000000 in
theorem parses_calls (v : Value) (l : List UInt8) (w : World) (es : List Addr) (he : Errs w es) (hv : Row eU8 w v l) (hl : l.length ≤ 9223372036854775807) :
    Calls Tryd.prog 3 #[v] w fun e w' => e = .returned (.bool true) ∧ Below w.heap.size w w' := by
  have hr := hv
  obtain ⟨A, ca, rfl, hca, hma, hra⟩ := hv.parts
  have HE := Lib.hid he
  have HV := Lib.hid hr
  clear he hr hv hca hma hra
  by_cases h6 : 600 < l.length
  · have h6' : (600 : Int) < (l.length : Int) := by omega
    go_enter Tryd.func3, Tryd.ntmps3
    go_wp2_with (go_at_call 9; ((with_reducible refine (alive_calls _ es HE.out).mono ?_); rintro e w0 ⟨rfl, hb0⟩))
    go_ret
    exact ⟨rfl, hb0⟩
  · have h6' : ¬ (600 : Int) < (l.length : Int) := by omega
    have hwf := parse_wf l
    have KB := Lib.hid (fun W hv => bytes_calls (.slice A l.length ca) l W hv (by omega))
    have KP := Lib.hid (fun W v he hv => parse_calls v l W es he hv (by omega))
    have KR := Lib.hid (fun W hv => refparse_calls (.slice A l.length ca) l W hv (by omega))
    generalize (if parseR l = 0 then parseH l else hd0) = H at KP KR hwf
    generalize parseR l = R at KP KR
    have HBX := Lib.hid (fun W => box_head W H 31 #[.int .i64 0, .bool false, .int .u8 0, .int .u8 0, .int .u8 0, .int .u8 0, .int .u8 0, .int .u8 0, .int .u8 0, .int .u8 0, .int .u8 0, .int .u8 0, .int .u8 0, .int .u8 0, .int .u8 0, .int .u8 0, .int .u8 0, .int .u8 0, .int .i64 0, .bool false, .int .u8 0, .int .u8 0, .int .u8 0, .int .u8 0, .int .u8 0, .int .u8 0, .int .u8 0, .int .u8 0, .int .u8 0, .int .u8 0, .int .u8 0, .int .u8 0, .int .u8 0, .int .u8 0, .int .u8 0, .int .u8 0, .int .i64 0, .int .i64 0, .int .i64 0, .int .i64 0] rfl)
    have HBY := Lib.hid (fun W => box_head W H 36 #[.int .i64 0, .bool false, .int .u8 0, .int .u8 0, .int .u8 0, .int .u8 0, .int .u8 0, .int .u8 0, .int .u8 0, .int .u8 0, .int .u8 0, .int .u8 0, .int .u8 0, .int .u8 0, .int .u8 0, .int .u8 0, .int .u8 0, .int .u8 0, .int .i64 0, .bool false, .int .u8 0, .int .u8 0, .int .u8 0, .int .u8 0, .int .u8 0, .int .u8 0, .int .u8 0, .int .u8 0, .int .u8 0, .int .u8 0, .int .u8 0, .int .u8 0, .int .u8 0, .int .u8 0, .int .u8 0, .int .u8 0, .int .i64 0, .int .i64 0, .int .i64 0, .int .i64 0] rfl)
    have HLD := Lib.hid (fun W b t (h : HBlk b H t W) => Blk.load (P := Tryd.prog) h 0 40 H.cells (by rw [List.drop_zero, List.take_of_length_le (by rw [Hd.len]; decide)]) (Hd.len H))
    have hse : ∀ W : World, (binOp .eql 36 (.agg (hdA H)) (.agg (hdA H))).run Tryd.prog W = .ok (.bool true) W := fun W => Key.head_same H hwf W
    have hsl : (hdA H).toList = H.cells := rfl
    have hsz : (hdA H).size = 40 := Hd.len H
    have HLA : Hid (H.cells.toArray = hdA H) := Lib.hid rfl
    clear hwf
    generalize hdA H = ha at KP KR hse hsl hsz HLA
    rw [HLA.out] at HLD
    go_enter Tryd.func3, Tryd.ntmps3
    go_wp2_with (first
      | (go_at_call 9; ((with_reducible refine (alive_calls _ es HE.out).mono ?_); rintro e w0 ⟨rfl, hb0⟩; have HB0 := Lib.hid hb0; clear hb0))
      | (go_at_call 10; ((with_reducible refine (KB.out _ (HV.out.below HB0.out)).mono ?_); rintro e w1 ⟨u1, rfl, hM1, hb1⟩; have HB1 := Lib.hid (below_next HB0.out hb1); have HM1 := Lib.hid hM1; clear hM1 hb1))
      | (go_at_call 11; ((with_reducible refine (KP.out _ _ (HE.out.below HB1.out) (HM1.out.row (by omega))).mono ?_); rintro e w2 ⟨⟨u2, rfl, hu2⟩, hb2⟩; obtain ⟨w3, s3, k3, b3, l3⟩ := HBX.out w2; have HB3 := Lib.hid (below_next (below_next HB1.out hb2) b3); have HM3 := Lib.hid ((HM1.out.below hb2).below b3); have HU := Lib.hid hu2; have HK3 := Lib.hid k3; clear hu2 hb2 k3 b3))
      | (go_at_call 12; ((with_reducible refine (KR.out _ (HV.out.below HB3.out)).mono ?_); rintro e w4 ⟨rfl, hb4⟩; obtain ⟨w5, s5, k5, b5, l5⟩ := HBY.out w4; have HB5 := Lib.hid (below_next (below_next HB3.out hb4) b5); have HM5 := Lib.hid ((HM3.out.below hb4).below b5); have HK5 := Lib.hid k5; have HJ5 := Lib.hid ((Blk.below HK3.out hb4).below b5); clear hb4 k5 b5))
      | (go_at_call 13; ((with_reducible refine (numU _ es (HE.out.below HB5.out) _ _ HU.out).mono ?_); rintro e w6 ⟨rfl, hb6⟩; have HB6 := Lib.hid (below_next HB5.out hb6); have HM6 := Lib.hid (HM5.out.below hb6); have lp1 := HLD.out _ _ _ (Blk.below HJ5.out hb6); have lp2 := HLD.out _ _ _ (Blk.below HK5.out hb6); clear hb6))
      | (go_at_call 14; ((with_reducible refine (kept_calls _ _ _ l _ HM6.out (HV.out.below HB6.out) (by omega)).mono ?_); rintro e w7 ⟨rfl, k7, rfl⟩)))
    go_ret
    exact ⟨rfl, below_drewN HB6.out _⟩
theorem parses_row (W : World) (es : List Addr) (el : es.length = 18) (en : es.Nodup) (eh : ∀ (k g : Nat) (a : Addr), gl[k]? = some g → es[k]? = some a → Holds W g a) (v : Value) (l : List UInt8) (hv : Row eU8 W v l) :
    Calls Tryd.prog 3 #[v] W fun e W' => e = .returned (.bool true) ∧ Below W.heap.size W W' :=
  parses_calls v l W es (errs_of W es el en eh) hv (by obtain ⟨A, c, rfl, h1, h2, _⟩ := hv; unfold maxLen at h2; omega)
end Go.Proofs.YtfoehgcamkmooaaDoor.Head
