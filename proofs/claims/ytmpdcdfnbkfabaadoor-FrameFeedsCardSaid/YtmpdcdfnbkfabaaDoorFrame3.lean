/- The document's Cut. -/
import Derived.Test.YtmpdcdfnbkfabaaDoorFrame2
namespace Go.Proofs.YtmpdcdfnbkfabaaDoor.Frame
open Go.RowKit Go.Proofs.YtmpdcdfnbkfabaaDoor.Mem Go.Proofs.YtmpdcdfnbkfabaaDoor.Num Go.Proofs.YtmpdcdfnbkfabaaDoor.Err
set_option linter.unusedVariables false
set_option linter.unusedSimpArgs false
set_option maxRecDepth 100000
attribute [-go_sem] Builtin.append_
theorem ret3 {v : Value} {a a' : Int} {b : Bool} (h : a = a') : Ending.returned (.tuple #[v, .int .i64 a, .bool b]) = .returned (.tuple #[v, .int .i64 a', .bool b]) := by rw [h]
theorem frLen_at (l : List UInt8) (k : Nat) (h : k + 1 < l.length) : frLen (l.drop k) = (l[k]'(by omega)).toNat * 256 + l[k + 1].toNat := by
  unfold frLen
  rw [List.getD_eq_getElem?_getD, List.getD_eq_getElem?_getD, List.getElem?_drop, List.getElem?_drop, List.getElem?_eq_getElem (by omega), List.getElem?_eq_getElem (by omega)]
  rfl
theorem infoRFr : (Tryd.prog.info? 86).map (fun i => (i.zero, i.size, i.bytes)) = some (some (.agg #[.int .i64 0, .slice none 0 0]), 2, 32) := by kernel_rfl
set_option maxHeartbeats 8000000 in
theorem refcut_calls (v : Value) (l : List UInt8) (w : World) (hv : Row eU8 w v l) (hl : l.length ≤ 1000000) :
    Calls Tryd.prog 19 #[v] w fun e w' => (∃ v', e = .returned (.tuple #[v', .int .i64 ((cutF l).2.1 : Int), .bool (cutF l).2.2]) ∧ Frs 86 w.heap.size w' v' (cutF l).1) ∧ Below w.heap.size w w' := by
  obtain ⟨A, c, rfl, hc, hm, hr⟩ := hv.parts
  have HR0 := Lib.hid hr
  clear hv hr
  have hmx : Tryd.prog.follows .mixedOrders = true := by kernel_rfl
  go_enter Tryd.func19, Tryd.ntmps19
  go_wp2
  go_loopw [5, 6] (fun ov av W => ∃ (k : Nat) (acc : List (UInt8 × List UInt8)), k ≤ l.length ∧ av = .int .i64 (k : Int) ∧ Hid (Frs 86 w.heap.size W ov acc) ∧ Hid (cutF l = (acc ++ (cutF (l.drop k)).1, (cutF (l.drop k)).2)) ∧ Hid (Below w.heap.size w W)) (fun _ av _ => l.length - (intOf av).toNat)
  case atStart => exact ⟨0, [], Nat.zero_le _, rfl, Lib.hid ⟨[], Own.lit w w.heap.size eFr 86 [] 0 rfl _ rfl (Nat.le_refl _) (by simp), rfl, fun k h => by simp at h⟩, Lib.hid (by simp), Lib.hid ((Below.refl _ w).alloc (Nat.le_refl _) _)⟩
  case round =>
    obtain ⟨k, acc, hk, rfl, HF, HC, HB⟩ := hrel
    have hrl : (l.drop k).length = l.length - k := List.length_drop ..
    have HRL := Lib.hid hrl
    by_cases h2 : (l.drop k).length < 2
    · have hcut := Lib.hid ((HC.out).trans (by rw [cutF_few h2, List.append_nil]))
      have hlt : (l.length : Int) - (k : Int) < 2 := by omega
      clear hrl h2
      go_wp2
      go_ret3
      rw [hcut.out]
      exact ⟨⟨_, ret3 (by have := HRL.out; show _ = (((l.drop k).length : Nat) : Int); omega), HF.out⟩, HB.out⟩
    · have hfl := frLen_at l k (by omega)
      have HR := Lib.hid (HR0.out.below HB.out)
      obtain ⟨ad, rfl, hcx⟩ := HR.out.atU8 (k := k) (by omega)
      obtain ⟨ad', had, hcy⟩ := HR.out.atU8 (k := k + 1) (by omega)
      cases had
      have hlt : 2 ≤ (l.length : Int) - (k : Int) := by omega
      have hk1 : (k : Int) < (l.length : Int) := by omega
      have hk2 : (k : Int) + 1 < (l.length : Int) := by omega
      have hx := (l[k]'(by omega)).toNat_lt
      have hy := (l[k + 1]'(by omega)).toNat_lt
      generalize l[k]'(by omega) = x at hcx hfl hx
      generalize l[k + 1]'(by omega) = y at hcy hfl hy
      have hx' : (x.toNat : Int) < 256 := by omega
      have hy' : (y.toNat : Int) < 256 := by omega
      have w1 : IntKind.i64.wrap ((k : Int) + 1) = (k : Int) + 1 := by rw [IntKind.wrap_i64]; omega
      have w2 : IntKind.i64.wrap ((x.toNat : Int) * 256) = (x.toNat : Int) * 256 := by rw [IntKind.wrap_i64]; omega
      have w3 : IntKind.i64.wrap ((x.toNat : Int) * 256 + (y.toNat : Int)) = (x.toNat : Int) * 256 + (y.toNat : Int) := by rw [IntKind.wrap_i64]; omega
      have w4 : IntKind.i64.wrap (x.toNat : Int) = (x.toNat : Int) := by rw [IntKind.wrap_i64]; omega
      have w5 : IntKind.i64.wrap (y.toNat : Int) = (y.toNat : Int) := by rw [IntKind.wrap_i64]; omega
      have hcy2 : wr.cell? ⟨ad.block, ad.off + (k + 1), none⟩ = some (.int .u8 (y.toNat : Int)) := hcy
      have w7 : 0 ≤ (k : Int) + 1 := by omega
      have w6 : ((k : Int) + 1).toNat = k + 1 := by omega
      clear hx hy
      by_cases hbad : frLen (l.drop k) = 0 ∨ 1200 < frLen (l.drop k)
      · have hcut := Lib.hid ((HC.out).trans (by rw [cutF_bad h2 hbad, List.append_nil]))
        rw [hfl] at hbad
        clear hfl h2 hrl
        by_cases h0 : x.toNat * 256 + y.toNat = 0
        · have h0' : (x.toNat : Int) * 256 + (y.toNat : Int) = 0 := by omega
          clear hbad h0
          go_wp2
          go_quiet (fail)
          go_wp2
          go_ret3
          rw [hcut.out]
          exact ⟨⟨_, rfl, HF.out⟩, below_drewN HB.out _⟩
        · have h0' : ((x.toNat : Int) * 256 + (y.toNat : Int) == 0) = false := beq_eq_false_iff_ne.mpr (by omega)
          have h1' : 1200 < (x.toNat : Int) * 256 + (y.toNat : Int) := by omega
          clear hbad h0
          go_wp2
          go_quiet (fail)
          go_wp2
          go_ret3
          rw [hcut.out]
          exact ⟨⟨_, rfl, HF.out⟩, below_drewN HB.out _⟩
      · have hn0 : ¬ (x.toNat * 256 + y.toNat = 0 ∨ 1200 < x.toNat * 256 + y.toNat) := by rw [← hfl]; exact hbad
        obtain ⟨n, hn⟩ : ∃ n, n = x.toNat * 256 + y.toNat := ⟨_, rfl⟩
        have w3' : IntKind.i64.wrap ((x.toNat : Int) * 256 + (y.toNat : Int)) = (n : Int) := by rw [w3]; omega
        have w8 : (x.toNat : Int) * 256 + (y.toNat : Int) = (n : Int) := by omega
        rw [← hn] at hn0 hfl
        have h0' : ((n : Int) == 0) = false := beq_eq_false_iff_ne.mpr (by omega)
        have h0'' : ¬ (n : Int) = 0 := by omega
        have h1' : (n : Int) ≤ 1200 := by omega
        have hn1 : 1 ≤ n := by omega
        clear w3 hn
        by_cases h3 : (l.drop k).length < 2 + frLen (l.drop k)
        · have hcut := Lib.hid ((HC.out).trans (by rw [cutF_short h2 hbad h3, List.append_nil]))
          rw [hfl, hrl] at h3
          have h3' : (l.length : Int) - (k : Int) - 2 < (n : Int) := by omega
          clear h3 hbad hn0 hfl h2 hrl
          go_wp2
          go_quiet (fail)
          go_wp2
          go_ret3
          rw [hcut.out]
          exact ⟨⟨_, ret3 (by have := HRL.out; show _ = (((l.drop k).length : Nat) : Int); omega), HF.out⟩, below_drewN HB.out _⟩
        · have hcut := Lib.hid ((HC.out).trans (by rw [cutF_one h2 hbad h3]))
          have hke : frKind (l.drop k) = l[k + 2]'(by rw [hfl, hrl] at h3; omega) := by
            unfold frKind
            rw [List.getD_eq_getElem?_getD, List.getElem?_drop, List.getElem?_eq_getElem (by rw [hfl, hrl] at h3; omega)]
            rfl
          have hbe : frBody (l.drop k) = (l.take (k + 2 + n)).drop (k + 3) := by
            unfold frBody
            rw [hfl, List.take_drop, List.drop_drop]
            congr 2 <;> omega
          have hrest : (l.drop k).drop (2 + frLen (l.drop k)) = l.drop (k + (2 + n)) := by rw [hfl, List.drop_drop]
          rw [hfl, hrl] at h3
          have h3' : (n : Int) ≤ (l.length : Int) - (k : Int) - 2 := by omega
          have h3n : k + 2 + n ≤ l.length := by omega
          obtain ⟨ad2, had2, hck⟩ := HR.out.atU8 (k := k + 2) (by omega)
          cases had2
          rw [← hke] at hck
          have hck2 : wr.cell? ⟨ad.block, ad.off + (k + 2), none⟩ = some (.int .u8 ((frKind (l.drop k)).toNat : Int)) := hck
          obtain ⟨A2, hr2, _, _, hrow2⟩ := Row.cut (P := Tryd.prog) 27 5 Tryd.underlying27 infoU8 HR.out (k + 3) (k + 2 + n) (by omega) (by omega)
          have HB2 := hrow2 wr (fun _ _ h => h)
          rw [← hbe] at HB2
          rw [hrest] at hcut
          have hbl : (frBody (l.drop k)).length = k + 2 + n - (k + 3) := HB2.len.symm
          have s2 : ∀ W, (Instr.slice 27 (.slice (some ad) l.length c) (some (.int .i64 ((k : Int) + 3))) (some (.int .i64 ((k : Int) + 2 + (n : Int)))) none).run Tryd.prog W = .ok (.slice A2 (k + 2 + n - (k + 3)) (c - (k + 3))) W := fun W => hr2 W .i64 .i64
          generalize frKind (l.drop k) = kd at hck hck2 hcut
          generalize frBody (l.drop k) = bd at HB2 hcut hbl
          have v1 : IntKind.i64.wrap ((k : Int) + 2) = (k : Int) + 2 := by rw [IntKind.wrap_i64]; omega
          have v2 : IntKind.i64.wrap ((k : Int) + 3) = (k : Int) + 3 := by rw [IntKind.wrap_i64]; omega
          have v3 : IntKind.i64.wrap ((k : Int) + 2 + (n : Int)) = (k : Int) + 2 + (n : Int) := by rw [IntKind.wrap_i64]; omega
          have v4 : IntKind.i64.wrap (kd.toNat : Int) = (kd.toNat : Int) := by have := kd.toNat_lt; rw [IntKind.wrap_i64]; omega
          have v5 : ((k : Int) + 2).toNat = k + 2 := by omega
          have v6 : 0 ≤ (k : Int) + 2 := by omega
          have v7 : (k : Int) + 2 < (l.length : Int) := by omega
          have HROW := Lib.hid HB2
          obtain ⟨xs, hox, hlx, hallx⟩ := HF.out
          have HOX := Lib.hid hox
          have HALL := Lib.hid hallx
          have HBL := Lib.hid hbl
          clear HB2 hbl hox hallx hbe hke hrest hr2 hrow2 h3 hbad hn0 hfl h2 hrl
          go_wp2
          go_quiet (fail)
          go_wp2
          have hacc : acc.length ≤ 1000000 := by
            have h1 := cutF_len l
            rw [HC.out] at h1
            simp at h1
            omega
          have hckA := fun m => cell_below ((below_drewN (Below.refl wr.heap.size wr) m).alloc (Nat.le_refl _) (.cells #[] 5)) hck2
          have hckB := fun m => cell_below (below_drewN ((Below.refl wr.heap.size wr).alloc (Nat.le_refl _) (.cells #[] 5)) m) hck2
          go_region_law (first
            | (refine step_append (E := eU8) wr.heap.size rfl (.tmp 58) (.tmp 66) 27 5 _ 1 rfl Tryd.underlying27 infoU8 rfl (by decide) _ _ [] bd rfl rfl (Own.lit' (wr.drewN _) wr.heap.size rfl wr.heap.size eU8 5 [] 0 rfl #[] rfl (Nat.le_refl _) (by simp)) ((HROW.out.drewN _).alloc _) (by simp [World.drewN]) (by have := HBL.out; simp; omega) ?_; intro bv w3 ho3 hg3 hat3; have hBw := below_app ((below_drewN (Below.refl wr.heap.size wr) _).alloc (Nat.le_refl _) _) (by simp [World.drewN]) (Own.lit' (wr.drewN _) wr.heap.size rfl wr.heap.size eU8 5 [] 0 rfl #[] rfl (Nat.le_refl _) (by simp)) hg3; rw [List.nil_append] at ho3; have hck3 := cell_below hBw hck2; obtain ⟨A4, c4, rfl, _, _, _⟩ := ho3.row.parts; have HBD := Lib.hid ho3; have HO3 := Lib.hid (HOX.out.below hBw); have HBW := Lib.hid hBw; have HB3 := Lib.hid (HB.out.trans (hBw.mono HB.out.size)); clear ho3 hg3 hat3 hBw)
            | (refine step_append (E := eFr) w.heap.size rfl (.tmp 51) (.tmp 69) 34 86 _ 32 rfl Tryd.underlying34 infoRFr rfl (by decide) _ _ xs [(kd, A4, bd.length, c4)] rfl rfl (HO3.out.alloc _) (Own.lit w3 0 eFr 86 [(kd, A4, bd.length, c4)] 1 rfl #[.int .i64 (kd.toNat : Int), .slice A4 bd.length c4] rfl (Nat.zero_le _) (by simp)).row (Nat.le_trans HB3.out.size (by simp)) (by simp; omega) ?_; intro v4 w4 ho4 hg4 hat4))
          all_goals go_wp2
          all_goals exact ⟨⟨k + (2 + n), acc ++ [(kd, bd)], by omega, rfl, Lib.hid (Frs.push hlx (fun k h h' => ((HALL.out k h h').below HBW.out).below ((Below.refl _ _).alloc (Nat.le_refl _) _)) ((FrOk.new (x := (kd, A4, bd.length, c4)) (f := (kd, bd)) HOX.out.block rfl HBD.out HB.out.size).below ((Below.refl _ _).alloc (Nat.le_refl _) _)) ho4 hg4 hat4), Lib.hid (by rw [hcut.out]; simp), Lib.hid (below_app (HB3.out.alloc HB3.out.size _) (Nat.le_trans HB3.out.size (by simp)) (HO3.out.alloc _) hg4)⟩, by simp [intOf]; omega⟩
end Go.Proofs.YtmpdcdfnbkfabaaDoor.Frame
