/- The law PickRight: the walk. -/
import Derived.Test.YtcfgffkjbkpfhaaCand11
namespace Go.Proofs.Ytcfgffkjbkpfhaa.Cand
open Go.RowKit Go.Proofs.Ytcfgffkjbkpfhaa.Mem Go.Proofs.Ytcfgffkjbkpfhaa.Num Go.Proofs.Ytcfgffkjbkpfhaa.Key
open Go.Proofs.Ytcfgffkjbkpfhaa.Addr hiding below_allocd
set_option linter.unusedVariables false
set_option linter.unusedSimpArgs false
set_option maxRecDepth 100000
attribute [-go_sem] Builtin.append_ loadCells loadCellsFrom storeCells run_eql_struct
set_option maxHeartbeats 4000000 in
theorem right_calls (v : Value) (name : ByteArray) (proto : Int) (six loc hint : Bool) (node zone : ByteArray) (xs : List Cd) (z : Cd → List ByteArray) (w : World) (hv : Cands w v xs z) (hz : ∀ x ∈ xs, ∀ s ∈ z x, s.size ≤ maxLen) :
    Calls Try.prog 4 #[v, wtV name proto six loc hint node zone] w fun e w' => e = .returned (.bool true) ∧ Below w.heap.size w w' := by
  obtain ⟨A, c, rfl, hc, hm, hr⟩ := hv.1.parts
  obtain ⟨W0, hW0⟩ : ∃ W0, W0 = w.alloc (.cells #[.string name, .int .i64 proto, .bool six, .bool loc, .bool hint, .string node, .string zone] 24) := ⟨_, rfl⟩
  have HW0 := Lib.hid hW0
  have hB0 : Below w.heap.size w W0 := by rw [hW0]; exact (Below.refl _ _).alloc (Nat.le_refl _) _
  have hWB : Blk w.heap.size [.string name, .int .i64 proto, .bool six, .bool loc, .bool hint, .string node, .string zone] 24 W0 := by rw [hW0]; exact Blk.new w _ _ _ _ rfl rfl
  have HW := Lib.hid hWB
  have HLD : Hid (∀ W, Below W0.heap.size W0 W → W.cell? ⟨w.heap.size, 3, none⟩ = some (.bool loc) ∧ (loadCells ⟨w.heap.size, 0, none⟩ 7).run Try.prog W = .ok #[.string name, .int .i64 proto, .bool six, .bool loc, .bool hint, .string node, .string zone] W) := Lib.hid (fun W hW => ⟨(hWB.below hW).cell 3 _ rfl, (hWB.below hW).load 0 7 _ rfl rfl⟩)
  have HV : Hid (∀ W, Below W0.heap.size W0 W → Cands W (.slice A xs.length c) xs z) := Lib.hid (fun W hW => (hv.below hB0).below hW)
  have HBB : Hid (∀ W, Below W0.heap.size W0 W → Below w.heap.size w W) := Lib.hid (fun W hW => hB0.trans (hW.mono hB0.size))
  have HBX := Lib.hid (fun (W : World) (x : Cd) => box_cd (P := Try.prog) W x 44 #[.bool false, .int .u8 0, .int .u8 0, .int .u8 0, .int .u8 0, .int .u8 0, .int .u8 0, .int .u8 0, .int .u8 0, .int .u8 0, .int .u8 0, .int .u8 0, .int .u8 0, .int .u8 0, .int .u8 0, .int .u8 0, .int .u8 0, .int .i64 0, .bool false, .bool false, .bool false, .bool false, .slice none 0 0] rfl)
  have KA : Hid (∀ W, Calls Try.prog 8 #[] W fun e w' => e = .returned (.bool true) ∧ Below W.heap.size W w') := Lib.hid (fun W => alive19_calls W)
  have KG : Hid (∀ W, Below W0.heap.size W0 W → Calls Try.prog 9 #[.slice A xs.length c] W fun e w' => e = .returned (.bool (candLong xs z)) ∧ Below W.heap.size W w') := Lib.hid (fun W hW => candlong_calls _ xs z W ((hv.below hB0).below hW) hz)
  have KW : Hid (∀ W, Calls Try.prog 10 #[wtV name proto six loc hint node zone] W fun e w' => e = .returned (.bool (longW name node zone)) ∧ Below W.heap.size W w') := Lib.hid (fun W => longw_calls _ _ _ _ _ _ _ W)
  by_cases hL : candLong xs z = true
  · rw [hL] at KG
    clear hv hr hz hL hWB hB0 hW0
    go_enter Try.func4, Try.ntmps4
    go_wp2_with (first
      | (go_at_call 8; ((with_reducible refine (KA.out _).mono ?_); rintro e w1 ⟨rfl, hb1⟩; have HB1 : Hid (Below W0.heap.size W0 w1) := Lib.hid (by rw [HW0.out]; exact hb1); clear hb1))
      | (go_at_call 9; ((with_reducible refine (KG.out _ HB1.out).mono ?_); rintro e w2 ⟨rfl, hb2⟩; have HB2 := Lib.hid (HB1.out.trans (hb2.mono HB1.out.size)); clear hb2)))
    go_ret
    exact ⟨rfl, HBB.out _ HB2.out⟩
  · have hL2 : candLong xs z = false := Bool.eq_false_iff.2 hL
    rw [hL2] at KG
    by_cases hG : longW name node zone = true
    · rw [hG] at KW
      clear hv hr hz hL hL2 hG hWB hB0 hW0
      go_enter Try.func4, Try.ntmps4
      go_wp2_with (first
        | (go_at_call 8; ((with_reducible refine (KA.out _).mono ?_); rintro e w1 ⟨rfl, hb1⟩; have HB1 : Hid (Below W0.heap.size W0 w1) := Lib.hid (by rw [HW0.out]; exact hb1); clear hb1))
        | (go_at_call 9; ((with_reducible refine (KG.out _ HB1.out).mono ?_); rintro e w2 ⟨rfl, hb2⟩; have HB2 := Lib.hid (HB1.out.trans (hb2.mono HB1.out.size)); have hl2 := (HLD.out _ HB2.out).2; clear hb2))
        | (go_at_call 10; ((with_reducible refine (KW.out _).mono ?_); rintro e w3 ⟨rfl, hb3⟩; have HB3 := Lib.hid (HB2.out.trans (hb3.mono HB2.out.size)); clear hb3)))
      go_ret
      exact ⟨rfl, HBB.out _ HB3.out⟩
    · rw [Bool.eq_false_iff.2 hG] at KW
      have hx60 : xs.length ≤ 60 := by
        unfold candLong at hL2
        rw [Bool.or_eq_false_iff] at hL2
        simpa using hL2.1
      obtain ⟨RD, hRD⟩ : ∃ RD, RD = anyR loc xs := ⟨_, rfl⟩
      have HRD := Lib.hid hRD
      have KC : Hid (∀ W, Below W0.heap.size W0 W → Calls Try.prog 15 #[.slice A xs.length c, wtV name proto six loc hint node zone] W fun e w' => (∃ v', e = .returned v' ∧ Row eCd w' v' (chooseL loc hint zone z xs)) ∧ Below W.heap.size W w') := Lib.hid (fun W hW => choose_calls _ name proto six loc hint node zone xs z W ((hv.below hB0).below hW) (by omega))
      have HEA : Hid (∀ x ∈ chooseL loc hint zone z xs, x ∈ xs ∧ (loc = true → x.loc = true) ∧ (x.rdy = true ∨ (x.rdy = false ∧ RD = false ∧ x.srv = true ∧ x.trm = true))) := Lib.hid (fun x hx => by have := choose_each hx; rw [← hRD] at this; exact this)
      have HSO : Hid (RD = true → 0 < (chooseL loc hint zone z xs).length) := Lib.hid (fun h => List.length_pos_iff.2 (choose_some (by rw [← hRD]; exact h)))
      have HCL : Hid ((chooseL loc hint zone z xs).length ≤ 60) := Lib.hid (Nat.le_trans (choose_len _ _ _ _ _) hx60)
      have KS : Hid (∀ x y W, x ∈ xs → y ∈ xs → Below W0.heap.size W0 W → Calls Try.prog 17 #[.agg x.cells.toArray, .agg y.cells.toArray] W fun e w' => (∃ q, e = .returned (.bool q) ∧ (x = y → q = true)) ∧ Below W.heap.size W w') := Lib.hid (fun x y W hx hy hW => (same_calls x y (z x) (z y) W (((hv.below hB0).below hW).2 x hx) (((hv.below hB0).below hW).2 y hy)).mono (by rintro e w' ⟨he, hb⟩; exact ⟨⟨_, he, by rintro rfl; exact same_refl _ _⟩, hb⟩))
      generalize chooseL loc hint zone z xs = cs at KC HEA HSO HCL
      clear hv hr hz hL hL2 hG hWB hB0 hRD hW0
      go_enter Try.func4, Try.ntmps4
      go_wp2_with (first
        | (go_at_call 8; ((with_reducible refine (KA.out _).mono ?_); rintro e w1 ⟨rfl, hb1⟩; have HB1 : Hid (Below W0.heap.size W0 w1) := Lib.hid (by rw [HW0.out]; exact hb1); clear hb1))
        | (go_at_call 9; ((with_reducible refine (KG.out _ HB1.out).mono ?_); rintro e w2 ⟨rfl, hb2⟩; have HB2 := Lib.hid (HB1.out.trans (hb2.mono HB1.out.size)); have hl2 := (HLD.out _ HB2.out).2; clear hb2))
        | (go_at_call 10; ((with_reducible refine (KW.out _).mono ?_); rintro e w3 ⟨rfl, hb3⟩; have HB3 := Lib.hid (HB2.out.trans (hb3.mono HB2.out.size)); clear hb3)))
      go_loopw [5, 24] (fun rv iv wr => ∃ (k : Nat) (r : Bool), k ≤ xs.length ∧ iv = .int .i64 (k : Int) ∧ rv = .bool r ∧ Hid (RD = (r || (xs.drop k).any (fun x => x.rdy && (x.loc || !loc)))) ∧ Hid (Below W0.heap.size W0 wr)) (fun _ iv _ => xs.length - (intOf iv).toNat)
      case atStart => exact ⟨0, false, Nat.zero_le _, rfl, rfl, Lib.hid (by rw [HRD.out]; rfl), HB3⟩
      case round =>
        obtain ⟨k, r, hk, rfl, rfl, HL, HWR⟩ := hrel
        by_cases hlt : k < xs.length
        · obtain ⟨ad, rfl, _⟩ := (HV.out _ HWR.out).1.at hlt
          have hld : (loadCells (ad.add (k * 23)) 23).run Try.prog wr = .ok (xs[k].cells).toArray wr := row_load (HV.out _ HWR.out).1 k hlt
          have HS := Lib.hid (HL.out.trans (congrArg (fun q => r || q) (any_step xs _ k hlt)))
          generalize xs[k] = x at hld HS
          obtain ⟨w2', s2, k2, b2⟩ := HBX.out wr x
          have c18 : w2'.cell? ⟨wr.heap.size, 18, none⟩ = some (.bool x.loc) := k2.cell 18 _ x.at.1
          have c19 : w2'.cell? ⟨wr.heap.size, 19, none⟩ = some (.bool x.rdy) := k2.cell 19 _ x.at.2.1
          have HB4 := Lib.hid (HWR.out.trans (b2.mono HWR.out.size))
          have c3 := (HLD.out _ HB4.out).1
          have hsl : (x.cells.toArray).toList = x.cells := rfl
          have hsz : (x.cells.toArray).size = 23 := Cd.len x
          clear k2 b2
          generalize x.cells.toArray = xa at hld hsl hsz
          generalize x.rdy = q1 at c19 HS
          generalize x.loc = q2 at c18 HS
          have HR : Hid (RD = ((r || (q1 && (q2 || !loc))) || (xs.drop (k + 1)).any (fun x => x.rdy && (x.loc || !loc)))) := Lib.hid (by rw [HS.out, Bool.or_assoc])
          clear HS
          cases r <;> cases q1 <;> cases q2 <;> cases loc
          all_goals
            go_wp2
            go_roundw
            case rel => exact ⟨k + 1, _, by omega, by go_num, rfl, HR, HB4⟩
            case measure => simp [intOf]; omega
        · have HR : Hid (RD = r) := Lib.hid (by rw [HL.out, List.drop_of_length_le (by omega)]; simp)
          have hl4 := (HLD.out _ HWR.out).2
          go_wp2_with (go_at_call 15; ((with_reducible refine (KC.out _ HWR.out).mono ?_); rintro e w5 ⟨⟨v5, rfl, hr5⟩, hb5⟩; obtain ⟨A5, c5, rfl, _, _, hr5⟩ := hr5.parts; have HR5 := Lib.hid hr5; have HB5 := Lib.hid (HWR.out.trans (hb5.mono HWR.out.size)); have HSZ := Lib.hid hb5.size; clear hr5 hb5))
          clear hl4
          go_loopw [48] (fun iv wr => ∃ k : Nat, k ≤ cs.length ∧ iv = .int .i64 (k : Int) ∧ Hid (Below w5.heap.size w5 wr)) (fun iv _ => cs.length - (intOf iv).toNat)
          case atStart => exact ⟨0, Nat.zero_le _, rfl, Lib.hid (Below.refl _ _)⟩
          case round =>
            obtain ⟨m, hmm, rfl, HWS⟩ := hrel
            by_cases hlm : m < cs.length
            · have HW6 := Lib.hid (HB5.out.trans (HWS.out.mono HB5.out.size))
              obtain ⟨ad5, rfl, _⟩ := (HR5.out.below HWS.out).at hlm
              have hld : (loadCells (ad5.add (m * 23)) 23).run Try.prog wr = .ok (cs[m].cells).toArray wr := row_load (HR5.out.below HWS.out) m hlm
              have HE := Lib.hid (HEA.out cs[m] (List.getElem_mem hlm))
              generalize cs[m] = y at hld HE
              obtain ⟨w6, s6, k6, b6⟩ := HBX.out wr y
              have c18 : w6.cell? ⟨wr.heap.size, 18, none⟩ = some (.bool y.loc) := k6.cell 18 _ y.at.1
              have c19 : w6.cell? ⟨wr.heap.size, 19, none⟩ = some (.bool y.rdy) := k6.cell 19 _ y.at.2.1
              have c20 : w6.cell? ⟨wr.heap.size, 20, none⟩ = some (.bool y.srv) := k6.cell 20 _ y.at.2.2.1
              have c21 : w6.cell? ⟨wr.heap.size, 21, none⟩ = some (.bool y.trm) := k6.cell 21 _ y.at.2.2.2.1
              have HK6 : Hid (∀ W, Below w6.heap.size w6 W → (loadCells ⟨wr.heap.size, 0, none⟩ 23).run Try.prog W = .ok y.cells.toArray W) := Lib.hid (fun W hW => (k6.below hW).load 0 23 y.cells (by rw [List.drop_zero, List.take_of_length_le (by rw [Cd.len]; decide)]) (Cd.len y))
              have HB6 := Lib.hid (HW6.out.trans (b6.mono HW6.out.size))
              have HB56 := Lib.hid b6
              have c3 := (HLD.out _ HB6.out).1
              have hsl : (y.cells.toArray).toList = y.cells := rfl
              have hsz : (y.cells.toArray).size = 23 := Cd.len y
              clear k6 b6
              have HY := Lib.hid HE.out.1
              have hb : (loc = false ∨ (loc = true ∧ y.loc = true)) ∧ (y.rdy = true ∨ (y.rdy = false ∧ r = false ∧ y.srv = true ∧ y.trm = true)) := by
                obtain ⟨_, h1, h2⟩ := HE.out
                refine ⟨?_, ?_⟩
                · cases loc
                  · exact .inl rfl
                  · exact .inr ⟨rfl, h1 rfl⟩
                · rw [HR.out] at h2; exact h2
              obtain ⟨hb1, hb2⟩ := hb
              have hq : ∃ b1 b2 : Bool, y.loc = b1 ∧ y.rdy = b2 ∧ ((loc = false ∧ b1 = b1) ∨ (loc = true ∧ b1 = true)) ∧ (b2 = true ∨ (b2 = false ∧ r = false ∧ y.srv = true ∧ y.trm = true)) := ⟨_, _, rfl, rfl, by rcases hb1 with h | h; exact .inl ⟨h, rfl⟩; exact .inr h, hb2⟩
              clear hb1 hb2
              obtain ⟨b1, b2, e1, e2, hb1, hb2⟩ := hq
              rw [e1] at c18
              rw [e2] at c19
              clear e1 e2
              rcases hb1 with ⟨h1, _⟩ | ⟨h1, h2⟩ <;> rcases hb2 with h3 | ⟨h3, h4, h5, h6⟩
              all_goals
                try rw [h5] at c20
                try rw [h6] at c21
                try clear h5 h6
                try subst h2
                subst h1 h3
                try subst h4
              all_goals try cases r
              all_goals
                go_wp2
                clear c18 c19 c20 c21 hld s6
                go_loopw [11, 83] (fun fv iv wr => ∃ (t : Nat) (f : Bool), t ≤ xs.length ∧ iv = .int .i64 (t : Int) ∧ fv = .bool f ∧ Hid (f = true ∨ y ∈ xs.drop t) ∧ Hid (Below w6.heap.size w6 wr)) (fun _ iv _ => xs.length - (intOf iv).toNat)
                case atStart => exact ⟨0, false, Nat.zero_le _, rfl, rfl, Lib.hid (.inr HY.out), Lib.hid (Below.refl _ _)⟩
                case round =>
                  obtain ⟨t, f, ht, rfl, rfl, HF, HWT⟩ := hrel
                  have HW7 := Lib.hid (HB6.out.trans (HWT.out.mono HB6.out.size))
                  by_cases hlq : t < xs.length
                  · obtain ⟨ad7, rfl, _⟩ := (HV.out _ HW7.out).1.at hlq
                    have hld : (loadCells (ad7.add (t * 23)) 23).run Try.prog wr = .ok (xs[t].cells).toArray wr := row_load (HV.out _ HW7.out).1 t hlq
                    have HM := Lib.hid (List.getElem_mem hlq)
                    have HD : Hid (f = true ∨ xs[t] = y ∨ y ∈ xs.drop (t + 1)) := Lib.hid (by
                      rcases HF.out with h | h
                      · exact .inl h
                      · rw [List.drop_eq_getElem_cons hlq] at h
                        rcases List.mem_cons.1 h with h | h
                        · exact .inr (.inl h.symm)
                        · exact .inr (.inr h))
                    generalize xs[t] = x at hld HM HD
                    obtain ⟨w8, s8, k8, b8⟩ := HBX.out wr x
                    have HB8 := Lib.hid (HWT.out.trans (b8.mono HWT.out.size))
                    have HW8 := Lib.hid (HW7.out.trans (b8.mono HW7.out.size))
                    cases f
                    · have l1 : (loadCells ⟨wr.heap.size, 0, none⟩ 23).run Try.prog w8 = .ok x.cells.toArray w8 := k8.load 0 23 x.cells (by rw [List.drop_zero, List.take_of_length_le (by rw [Cd.len]; decide)]) (Cd.len x)
                      have l2 := HK6.out _ HB8.out
                      have KSS := Lib.hid (KS.out x y w8 HM.out HY.out HW8.out)
                      have hsl8 : (x.cells.toArray).toList = x.cells := rfl
                      have hsz8 : (x.cells.toArray).size = 23 := Cd.len x
                      clear k8 b8
                      generalize x.cells.toArray = xa at hld hsl8 hsz8 l1 KSS
                      generalize y.cells.toArray = ya at hsl hsz l2 KSS HK6
                      go_wp2_with (go_at_call 17; ((with_reducible refine KSS.out.mono ?_); rintro e w9 ⟨⟨q, rfl, hq⟩, hb9⟩; have HQ := Lib.hid hq; have HB9 := Lib.hid (HB8.out.trans (hb9.mono HB8.out.size)); clear hq hb9))
                      have HT : Hid (q = true ∨ y ∈ xs.drop (t + 1)) := Lib.hid (by
                        rcases HD.out with h | h | h
                        · cases h
                        · exact .inl (HQ.out h)
                        · exact .inr h)
                      first
                        | exact ⟨⟨t + 1, q, by omega, by go_num, rfl, HT, HB9⟩, by simp [intOf]; omega⟩
                        | (go_roundw
                           case rel => exact ⟨t + 1, _, by omega, by go_num, rfl, HT, HB9⟩
                           case measure => simp [intOf]; omega)
                    · have HT : Hid (true = true ∨ y ∈ xs.drop (t + 1)) := Lib.hid (.inl rfl)
                      have hsl8 : (x.cells.toArray).toList = x.cells := rfl
                      have hsz8 : (x.cells.toArray).size = 23 := Cd.len x
                      clear k8 b8
                      generalize x.cells.toArray = xa at hld hsl8 hsz8
                      go_wp2
                      go_roundw
                      case rel => exact ⟨t + 1, _, by omega, by go_num, rfl, HT, HB8⟩
                      case measure => simp [intOf]; omega
                  · have HT : Hid (f = true) := Lib.hid (by
                      rcases HF.out with h | h
                      · exact h
                      · rw [List.drop_of_length_le (by omega)] at h; cases h)
                    cases f
                    · cases HT.out
                    · have HBO := Lib.hid (HWS.out.trans (HB56.out.trans (HWT.out.mono HB56.out.size) |>.mono HWS.out.size))
                      go_wp2
                      go_roundw
                      case rel => exact ⟨m + 1, by omega, by go_num, HBO⟩
                      case measure => simp [intOf]; omega
            · have HBO := Lib.hid (HBB.out _ (HB5.out.trans (HWS.out.mono HB5.out.size)))
              have HS1 : r = true → (0 : Int) < (cs.length : Int) := fun h => by have := HSO.out (HR.out.trans h); omega
              cases r
              · clear HS1
                go_wp2
                go_ret
                exact ⟨rfl, HBO.out⟩
              · have hs1 := HS1 rfl
                clear HS1
                go_wp2
                go_ret
                exact ⟨by simp; omega, HBO.out⟩
end Go.Proofs.Ytcfgffkjbkpfhaa.Cand
