/- linkboyref18.Zones. -/
import Derived.Test.YtcfgffkjbkpfhaaCand16
import Derived.Test.YtcfgffkjbkpfhaaZones
import Derived.Test.YtcfgffkjbkpfhaaZoneP
import Derived.Sort.Walk0
namespace Go.Proofs.Ytcfgffkjbkpfhaa.Cand
open Go.RowKit Go.Sort Go.Proofs.Ytcfgffkjbkpfhaa.SortS Go.Proofs.Ytcfgffkjbkpfhaa.Mem Go.Proofs.Ytcfgffkjbkpfhaa.Num Go.Proofs.Ytcfgffkjbkpfhaa.Key
open Go.Proofs.Ytcfgffkjbkpfhaa.Addr hiding below_allocd
set_option linter.unusedVariables false
set_option linter.unusedSimpArgs false
set_option maxRecDepth 100000
attribute [-go_sem] Builtin.append_ loadCells loadCellsFrom storeCells run_eql_struct
def ZInv (out F : List ByteArray) : Prop := Rises out ∧ ∀ s, s ∈ out ↔ s ∈ F
theorem zinv_same {out F : List ByteArray} {s : ByteArray} (h : ZInv out F) (hs : s ∈ out) : ZInv out (F ++ [s]) := by
  refine ⟨h.1, fun x => ?_⟩
  rw [List.mem_append, List.mem_singleton, ← h.2 x]
  exact ⟨fun k => .inl k, fun k => by rcases k with k | rfl; exact k; exact hs⟩
theorem zinv_put {out F : List ByteArray} {s : ByteArray} {k : Nat} (h : ZInv out F) (hk : k ≤ out.length) (h1 : ∀ (j : Nat) (hj : j < out.length), k ≤ j → ltS s out[j]) (h2 : ∀ (hk0 : 0 < k), ltS (out[k - 1]'(by omega)) s) : ZInv (out.take k ++ [s] ++ out.drop k) (F ++ [s]) := by
  obtain ⟨q1, q2⟩ := rises_insert h.1 hk h1 h2
  refine ⟨q1, fun x => ?_⟩
  rw [q2 x, List.mem_append, List.mem_singleton, ← h.2 x]
theorem less_true {a b : ByteArray} (h : ltS a b) : Op.bytesLess a.toList b.toList = true := by
  rw [bytesLess_eq, ByteArray.toList_eq, ByteArray.toList_eq]
  exact decide_eq_true h
theorem less_false {a b : ByteArray} (h : ¬ ltS a b) : Op.bytesLess a.toList b.toList = false := by
  rw [bytesLess_eq, ByteArray.toList_eq, ByteArray.toList_eq]
  exact decide_eq_false h
theorem same_eq {a b : ByteArray} (h : (a.toList == b.toList) = true) : a = b := by
  have e := eq_of_beq h
  rw [ByteArray.toList_eq, ByteArray.toList_eq] at e
  obtain ⟨⟨a⟩⟩ := a
  obtain ⟨⟨b⟩⟩ := b
  simp at e
  rw [e]
theorem flat_rdy (z : Cd → List ByteArray) (xs : List Cd) (k : Nat) (hk : k < xs.length) : (rdyL (xs.take (k + 1))).flatMap z = (rdyL (xs.take k)).flatMap z ++ if xs[k].rdy then z xs[k] else [] := by
  unfold rdyL
  rw [List.take_succ_eq_append_getElem hk, List.filter_append, List.flatMap_append, List.filter_cons, List.filter_nil]
  cases xs[k].rdy <;> simp
set_option maxHeartbeats 8000000 in
theorem rzones_calls (v : Value) (xs : List Cd) (z : Cd → List ByteArray) (w : World) (hv : Cands w v xs z) (hl : xs.length ≤ 60) (hz : ∀ x ∈ xs, (z x).length ≤ 400) :
    Calls Try.prog 34 #[v] w fun e w' => (∃ v', e = .returned v' ∧ Row eStr w' v' (zonesL z xs)) ∧ Below w.heap.size w w' := by
  obtain ⟨A, c, rfl, _, _, _⟩ := hv.1.parts
  have HV : Hid (∀ W, Below w.heap.size w W → Cands W (.slice A xs.length c) xs z) := Lib.hid (fun W hW => hv.below hW)
  have HBX := Lib.hid (fun (W : World) (x : Cd) => HBXr (P := Try.prog) W x)
  have hl2 : xs.length ≤ 9223372036854775807 := by omega
  have HZ4 := Lib.hid hz
  have HFL : Hid (∀ k, ((rdyL (xs.take k)).flatMap z).length ≤ 24000) := Lib.hid (fun k => by
    have h1 := flat_len z (rdyL (xs.take k)) (fun x hx => hz x (List.mem_of_mem_take (List.mem_filter.1 hx).1))
    have h2 : (rdyL (xs.take k)).length ≤ 60 := Nat.le_trans (List.length_filter_le _ _) (Nat.le_trans (List.length_take_le' _ _) hl)
    omega)
  clear hv hl hz
  go_enter Try.func34, Try.ntmps34
  go_wp2
  go_loopw [3, 12] (fun ov iv wr => ∃ (k : Nat) (out : List ByteArray), k ≤ xs.length ∧ iv = .int .i64 (k : Int) ∧ Hid (Own eStr 9 w.heap.size wr ov out) ∧ Hid (ZInv out ((rdyL (xs.take k)).flatMap z)) ∧ Hid (out.length ≤ ((rdyL (xs.take k)).flatMap z).length) ∧ Hid (Below w.heap.size w wr)) (fun _ iv _ => xs.length - (intOf iv).toNat)
  case atStart => exact ⟨0, [], Nat.zero_le _, rfl, Lib.hid (Own.lit w w.heap.size eStr 9 [] 0 rfl _ rfl (Nat.le_refl _) (by simp)), Lib.hid ⟨List.Pairwise.nil, fun s => by simp [rdyL]⟩, Lib.hid (by simp), Lib.hid ((Below.refl _ _).alloc (Nat.le_refl _) _)⟩
  case round =>
    obtain ⟨k, out, hk, rfl, HO, HI, HL, HW⟩ := hrel
    by_cases hlt : k < xs.length
    · obtain ⟨ad, rfl, _⟩ := (HV.out _ HW.out).1.at hlt
      have hld : (loadCells (ad.add (k * 23)) 23).run Try.prog wr = .ok (xs[k].cells).toArray wr := row_load (HV.out _ HW.out).1 k hlt
      have HZR : Hid (∀ W, Below w.heap.size w W → Row eStr W (.slice xs[k].A xs[k].n xs[k].c) (z xs[k])) := Lib.hid (fun W hW => (HV.out W hW).2 xs[k] (List.getElem_mem hlt))
      have HZ5 := Lib.hid (HZ4.out xs[k] (List.getElem_mem hlt))
      have HT := Lib.hid (flat_rdy z xs k hlt)
      have HF2 := HFL.out (k + 1)
      generalize xs[k] = x at hld HZR HZ5 HT
      obtain ⟨w2, s2, k2, b2⟩ := HBX.out wr x
      have c19 : w2.cell? ⟨wr.heap.size, 19, none⟩ = some (.bool x.rdy) := k2.cell 19 _ x.at.2.1
      have c22 : w2.cell? ⟨wr.heap.size, 22, none⟩ = some (.slice x.A x.n x.c) := k2.cell 22 _ x.at.2.2.2.2
      have HB2 := Lib.hid (HW.out.trans (b2.mono HW.out.size))
      have HO2 := Lib.hid (HO.out.below b2)
      have hsl : (x.cells.toArray).toList = x.cells := rfl
      have hsz : (x.cells.toArray).size = 23 := Cd.len x
      clear k2 b2
      generalize x.rdy = q0 at c19 HT
      cases q0
      · have HT2 : Hid ((rdyL (xs.take (k + 1))).flatMap z = (rdyL (xs.take k)).flatMap z) := Lib.hid (by rw [HT.out]; simp)
        have HI2 : Hid (ZInv out ((rdyL (xs.take (k + 1))).flatMap z)) := Lib.hid (by rw [HT2.out]; exact HI.out)
        have HL2 : Hid (out.length ≤ ((rdyL (xs.take (k + 1))).flatMap z).length) := Lib.hid (by rw [HT2.out]; exact HL.out)
        go_wp2
        go_roundw
        case rel => exact ⟨k + 1, out, by omega, by go_num, HO2, HI2, HL2, HB2⟩
        case measure => simp [intOf]; omega
      · obtain ⟨F, hF⟩ : ∃ F, F = (rdyL (xs.take k)).flatMap z := ⟨_, rfl⟩
        obtain ⟨zs, hzs⟩ : ∃ zs, zs = z x := ⟨_, rfl⟩
        have HT2 : Hid ((rdyL (xs.take (k + 1))).flatMap z = F ++ zs) := Lib.hid (by rw [HT.out, hF, hzs]; simp)
        have HFZ : Hid (F.length + zs.length ≤ 24000) := Lib.hid (by rw [HT2.out, List.length_append] at HF2; exact HF2)
        have HIF : Hid (ZInv out (F ++ zs.take 0)) := Lib.hid (by rw [hF]; simpa using HI.out)
        have HLF : Hid (out.length ≤ F.length + 0) := Lib.hid (by rw [hF]; exact HL.out)
        have HZS : Hid (∀ W, Below w.heap.size w W → Row eStr W (.slice x.A x.n x.c) zs) := Lib.hid (fun W hW => by rw [hzs]; exact HZR.out W hW)
        have hn := (HZS.out _ HB2.out).len
        have hzl : zs.length ≤ 24000 := by have := HFZ.out; omega
        have hF24 : F.length ≤ 24000 := by have := HFZ.out; omega
        rw [hn] at c22
        have HZ6 : Hid (∀ W, Below w.heap.size w W → Row eStr W (.slice x.A zs.length x.c) zs) := Lib.hid (fun W hW => by rw [← hn]; exact HZS.out W hW)
        clear hF hzs hn HF2
        generalize x.A = xA at c22 HZ6
        generalize x.c = xC at c22 HZ6
        go_wp2
        clear hld s2 c19 c22 hsl hsz
        go_loopw [3, 22] (fun ov iv wr => ∃ (t : Nat) (out : List ByteArray), t ≤ zs.length ∧ iv = .int .i64 (t : Int) ∧ Hid (Own eStr 9 w.heap.size wr ov out) ∧ Hid (ZInv out (F ++ zs.take t)) ∧ Hid (out.length ≤ F.length + t) ∧ Hid (Below w.heap.size w wr)) (fun _ iv _ => zs.length - (intOf iv).toNat)
        case atStart => exact ⟨0, out, Nat.zero_le _, rfl, HO2, HIF, HLF, HB2⟩
        case round =>
          obtain ⟨t, out, ht, rfl, HO, HI, HL, HW⟩ := hrel
          by_cases hlq : t < zs.length
          · obtain ⟨zd, rfl, hcell⟩ := (HZ6.out _ HW.out).at1 hlq
            have HTS : Hid (zs.take (t + 1) = zs.take t ++ [zs[t]]) := Lib.hid (List.take_succ_eq_append_getElem hlq)
            generalize zs[t] = s at hcell HTS
            obtain ⟨A3, c3, rfl, hk3, hm3, hr3⟩ := HO.out.row.parts
            have hol : out.length ≤ 48000 := by have := HL.out; omega
            have HTL : Hid ((out.take out.length).length + 1 + out.length ≤ 1000000 ∧ out.length ≤ 48000) := Lib.hid ⟨by rw [List.take_length]; omega, hol⟩
            have hol2 : out.length ≤ 9223372036854775807 := by omega
            go_wp2
            go_loop [8] (fun av => ∃ a : Nat, a ≤ out.length ∧ av = .int .i64 (a : Int) ∧ Hid (∀ (j : Nat) (hj : j < out.length), a ≤ j → ltS s out[j])) (fun av => (intOf av).toNat)
            case atStart => exact ⟨out.length, Nat.le_refl _, rfl, Lib.hid (fun j hj h => by omega)⟩
            case round =>
              obtain ⟨a, ha, rfl, HGE⟩ := hrel
              rcases Nat.eq_zero_or_pos a with rfl | hpos
              · have HLE : Hid (∀ (hk0 : 0 < 0), ltS (out[0 - 1]'(by omega)) s) := Lib.hid (fun h => absurd h (Nat.lt_irrefl _))
                obtain ⟨At, _, r2, _, hrT⟩ := Row.cut (P := Try.prog) 42 9 Try.underlying42 infoStr hr3 0 (0) (Nat.zero_le _) (by omega)
                obtain ⟨Ad, _, _, r3, hrD⟩ := Row.cut (P := Try.prog) 42 9 Try.underlying42 infoStr hr3 (0) out.length (by omega) (Nat.le_refl _)
                have s1 : ∀ W, (Instr.slice 42 (.slice A3 out.length c3) none (some (.int .i64 (0))) none).run Try.prog W = .ok (.slice At (0) c3) W := fun W => r2 rfl W .i64
                have s2 : ∀ W, (Instr.slice 42 (.slice A3 out.length c3) (some (.int .i64 (0))) none none).run Try.prog W = .ok (.slice Ad (out.length - (0)) (c3 - (0))) W := fun W => r3 rfl W .i64
                have HTK : Hid (∀ W, Below wr.heap.size wr W → Row eStr W (.slice At (0) c3) (out.take (0))) := Lib.hid (fun W hW => hrT W (fun _ _ h => cell_below hW h))
                have HDK : Hid (∀ W, Below wr.heap.size wr W → Row eStr W (.slice Ad (out.length - (0)) (c3 - (0))) (out.drop (0))) := Lib.hid (fun W hW => by have := hrD W (fun _ _ h => cell_below hW h); rwa [List.take_length] at this)
                have HPUT := Lib.hid (zinv_put HI.out (k := 0) (by omega) HGE.out HLE.out)
                clear r2 r3 hrT hrD
                go_wp2
                go_region_law (first
                  | (refine step_append (E := eStr) wr.heap.size rfl (.tmp 52) (.tmp 55) 42 9 _ 16 rfl Try.underlying42 infoStr rfl (by decide) _ _ [] (out.take (0)) rfl rfl (Own.lit' (wr.drewN _) wr.heap.size rfl wr.heap.size eStr 9 [] 0 rfl #[] rfl (Nat.le_refl _) (by simp)) (HTK.out _ ((below_drewN (Below.refl wr.heap.size wr) _).alloc (Nat.le_refl _) _)) (by simp [World.drewN] <;> omega) (by have := HTL.out.2; simp only [List.length_append, List.length_take, List.length_drop, List.length_nil, List.length_cons]; omega) ?_; intro v1 w1 ho1 hg1 hat1; rw [List.nil_append] at ho1; have HO1 := Lib.hid ho1; have HB1 : Hid (Below wr.heap.size wr w1) := Lib.hid (below_app ((below_drewN (Below.refl wr.heap.size wr) _).alloc (Nat.le_refl _) _) (by simp [World.drewN] <;> omega) (Own.lit' (wr.drewN _) wr.heap.size rfl wr.heap.size eStr 9 [] 0 rfl #[] rfl (Nat.le_refl _) (by simp)) hg1); clear ho1 hg1 hat1)
                  | (refine step_append (E := eStr) wr.heap.size rfl (.tmp 52) (.tmp 55) 42 9 _ 16 rfl Try.underlying42 infoStr rfl (by decide) _ _ [] (out.take (0)) rfl rfl ((Own.lit' (wr.drewN _) wr.heap.size rfl wr.heap.size eStr 9 [] 0 rfl #[] rfl (Nat.le_refl _) (by simp)).alloc _) (HTK.out _ (((below_drewN (Below.refl wr.heap.size wr) _).alloc (Nat.le_refl _) _).alloc (by simp [World.drewN] <;> omega) _)) (by simp [World.drewN] <;> omega) (by have := HTL.out.2; simp only [List.length_append, List.length_take, List.length_drop, List.length_nil, List.length_cons]; omega) ?_; intro v1 w1 ho1 hg1 hat1; rw [List.nil_append] at ho1; have HO1 := Lib.hid ho1; have HB1 : Hid (Below wr.heap.size wr w1) := Lib.hid (below_app (((below_drewN (Below.refl wr.heap.size wr) _).alloc (Nat.le_refl _) _).alloc (by simp [World.drewN] <;> omega) _) (by simp [World.drewN] <;> omega) ((Own.lit' (wr.drewN _) wr.heap.size rfl wr.heap.size eStr 9 [] 0 rfl #[] rfl (Nat.le_refl _) (by simp)).alloc _) hg1); have hgq : World.grownBy _ w1 (some wr.heap.size) := hg1; have HZ1 := Lib.hid ((Own.lit' ((wr.drewN _).alloc (.cells #[] 9)) (wr.heap.size + 1) (by simp [World.drewN] <;> omega) 0 eStr 9 [s] 1 rfl #[.string s] rfl (Nat.zero_le _) (by simp)).kept hgq (.inr (by simp [Value.ownBlock]))).row; clear ho1 hg1 hat1)
                  | (refine step_append (E := eStr) wr.heap.size rfl (.tmp 52) (.tmp 55) 42 9 _ 16 rfl Try.underlying42 infoStr rfl (by decide) _ _ [] (out.take (0)) rfl rfl (Own.lit' ((wr.drewN _).alloc _) (wr.heap.size + 1) (by simp [World.drewN] <;> omega) wr.heap.size eStr 9 [] 0 rfl #[] rfl (by simp [World.drewN] <;> omega) (by simp)) (HTK.out _ (((below_drewN (Below.refl wr.heap.size wr) _).alloc (Nat.le_refl _) _).alloc (by simp [World.drewN] <;> omega) _)) (by simp [World.drewN] <;> omega) (by have := HTL.out.2; simp only [List.length_append, List.length_take, List.length_drop, List.length_nil, List.length_cons]; omega) ?_; intro v1 w1 ho1 hg1 hat1; rw [List.nil_append] at ho1; have HO1 := Lib.hid ho1; have HB1 : Hid (Below wr.heap.size wr w1) := Lib.hid (below_app (((below_drewN (Below.refl wr.heap.size wr) _).alloc (Nat.le_refl _) _).alloc (by simp [World.drewN] <;> omega) _) (by simp [World.drewN] <;> omega) (Own.lit' ((wr.drewN _).alloc _) (wr.heap.size + 1) (by simp [World.drewN] <;> omega) wr.heap.size eStr 9 [] 0 rfl #[] rfl (by simp [World.drewN] <;> omega) (by simp)) hg1); have hgq : World.grownBy _ w1 (some (wr.heap.size + 1)) := hg1; have HZ1 := Lib.hid (((Own.lit' (wr.drewN _) wr.heap.size rfl 0 eStr 9 [s] 1 rfl #[.string s] rfl (Nat.zero_le _) (by simp)).alloc (.cells #[] 9)).kept hgq (.inr (by simp [Value.ownBlock]))).row; clear ho1 hg1 hat1)
                  | (refine step_append (E := eStr) wr.heap.size rfl (.tmp 56) (.tmp 58) 42 9 _ 16 rfl Try.underlying42 infoStr rfl (by decide) _ _ (out.take (0)) [s] rfl rfl (HO1.out.alloc _) (Own.lit w1 0 eStr 9 [s] 1 rfl #[.string s] rfl (Nat.zero_le _) (by simp)).row (size_alloc_le HB1.out _) (by have := HTL.out.2; simp only [List.length_append, List.length_take, List.length_drop, List.length_nil, List.length_cons]; omega) ?_; intro v2 w2 ho2 hg2 hat2; have HO2 := Lib.hid ho2; have HB2 : Hid (Below wr.heap.size wr w2) := Lib.hid (below_app (HB1.out.alloc HB1.out.size _) (size_alloc_le HB1.out _) (HO1.out.alloc _) hg2); clear ho2 hg2 hat2)
                  | (refine step_append (E := eStr) wr.heap.size rfl (.tmp 56) (.tmp 58) 42 9 _ 16 rfl Try.underlying42 infoStr rfl (by decide) _ _ (out.take (0)) [s] rfl rfl HO1.out HZ1.out HB1.out.size (by have := HTL.out.2; simp only [List.length_append, List.length_take, List.length_drop, List.length_nil, List.length_cons]; omega) ?_; intro v2 w2 ho2 hg2 hat2; have HO2 := Lib.hid ho2; have HB2 : Hid (Below wr.heap.size wr w2) := Lib.hid (below_app HB1.out HB1.out.size HO1.out hg2); clear ho2 hg2 hat2)
                  | (refine step_append (E := eStr) wr.heap.size rfl (.tmp 59) (.tmp 62) 42 9 _ 16 rfl Try.underlying42 infoStr rfl (by decide) _ _ (out.take (0) ++ [s]) (out.drop (0)) rfl rfl HO2.out (HDK.out _ HB2.out) HB2.out.size (by have := HTL.out.2; simp only [List.length_append, List.length_take, List.length_drop, List.length_nil, List.length_cons]; omega) ?_; intro v3 w3 ho3 hg3 hat3; have HO3 := Lib.hid (ho3.lower HW.out.size); have HB3 : Hid (Below wr.heap.size wr w3) := Lib.hid (below_app HB2.out HB2.out.size HO2.out hg3); clear ho3 hg3 hat3))
                all_goals go_wp2
                all_goals
                  go_roundw
                  case rel => exact ⟨t + 1, out.take (0) ++ [s] ++ out.drop (0), by omega, by go_num, HO3, Lib.hid (by rw [HTS.out, ← List.append_assoc]; exact HPUT.out), Lib.hid (by have h1 := HL.out; have h2 : out.length ≤ out.length := Nat.le_refl _; simp only [List.length_append, List.length_take, List.length_drop, List.length_cons, List.length_nil]; omega), Lib.hid (HW.out.trans (HB3.out.mono HW.out.size))⟩
                  case measure => simp [intOf]; omega
              · obtain ⟨b, rfl⟩ : ∃ b, a = b + 1 := ⟨a - 1, by omega⟩
                have hb : b < out.length := by omega
                obtain ⟨od, rfl, hoc⟩ := hr3.at1 hb
                have heq : ∀ y, y = out[b] → (y.toList == s.toList) = (s.toList == y.toList) := fun y _ => Bool.beq_comm
                obtain ⟨y, hy⟩ : ∃ y, y = out[b] := ⟨_, rfl⟩
                have HY := Lib.hid hy
                rw [← hy] at hoc
                by_cases hlty : ltS s y
                · have hls := less_true hlty
                  have HGE2 : Hid (∀ (j : Nat) (hj : j < out.length), b ≤ j → ltS s out[j]) := Lib.hid (fun j hj h => by
                    by_cases e : j = b
                    · subst e; rw [← HY.out]; exact hlty
                    · exact HGE.out j hj (by omega))
                  clear hlty hy heq
                  go_wp2
                  go_round
                  case rel => exact ⟨b, by omega, by go_num, HGE2⟩
                  case measure => simp [intOf]
                · have hls := less_false hlty
                  have he3 : (s.toList == y.toList) = (y.toList == s.toList) := Bool.beq_comm
                  have he : (y == s) = (y.toList == s.toList) := beq_toListBytes y s
                  generalize hq : (y.toList == s.toList) = q at he he3
                  cases q
                  · have HLE : Hid (∀ (hk0 : 0 < b + 1), ltS (out[b + 1 - 1]'(by omega)) s) := Lib.hid (fun _ => by
                      show ltS (out[b]'hb) s
                      rw [← HY.out]
                      rcases ltS_tri s y with h | h | h
                      · exact absurd h hlty
                      · subst h; simp at hq
                      · exact h)
                    clear hlty hy heq
                    obtain ⟨At, _, r2, _, hrT⟩ := Row.cut (P := Try.prog) 42 9 Try.underlying42 infoStr hr3 0 (b + 1) (Nat.zero_le _) (by omega)
                    obtain ⟨Ad, _, _, r3, hrD⟩ := Row.cut (P := Try.prog) 42 9 Try.underlying42 infoStr hr3 (b + 1) out.length (by omega) (Nat.le_refl _)
                    have s1 : ∀ W, (Instr.slice 42 (.slice (some od) out.length c3) none (some (.int .i64 ((b : Int) + 1))) none).run Try.prog W = .ok (.slice At (b + 1) c3) W := fun W => r2 rfl W .i64
                    have s2 : ∀ W, (Instr.slice 42 (.slice (some od) out.length c3) (some (.int .i64 ((b : Int) + 1))) none none).run Try.prog W = .ok (.slice Ad (out.length - (b + 1)) (c3 - (b + 1))) W := fun W => r3 rfl W .i64
                    have HTK : Hid (∀ W, Below wr.heap.size wr W → Row eStr W (.slice At (b + 1) c3) (out.take (b + 1))) := Lib.hid (fun W hW => hrT W (fun _ _ h => cell_below hW h))
                    have HDK : Hid (∀ W, Below wr.heap.size wr W → Row eStr W (.slice Ad (out.length - (b + 1)) (c3 - (b + 1))) (out.drop (b + 1))) := Lib.hid (fun W hW => by have := hrD W (fun _ _ h => cell_below hW h); rwa [List.take_length] at this)
                    have HPUT := Lib.hid (zinv_put HI.out (k := b + 1) (by omega) HGE.out HLE.out)
                    clear r2 r3 hrT hrD
                    go_wp2
                    go_region_law (first
                      | (refine step_append (E := eStr) wr.heap.size rfl (.tmp 52) (.tmp 55) 42 9 _ 16 rfl Try.underlying42 infoStr rfl (by decide) _ _ [] (out.take (b + 1)) rfl rfl (Own.lit' (wr.drewN _) wr.heap.size rfl wr.heap.size eStr 9 [] 0 rfl #[] rfl (Nat.le_refl _) (by simp)) (HTK.out _ ((below_drewN (Below.refl wr.heap.size wr) _).alloc (Nat.le_refl _) _)) (by simp [World.drewN] <;> omega) (by have := HTL.out.2; simp only [List.length_append, List.length_take, List.length_drop, List.length_nil, List.length_cons]; omega) ?_; intro v1 w1 ho1 hg1 hat1; rw [List.nil_append] at ho1; have HO1 := Lib.hid ho1; have HB1 : Hid (Below wr.heap.size wr w1) := Lib.hid (below_app ((below_drewN (Below.refl wr.heap.size wr) _).alloc (Nat.le_refl _) _) (by simp [World.drewN] <;> omega) (Own.lit' (wr.drewN _) wr.heap.size rfl wr.heap.size eStr 9 [] 0 rfl #[] rfl (Nat.le_refl _) (by simp)) hg1); clear ho1 hg1 hat1)
                      | (refine step_append (E := eStr) wr.heap.size rfl (.tmp 52) (.tmp 55) 42 9 _ 16 rfl Try.underlying42 infoStr rfl (by decide) _ _ [] (out.take (b + 1)) rfl rfl ((Own.lit' (wr.drewN _) wr.heap.size rfl wr.heap.size eStr 9 [] 0 rfl #[] rfl (Nat.le_refl _) (by simp)).alloc _) (HTK.out _ (((below_drewN (Below.refl wr.heap.size wr) _).alloc (Nat.le_refl _) _).alloc (by simp [World.drewN] <;> omega) _)) (by simp [World.drewN] <;> omega) (by have := HTL.out.2; simp only [List.length_append, List.length_take, List.length_drop, List.length_nil, List.length_cons]; omega) ?_; intro v1 w1 ho1 hg1 hat1; rw [List.nil_append] at ho1; have HO1 := Lib.hid ho1; have HB1 : Hid (Below wr.heap.size wr w1) := Lib.hid (below_app (((below_drewN (Below.refl wr.heap.size wr) _).alloc (Nat.le_refl _) _).alloc (by simp [World.drewN] <;> omega) _) (by simp [World.drewN] <;> omega) ((Own.lit' (wr.drewN _) wr.heap.size rfl wr.heap.size eStr 9 [] 0 rfl #[] rfl (Nat.le_refl _) (by simp)).alloc _) hg1); have hgq : World.grownBy _ w1 (some wr.heap.size) := hg1; have HZ1 := Lib.hid ((Own.lit' ((wr.drewN _).alloc (.cells #[] 9)) (wr.heap.size + 1) (by simp [World.drewN] <;> omega) 0 eStr 9 [s] 1 rfl #[.string s] rfl (Nat.zero_le _) (by simp)).kept hgq (.inr (by simp [Value.ownBlock]))).row; clear ho1 hg1 hat1)
                      | (refine step_append (E := eStr) wr.heap.size rfl (.tmp 52) (.tmp 55) 42 9 _ 16 rfl Try.underlying42 infoStr rfl (by decide) _ _ [] (out.take (b + 1)) rfl rfl (Own.lit' ((wr.drewN _).alloc _) (wr.heap.size + 1) (by simp [World.drewN] <;> omega) wr.heap.size eStr 9 [] 0 rfl #[] rfl (by simp [World.drewN] <;> omega) (by simp)) (HTK.out _ (((below_drewN (Below.refl wr.heap.size wr) _).alloc (Nat.le_refl _) _).alloc (by simp [World.drewN] <;> omega) _)) (by simp [World.drewN] <;> omega) (by have := HTL.out.2; simp only [List.length_append, List.length_take, List.length_drop, List.length_nil, List.length_cons]; omega) ?_; intro v1 w1 ho1 hg1 hat1; rw [List.nil_append] at ho1; have HO1 := Lib.hid ho1; have HB1 : Hid (Below wr.heap.size wr w1) := Lib.hid (below_app (((below_drewN (Below.refl wr.heap.size wr) _).alloc (Nat.le_refl _) _).alloc (by simp [World.drewN] <;> omega) _) (by simp [World.drewN] <;> omega) (Own.lit' ((wr.drewN _).alloc _) (wr.heap.size + 1) (by simp [World.drewN] <;> omega) wr.heap.size eStr 9 [] 0 rfl #[] rfl (by simp [World.drewN] <;> omega) (by simp)) hg1); have hgq : World.grownBy _ w1 (some (wr.heap.size + 1)) := hg1; have HZ1 := Lib.hid (((Own.lit' (wr.drewN _) wr.heap.size rfl 0 eStr 9 [s] 1 rfl #[.string s] rfl (Nat.zero_le _) (by simp)).alloc (.cells #[] 9)).kept hgq (.inr (by simp [Value.ownBlock]))).row; clear ho1 hg1 hat1)
                      | (refine step_append (E := eStr) wr.heap.size rfl (.tmp 56) (.tmp 58) 42 9 _ 16 rfl Try.underlying42 infoStr rfl (by decide) _ _ (out.take (b + 1)) [s] rfl rfl (HO1.out.alloc _) (Own.lit w1 0 eStr 9 [s] 1 rfl #[.string s] rfl (Nat.zero_le _) (by simp)).row (size_alloc_le HB1.out _) (by have := HTL.out.2; simp only [List.length_append, List.length_take, List.length_drop, List.length_nil, List.length_cons]; omega) ?_; intro v2 w2 ho2 hg2 hat2; have HO2 := Lib.hid ho2; have HB2 : Hid (Below wr.heap.size wr w2) := Lib.hid (below_app (HB1.out.alloc HB1.out.size _) (size_alloc_le HB1.out _) (HO1.out.alloc _) hg2); clear ho2 hg2 hat2)
                      | (refine step_append (E := eStr) wr.heap.size rfl (.tmp 56) (.tmp 58) 42 9 _ 16 rfl Try.underlying42 infoStr rfl (by decide) _ _ (out.take (b + 1)) [s] rfl rfl HO1.out HZ1.out HB1.out.size (by have := HTL.out.2; simp only [List.length_append, List.length_take, List.length_drop, List.length_nil, List.length_cons]; omega) ?_; intro v2 w2 ho2 hg2 hat2; have HO2 := Lib.hid ho2; have HB2 : Hid (Below wr.heap.size wr w2) := Lib.hid (below_app HB1.out HB1.out.size HO1.out hg2); clear ho2 hg2 hat2)
                      | (refine step_append (E := eStr) wr.heap.size rfl (.tmp 59) (.tmp 62) 42 9 _ 16 rfl Try.underlying42 infoStr rfl (by decide) _ _ (out.take (b + 1) ++ [s]) (out.drop (b + 1)) rfl rfl HO2.out (HDK.out _ HB2.out) HB2.out.size (by have := HTL.out.2; simp only [List.length_append, List.length_take, List.length_drop, List.length_nil, List.length_cons]; omega) ?_; intro v3 w3 ho3 hg3 hat3; have HO3 := Lib.hid (ho3.lower HW.out.size); have HB3 : Hid (Below wr.heap.size wr w3) := Lib.hid (below_app HB2.out HB2.out.size HO2.out hg3); clear ho3 hg3 hat3))
                    all_goals go_wp2
                    all_goals
                      go_roundw
                      case rel => exact ⟨t + 1, out.take (b + 1) ++ [s] ++ out.drop (b + 1), by omega, by go_num, HO3, Lib.hid (by rw [HTS.out, ← List.append_assoc]; exact HPUT.out), Lib.hid (by have h1 := HL.out; have h2 : out.length ≤ out.length := Nat.le_refl _; simp only [List.length_append, List.length_take, List.length_drop, List.length_cons, List.length_nil]; omega), Lib.hid (HW.out.trans (HB3.out.mono HW.out.size))⟩
                      case measure => simp [intOf]; omega
                  · have HS : Hid (ZInv out (F ++ zs.take (t + 1))) := Lib.hid (by
                      rw [HTS.out, ← List.append_assoc]
                      refine zinv_same HI.out ?_
                      rw [← same_eq hq, HY.out]
                      exact List.getElem_mem hb)
                    have HLS : Hid (out.length ≤ F.length + (t + 1)) := Lib.hid (by have := HL.out; omega)
                    clear hlty hy heq
                    go_wp2
                    go_roundw
                    case rel => exact ⟨t + 1, out, by omega, by go_num, HO, HS, HLS, HW⟩
                    case measure => simp [intOf]; omega
          · have HIE : Hid (ZInv out ((rdyL (xs.take (k + 1))).flatMap z)) := Lib.hid (by have := HI.out; rw [List.take_of_length_le (by omega)] at this; rw [HT2.out]; exact this)
            have HLE : Hid (out.length ≤ ((rdyL (xs.take (k + 1))).flatMap z).length) := Lib.hid (by rw [HT2.out, List.length_append]; have := HL.out; omega)
            go_wp2
            go_roundw
            case rel => exact ⟨k + 1, out, by omega, by go_num, HO, HIE, HLE, HW⟩
            case measure => simp [intOf]; omega
    · have HE : Hid (out = zonesL z xs) := Lib.hid (by
        have h := HI.out
        rw [List.take_of_length_le (by omega)] at h
        exact rises_unique h.1 (rises_zones _) (fun s => by rw [h.2 s]; exact (mem_zones _ _).symm))
      go_wp2
      go_ret
      exact ⟨⟨_, rfl, by rw [← HE.out]; exact HO.out.row⟩, HW.out⟩
end Go.Proofs.Ytcfgffkjbkpfhaa.Cand
