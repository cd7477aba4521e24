/- The document's address; numbers of two bytes; sums that are right. -/
import Derived.Test.YtfoehgcamkmooaaDoorHeadA
import Derived.Test.YtfoehgcamkmooaaDoorPseudo2
import Derived.Test.YtfoehgcamkmooaaDoorSums5
namespace Go.Proofs.YtfoehgcamkmooaaDoor.Head
open Go.RowKit Go.Proofs.YtfoehgcamkmooaaDoor.Mem Go.Proofs.YtfoehgcamkmooaaDoor.Num Go.Proofs.YtfoehgcamkmooaaDoor.Err
open Go.Proofs.YtfoehgcamkmooaaDoor.Addr hiding below_allocd
open Go.Proofs.YtfoehgcamkmooaaDoor.Sums Go.Proofs.YtfoehgcamkmooaaDoor.SumsP Go.Proofs.YtfoehgcamkmooaaDoor.Pseudo
set_option linter.unusedVariables false
set_option linter.unusedSimpArgs false
set_option maxRecDepth 100000
attribute [-go_sem] Builtin.append_ loadCells loadCellsFrom storeCells
set_option maxHeartbeats 1000000 in
theorem refaddress_calls (v : Value) (l : List UInt8) (w : World) (hv : Row eU8 w v l) (hl : l.length = 4 ∨ l.length = 16) :
    Calls Tryd.prog 35 #[v] w fun e w' => e = .returned (adV (decide (l.length = 16)) (pad l)) ∧ Below w.heap.size w w' := by
  obtain ⟨A, c, rfl, hc, hm, hr⟩ := hv.parts
  have HR := Lib.hid hr
  obtain ⟨n, hn⟩ : ∃ n, n = l.length := ⟨_, rfl⟩
  rw [← hn] at hl hc hr ⊢
  have HN := Lib.hid hn
  clear hr hv
  have hcsz : (Tryd.prog.info? 5).map (·.size) = some 1 := by kernel_rfl
  have hpos : ∀ ad, A = some ad → ∀ W, Below w.heap.size w W → ∀ j u, (eU8.all l)[j]? = some u → W.cell? (ad.add j) = some u := fun ad ha W hb j u hu => by
    have h1 := (HR.out).cells ad ha j u hu
    exact cell_below hb h1
  have HP := Lib.hid hpos
  clear hpos
  have hal : (eU8.all l).length = n := by rw [Enc.all_len, ← HN.out]; exact Nat.mul_one _
  have hsp := fun six => splice_ad six l (by omega)
  have hpl := pad_len l (by omega)
  have HAL := Lib.hid hal
  have HSP := Lib.hid hsp
  have HPL := Lib.hid hpl
  clear hal hsp hpl
  generalize pad l = p at HSP HPL ⊢
  rcases hl with rfl | rfl
  · clear hn
    have hd : decide (4 = 16) = false := by decide
    rw [hd]
    clear hd
    go_enter Tryd.func35, Tryd.ntmps35
    go_wp2_with (first
      | (refine wp_store_blk rfl 27 (.tmp 3) (.tmp 7) rfl (w.heap.size + 1) 0 (adCells false (List.replicate 16 0)) (adCells false (List.replicate 16 0)) 27 _ rfl rfl rfl (Blk.new _ _ _ _ _ rfl (by simp)) (by decide) infoAd (adCells_one _ _) (by decide) ?_; intro w1 hk1 ha1; have HK1 : Hid (Blk (w.heap.size + 1) (adCells false (List.replicate 16 0)) 27 w1) := Lib.hid hk1; have HR1 : Hid (Blk w.heap.size (adCells false (List.replicate 16 0)) 27 w1) := Lib.hid (((Blk.new w _ _ _ _ rfl rfl).alloc _).alt ha1 (by omega)); have HB1 : Hid (Below w.heap.size w w1) := Lib.hid (below_alt ((below_own_alloc w _).alloc (by simp) _) ha1 (by simp; omega) (fun k hk => by omega)); clear hk1 ha1)
      | (refine wpList_copy_splice rfl (.tmp 9) (.tmp 10) 22 22 rfl 5 Tryd.underlying22 hcsz _ _ _ _ _ _ rfl rfl (w.heap.size + 1) 1 (adCells false (List.replicate 16 0)) 27 HK1.out (eU8.all l) (by rw [HAL.out]; rfl) (fun h0 => ⟨rfl, by cases A with | none => (have := HR.out.cap; have := this.2.2 rfl; have := HN.out; omega) | some ad => exact ⟨ad, rfl, HP.out ad rfl _ HB1.out⟩⟩) (by rw [HAL.out]; decide) (eU8.all_one l) (w.heap.size + 1) w1 (Below.refl _ _) (Nat.le_refl _) ?_; intro w2 hg2 hb2; have HK2 : Hid (Blk (w.heap.size + 1) (adCells false p) 27 w2) := Lib.hid (by have := hg2.out; rw [HSP.out] at this; exact this); have HR2 : Hid (Blk w.heap.size (adCells false (List.replicate 16 0)) 27 w2) := Lib.hid ((hb2.block w.heap.size (by omega)).trans HR1.out); have HB2 : Hid (Below w.heap.size w w2) := Lib.hid (HB1.out.trans (hb2.mono (by omega))); have hld : (loadCells ⟨w.heap.size + 1, 0, none⟩ 17).run Tryd.prog w2 = .ok (adA false p) w2 := HK2.out.load 0 17 (adCells false p) (by rw [List.drop_zero, List.take_of_length_le (by rw [adCells_len _ _ HPL.out]; omega)]) (adCells_len _ _ HPL.out); clear hg2 hb2)
      | (refine wp_store_blk rfl 27 (.tmp 2) (.tmp 12) rfl w.heap.size 0 (adCells false (List.replicate 16 0)) (adCells false p) 27 _ rfl rfl rfl HR2.out (by rw [adCells_len _ _ HPL.out]; decide) (by rw [adCells_len _ _ HPL.out]; exact infoAd) (adCells_one _ _) (by rw [adCells_len _ _ HPL.out]; decide) ?_; intro w3 hk3 ha3; have HK3 := Lib.hid hk3; have HB3 : Hid (Below w.heap.size w w3) := Lib.hid (below_alt HB2.out ha3 HB2.out.size (fun k hk => by omega)); clear hk3 ha3))
    have hk3 := HK3.out
    rw [splice_all _ _ (by rw [adCells_len _ _ HPL.out]; decide)] at hk3
    have hres : (loadCells ⟨w.heap.size, 0, none⟩ 17).run Tryd.prog w3 = .ok (adA false p) w3 := hk3.load 0 17 (adCells false p) (by rw [List.drop_zero, List.take_of_length_le (by rw [adCells_len _ _ HPL.out]; omega)]) (adCells_len _ _ HPL.out)
    exact bodyPost_ret (v := adV false p) (by simp [results, Tryd.results35, go_sem, hres]) rfl ⟨rfl, HB3.out⟩
  · clear hn
    have hd : decide (16 = 16) = true := by decide
    rw [hd]
    clear hd
    go_enter Tryd.func35, Tryd.ntmps35
    go_wp2_with (first
      | (refine wp_store_blk rfl 27 (.tmp 3) (.tmp 7) rfl (w.heap.size + 1) 0 (adCells false (List.replicate 16 0)) (adCells true (List.replicate 16 0)) 27 _ rfl rfl rfl (Blk.new _ _ _ _ _ rfl (by simp)) (by decide) infoAd (adCells_one _ _) (by decide) ?_; intro w1 hk1 ha1; have HK1 : Hid (Blk (w.heap.size + 1) (adCells true (List.replicate 16 0)) 27 w1) := Lib.hid hk1; have HR1 : Hid (Blk w.heap.size (adCells false (List.replicate 16 0)) 27 w1) := Lib.hid (((Blk.new w _ _ _ _ rfl rfl).alloc _).alt ha1 (by omega)); have HB1 : Hid (Below w.heap.size w w1) := Lib.hid (below_alt ((below_own_alloc w _).alloc (by simp) _) ha1 (by simp; omega) (fun k hk => by omega)); clear hk1 ha1)
      | (refine wpList_copy_splice rfl (.tmp 9) (.tmp 10) 22 22 rfl 5 Tryd.underlying22 hcsz _ _ _ _ _ _ rfl rfl (w.heap.size + 1) 1 (adCells true (List.replicate 16 0)) 27 HK1.out (eU8.all l) (by rw [HAL.out]; rfl) (fun h0 => ⟨rfl, by cases A with | none => (have := HR.out.cap; have := this.2.2 rfl; have := HN.out; omega) | some ad => exact ⟨ad, rfl, HP.out ad rfl _ HB1.out⟩⟩) (by rw [HAL.out]; decide) (eU8.all_one l) (w.heap.size + 1) w1 (Below.refl _ _) (Nat.le_refl _) ?_; intro w2 hg2 hb2; have HK2 : Hid (Blk (w.heap.size + 1) (adCells true p) 27 w2) := Lib.hid (by have := hg2.out; rw [HSP.out] at this; exact this); have HR2 : Hid (Blk w.heap.size (adCells false (List.replicate 16 0)) 27 w2) := Lib.hid ((hb2.block w.heap.size (by omega)).trans HR1.out); have HB2 : Hid (Below w.heap.size w w2) := Lib.hid (HB1.out.trans (hb2.mono (by omega))); have hld : (loadCells ⟨w.heap.size + 1, 0, none⟩ 17).run Tryd.prog w2 = .ok (adA true p) w2 := HK2.out.load 0 17 (adCells true p) (by rw [List.drop_zero, List.take_of_length_le (by rw [adCells_len _ _ HPL.out]; omega)]) (adCells_len _ _ HPL.out); clear hg2 hb2)
      | (refine wp_store_blk rfl 27 (.tmp 2) (.tmp 12) rfl w.heap.size 0 (adCells false (List.replicate 16 0)) (adCells true p) 27 _ rfl rfl rfl HR2.out (by rw [adCells_len _ _ HPL.out]; decide) (by rw [adCells_len _ _ HPL.out]; exact infoAd) (adCells_one _ _) (by rw [adCells_len _ _ HPL.out]; decide) ?_; intro w3 hk3 ha3; have HK3 := Lib.hid hk3; have HB3 : Hid (Below w.heap.size w w3) := Lib.hid (below_alt HB2.out ha3 HB2.out.size (fun k hk => by omega)); clear hk3 ha3))
    have hk3 := HK3.out
    rw [splice_all _ _ (by rw [adCells_len _ _ HPL.out]; decide)] at hk3
    have hres : (loadCells ⟨w.heap.size, 0, none⟩ 17).run Tryd.prog w3 = .ok (adA true p) w3 := hk3.load 0 17 (adCells true p) (by rw [List.drop_zero, List.take_of_length_le (by rw [adCells_len _ _ HPL.out]; omega)]) (adCells_len _ _ HPL.out)
    exact bodyPost_ret (v := adV true p) (by simp [results, Tryd.results35, go_sem, hres]) rfl ⟨rfl, HB3.out⟩
theorem join8 (x y : UInt8) : bits .or .i64 ((x.toNat : Int) * 256) (y.toNat : Int) = (x.toNat : Int) * 256 + (y.toNat : Int) := by
  have h1 := x.toNat_lt
  have h2 := y.toNat_lt
  exact bits_join .i64 63 (by decide) (fun n h0 h1 => by rw [IntKind.wrap_i64]; omega) 8 _ _ (by omega) (by omega) (by omega) (by omega) (by omega) (by omega)
/-- The number of two bytes at a place. -/
def twoN (l : List UInt8) (i : Nat) : Nat := (l.getD i 0).toNat * 256 + (l.getD (i + 1) 0).toNat
theorem twoN_lt (l : List UInt8) (i : Nat) : twoN l i < 65536 := by
  have h1 := (l.getD i 0).toNat_lt
  have h2 := (l.getD (i + 1) 0).toNat_lt
  unfold twoN; omega
theorem getD_at (l : List UInt8) (i : Nat) (h : i < l.length) : l.getD i 0 = l[i] := by rw [List.getD_eq_getElem?_getD, List.getElem?_eq_getElem h]; rfl
theorem two_calls (v : Value) (l : List UInt8) (i : Nat) (I : Int) (w : World) (hv : Row eU8 w v l) (hI : I = (i : Int)) (hl : i + 1 < l.length) (hm : l.length ≤ 1000000) :
    Calls Tryd.prog 29 #[v, .int .i64 I] w fun e w' => e = .returned (.int .i64 (twoN l i : Int)) ∧ ∃ n, w' = w.drewN n := by
  subst hI
  obtain ⟨A, c, rfl, hc, hmm, hr⟩ := hv.parts
  clear hv
  obtain ⟨ad, rfl, h0⟩ := hr.atU8 (k := i) (by omega)
  obtain ⟨ad', had, h1⟩ := hr.atU8 (k := i + 1) (by omega)
  cases had
  have e0 := getD_at l i (by omega)
  have e1 := getD_at l (i + 1) (by omega)
  unfold twoN
  rw [e0, e1]
  have b0 := l[i].toNat_lt
  have b1 := l[i + 1].toNat_lt
  have k0 : (i : Int) < (l.length : Int) := by omega
  have k1 : (i : Int) + 1 < (l.length : Int) := by omega
  clear e0 e1 hr
  generalize l[i] = x at h0 b0 ⊢
  generalize l[i + 1] = y at h1 b1 ⊢
  have hj := join8 x y
  have hx : (x.toNat : Int) < 256 := by omega
  have hy : (y.toNat : Int) < 256 := by omega
  have w1 : IntKind.i64.wrap ((i : Int) + 1) = (i : Int) + 1 := by rw [IntKind.wrap_i64]; omega
  have w2 : IntKind.i64.wrap ((x.toNat : Int) * 256) = (x.toNat : Int) * 256 := by rw [IntKind.wrap_i64]; omega
  have w4 : IntKind.i64.wrap (x.toNat : Int) = (x.toNat : Int) := by rw [IntKind.wrap_i64]; omega
  have w5 : IntKind.i64.wrap (y.toNat : Int) = (y.toNat : Int) := by rw [IntKind.wrap_i64]; omega
  have h1' : w.cell? ⟨ad.block, ad.off + (i + 1), none⟩ = some (.int .u8 (y.toNat : Int)) := h1
  have w6 : ((i : Int) + 1).toNat = i + 1 := by omega
  have w7 : 0 ≤ (i : Int) + 1 := by omega
  clear b0 b1
  go_enter Tryd.func29, Tryd.ntmps29
  go_wp2
  go_quiet (fail)
  go_wp2
  go_ret
  exact ⟨ret_i64 (by simp), _, rfl⟩
theorem pair2_calls (v : Value) (l : List UInt8) (i : Nat) (I : Int) (w : World) (hv : Row eU8 w v l) (hI : I = (i : Int)) (hl : i + 1 < l.length) (hm : l.length ≤ 1000000) :
    Calls Tryd.prog 33 #[v, .int .i64 I] w fun e w' => e = .returned (.int .i64 (twoN l i : Int)) ∧ ∃ n, w' = w.drewN n := by
  subst hI
  obtain ⟨A, c, rfl, hc, hmm, hr⟩ := hv.parts
  clear hv
  obtain ⟨ad, rfl, h0⟩ := hr.atU8 (k := i) (by omega)
  obtain ⟨ad', had, h1⟩ := hr.atU8 (k := i + 1) (by omega)
  cases had
  have e0 := getD_at l i (by omega)
  have e1 := getD_at l (i + 1) (by omega)
  unfold twoN
  rw [e0, e1]
  have b0 := l[i].toNat_lt
  have b1 := l[i + 1].toNat_lt
  have k0 : (i : Int) < (l.length : Int) := by omega
  have k1 : (i : Int) + 1 < (l.length : Int) := by omega
  clear e0 e1 hr
  generalize l[i] = x at h0 b0 ⊢
  generalize l[i + 1] = y at h1 b1 ⊢
  have hx : (x.toNat : Int) < 256 := by omega
  have hy : (y.toNat : Int) < 256 := by omega
  have w1 : IntKind.i64.wrap ((i : Int) + 1) = (i : Int) + 1 := by rw [IntKind.wrap_i64]; omega
  have w2 : IntKind.i64.wrap ((x.toNat : Int) * 256) = (x.toNat : Int) * 256 := by rw [IntKind.wrap_i64]; omega
  have w3 : IntKind.i64.wrap ((x.toNat : Int) * 256 + (y.toNat : Int)) = (x.toNat : Int) * 256 + (y.toNat : Int) := by rw [IntKind.wrap_i64]; omega
  have w4 : IntKind.i64.wrap (x.toNat : Int) = (x.toNat : Int) := by rw [IntKind.wrap_i64]; omega
  have w5 : IntKind.i64.wrap (y.toNat : Int) = (y.toNat : Int) := by rw [IntKind.wrap_i64]; omega
  have h1' : w.cell? ⟨ad.block, ad.off + (i + 1), none⟩ = some (.int .u8 (y.toNat : Int)) := h1
  have w6 : ((i : Int) + 1).toNat = i + 1 := by omega
  have w7 : 0 ≤ (i : Int) + 1 := by omega
  clear b0 b1
  go_enter Tryd.func33, Tryd.ntmps33
  go_wp2
  go_quiet (fail)
  go_wp2
  go_ret
  exact ⟨ret_i64 (by simp), _, rfl⟩
/-- Is a folded sum right? -/
def goodN (n : Int) : Bool := foldN n == 65535
theorem right_calls (n : Int) (w : World) (hn : n ≤ 9223372036854775807) : Calls Tryd.prog 52 #[.int .i64 n] w fun e w' => e = .returned (.bool (goodN n)) ∧ w = w' := by
  have KF := Lib.hid (fun W => fold_calls n W hn)
  unfold goodN
  generalize foldN n = m at KF ⊢
  go_enter Tryd.func52, Tryd.ntmps52
  go_wp2_with (go_at_call 64; ((with_reducible refine (KF.out _).mono ?_); rintro e w1 ⟨rfl, rfl⟩))
  go_ret
  exact ⟨rfl, rfl⟩
theorem good_calls (v : Value) (l : List UInt8) (w : World) (hv : Row eU8 w v l) (hl : l.length ≤ 1000000) : Calls Tryd.prog 34 #[v] w fun e w' => e = .returned (.bool (goodN (total l : Nat))) ∧ w = w' := by
  have ht := total_le l
  have KT := Lib.hid (fun W hv => reftotal_calls v l W hv hl)
  have KF := Lib.hid (fun W => reffold_calls (total l : Nat) W (by omega) (by omega))
  unfold goodN
  generalize foldN (total l : Nat) = m at KF ⊢
  have HV := Lib.hid hv
  clear hv ht
  go_enter Tryd.func34, Tryd.ntmps34
  go_wp2_with (first
    | (go_at_call 59; ((with_reducible refine (KT.out _ HV.out).mono ?_); rintro e w1 ⟨rfl, rfl⟩))
    | (go_at_call 58; ((with_reducible refine (KF.out _).mono ?_); rintro e w1 ⟨rfl, rfl⟩)))
  go_ret
  exact ⟨rfl, rfl⟩
end Go.Proofs.YtfoehgcamkmooaaDoor.Head
