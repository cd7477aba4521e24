/- Addresses of bytes: addr.From, head.address and the document's. -/
import Derived.Test.YtfoehgcamkmooaaDoorBlk
import Derived.Test.YtfoehgcamkmooaaDoorAddr
import Derived.Test.YtfoehgcamkmooaaDoorErrNum
namespace Go.Proofs.YtfoehgcamkmooaaDoor.Head
open Go.RowKit Go.Proofs.YtfoehgcamkmooaaDoor.Mem Go.Proofs.YtfoehgcamkmooaaDoor.Num Go.Proofs.YtfoehgcamkmooaaDoor.Err
open Go.Proofs.YtfoehgcamkmooaaDoor.Addr hiding below_allocd
set_option linter.unusedVariables false
set_option linter.unusedSimpArgs false
set_option maxRecDepth 100000
attribute [-go_sem] Builtin.append_ loadCells loadCellsFrom storeCells
/-- Bytes, as many as an address has. -/
def pad (l : List UInt8) : List UInt8 := l ++ List.replicate (16 - l.length) 0
theorem pad_len (l : List UInt8) (h : l.length ≤ 16) : (pad l).length = 16 := by unfold pad; rw [List.length_append, List.length_replicate]; omega
theorem adCells_one (six : Bool) (b : List UInt8) : ∀ v ∈ adCells six b, v.oneCell' = true := by
  intro v hv
  unfold adCells at hv
  rcases List.mem_cons.1 hv with rfl | h
  · rfl
  · obtain ⟨x, _, rfl⟩ := List.mem_map.1 h; rfl
theorem adCells_len (six : Bool) (b : List UInt8) (hb : b.length = 16) : (adCells six b).length = 17 := by simp [adCells, hb]
theorem infoAd : (Tryd.prog.info? 27).map (·.size) = some 17 := by kernel_rfl
theorem splice_ad (six : Bool) (l : List UInt8) (h : l.length ≤ 16) : splice (adCells six (List.replicate 16 0)) 1 (eU8.all l) = adCells six (pad l) := by
  unfold splice adCells pad
  rw [all_u8]
  simp only [List.take_succ_cons, List.take_zero, List.length_map, List.map_append, List.map_replicate]
  rw [show 1 + l.length = l.length + 1 by omega, List.drop_succ_cons, List.drop_replicate]
  rfl
set_option maxHeartbeats 1000000 in
theorem from_calls (v : Value) (l : List UInt8) (w : World) (hv : Row eU8 w v l) (hl : l.length = 4 ∨ l.length = 16) :
    Calls Tryd.prog 75 #[v] w fun e w' => e = .returned (.tuple #[adV (decide (l.length = 16)) (pad l), .nilIface]) ∧ Below w.heap.size w w' := by
  obtain ⟨A, c, rfl, hc, hm, hr⟩ := hv.parts
  have HR := Lib.hid hr
  obtain ⟨n, hn⟩ : ∃ n, n = l.length := ⟨_, rfl⟩
  rw [← hn] at hl hc hr ⊢
  have HN := Lib.hid hn
  clear hr hv
  have hcsz : (Tryd.prog.info? 5).map (·.size) = some 1 := by kernel_rfl
  have hpos : ∀ ad, A = some ad → ∀ W, Below w.heap.size w W → ∀ j u, (eU8.all l)[j]? = some u → W.cell? (ad.add j) = some u := fun ad ha W hb j u hu => by
    have h1 := (HR.out).cells ad ha j u hu
    exact cell_below hb h1
  have HP := Lib.hid hpos
  clear hpos
  have hal : (eU8.all l).length = n := by rw [Enc.all_len, ← HN.out]; exact Nat.mul_one _
  have hsp := fun six => splice_ad six l (by omega)
  have hpl := pad_len l (by omega)
  have HAL := Lib.hid hal
  have HSP := Lib.hid hsp
  have HPL := Lib.hid hpl
  clear hal hsp hpl
  generalize pad l = p at HSP HPL ⊢
  rcases hl with rfl | rfl
  · clear hn
    have hd : decide (4 = 16) = false := by decide
    rw [hd]
    clear hd
    go_enter Tryd.func75, Tryd.ntmps75
    go_wp2_with (first
      | (refine wp_store_blk rfl 27 (.tmp 4) (.tmp 18) rfl (w.heap.size + 1) 0 (adCells false (List.replicate 16 0)) (adCells false (List.replicate 16 0)) 27 _ rfl rfl rfl (Blk.new _ _ _ _ _ rfl (by simp)) (by decide) infoAd (adCells_one _ _) (by decide) ?_; intro w1 hk1 ha1; have HK1 : Hid (Blk (w.heap.size + 1) (adCells false (List.replicate 16 0)) 27 w1) := Lib.hid hk1; have HR1 : Hid (Blk w.heap.size (adCells false (List.replicate 16 0)) 27 w1) := Lib.hid (((Blk.new w _ _ _ _ rfl rfl).alloc _).alt ha1 (by omega)); have HB1 : Hid (Below w.heap.size w w1) := Lib.hid (below_alt ((below_own_alloc w _).alloc (by simp) _) ha1 (by simp; omega) (fun k hk => by omega)); clear hk1 ha1)
      | (refine wpList_copy_splice rfl (.tmp 20) (.tmp 21) 22 22 rfl 5 Tryd.underlying22 hcsz _ _ _ _ _ _ rfl rfl (w.heap.size + 1) 1 (adCells false (List.replicate 16 0)) 27 HK1.out (eU8.all l) (by rw [HAL.out]; rfl) (fun h0 => ⟨rfl, by cases A with | none => (have := HR.out.cap; have := this.2.2 rfl; have := HN.out; omega) | some ad => exact ⟨ad, rfl, HP.out ad rfl _ HB1.out⟩⟩) (by rw [HAL.out]; decide) (eU8.all_one l) (w.heap.size + 1) w1 (Below.refl _ _) (Nat.le_refl _) ?_; intro w2 hg2 hb2; have HK2 : Hid (Blk (w.heap.size + 1) (adCells false p) 27 w2) := Lib.hid (by have := hg2.out; rw [HSP.out] at this; exact this); have HR2 : Hid (Blk w.heap.size (adCells false (List.replicate 16 0)) 27 w2) := Lib.hid ((hb2.block w.heap.size (by omega)).trans HR1.out); have HB2 : Hid (Below w.heap.size w w2) := Lib.hid (HB1.out.trans (hb2.mono (by omega))); have hld : (loadCells ⟨w.heap.size + 1, 0, none⟩ 17).run Tryd.prog w2 = .ok (adA false p) w2 := HK2.out.load 0 17 (adCells false p) (by rw [List.drop_zero, List.take_of_length_le (by rw [adCells_len _ _ HPL.out]; omega)]) (adCells_len _ _ HPL.out); clear hg2 hb2)
      | (refine wp_store_blk rfl 27 (.tmp 2) (.tmp 23) rfl w.heap.size 0 (adCells false (List.replicate 16 0)) (adCells false p) 27 _ rfl rfl rfl HR2.out (by rw [adCells_len _ _ HPL.out]; decide) (by rw [adCells_len _ _ HPL.out]; exact infoAd) (adCells_one _ _) (by rw [adCells_len _ _ HPL.out]; decide) ?_; intro w3 hk3 ha3; have HK3 := Lib.hid hk3; have HB3 : Hid (Below w.heap.size w w3) := Lib.hid (below_alt HB2.out ha3 HB2.out.size (fun k hk => by omega)); clear hk3 ha3))
    have hk3 := HK3.out
    rw [splice_all _ _ (by rw [adCells_len _ _ HPL.out]; decide)] at hk3
    have hres : (loadCells ⟨w.heap.size, 0, none⟩ 17).run Tryd.prog w3 = .ok (adA false p) w3 := hk3.load 0 17 (adCells false p) (by rw [List.drop_zero, List.take_of_length_le (by rw [adCells_len _ _ HPL.out]; omega)]) (adCells_len _ _ HPL.out)
    exact bodyPost_ret (v := .tuple #[adV false p, .nilIface]) (by simp [results, Tryd.results75, go_sem, hres]) rfl ⟨rfl, HB3.out⟩
  · clear hn
    have hd : decide (16 = 16) = true := by decide
    rw [hd]
    clear hd
    go_enter Tryd.func75, Tryd.ntmps75
    go_wp2_with (first
      | (refine wp_store_blk rfl 27 (.tmp 4) (.tmp 18) rfl (w.heap.size + 1) 0 (adCells false (List.replicate 16 0)) (adCells true (List.replicate 16 0)) 27 _ rfl rfl rfl (Blk.new _ _ _ _ _ rfl (by simp)) (by decide) infoAd (adCells_one _ _) (by decide) ?_; intro w1 hk1 ha1; have HK1 : Hid (Blk (w.heap.size + 1) (adCells true (List.replicate 16 0)) 27 w1) := Lib.hid hk1; have HR1 : Hid (Blk w.heap.size (adCells false (List.replicate 16 0)) 27 w1) := Lib.hid (((Blk.new w _ _ _ _ rfl rfl).alloc _).alt ha1 (by omega)); have HB1 : Hid (Below w.heap.size w w1) := Lib.hid (below_alt ((below_own_alloc w _).alloc (by simp) _) ha1 (by simp; omega) (fun k hk => by omega)); clear hk1 ha1)
      | (refine wpList_copy_splice rfl (.tmp 20) (.tmp 21) 22 22 rfl 5 Tryd.underlying22 hcsz _ _ _ _ _ _ rfl rfl (w.heap.size + 1) 1 (adCells true (List.replicate 16 0)) 27 HK1.out (eU8.all l) (by rw [HAL.out]; rfl) (fun h0 => ⟨rfl, by cases A with | none => (have := HR.out.cap; have := this.2.2 rfl; have := HN.out; omega) | some ad => exact ⟨ad, rfl, HP.out ad rfl _ HB1.out⟩⟩) (by rw [HAL.out]; decide) (eU8.all_one l) (w.heap.size + 1) w1 (Below.refl _ _) (Nat.le_refl _) ?_; intro w2 hg2 hb2; have HK2 : Hid (Blk (w.heap.size + 1) (adCells true p) 27 w2) := Lib.hid (by have := hg2.out; rw [HSP.out] at this; exact this); have HR2 : Hid (Blk w.heap.size (adCells false (List.replicate 16 0)) 27 w2) := Lib.hid ((hb2.block w.heap.size (by omega)).trans HR1.out); have HB2 : Hid (Below w.heap.size w w2) := Lib.hid (HB1.out.trans (hb2.mono (by omega))); have hld : (loadCells ⟨w.heap.size + 1, 0, none⟩ 17).run Tryd.prog w2 = .ok (adA true p) w2 := HK2.out.load 0 17 (adCells true p) (by rw [List.drop_zero, List.take_of_length_le (by rw [adCells_len _ _ HPL.out]; omega)]) (adCells_len _ _ HPL.out); clear hg2 hb2)
      | (refine wp_store_blk rfl 27 (.tmp 2) (.tmp 23) rfl w.heap.size 0 (adCells false (List.replicate 16 0)) (adCells true p) 27 _ rfl rfl rfl HR2.out (by rw [adCells_len _ _ HPL.out]; decide) (by rw [adCells_len _ _ HPL.out]; exact infoAd) (adCells_one _ _) (by rw [adCells_len _ _ HPL.out]; decide) ?_; intro w3 hk3 ha3; have HK3 := Lib.hid hk3; have HB3 : Hid (Below w.heap.size w w3) := Lib.hid (below_alt HB2.out ha3 HB2.out.size (fun k hk => by omega)); clear hk3 ha3))
    have hk3 := HK3.out
    rw [splice_all _ _ (by rw [adCells_len _ _ HPL.out]; decide)] at hk3
    have hres : (loadCells ⟨w.heap.size, 0, none⟩ 17).run Tryd.prog w3 = .ok (adA true p) w3 := hk3.load 0 17 (adCells true p) (by rw [List.drop_zero, List.take_of_length_le (by rw [adCells_len _ _ HPL.out]; omega)]) (adCells_len _ _ HPL.out)
    exact bodyPost_ret (v := .tuple #[adV true p, .nilIface]) (by simp [results, Tryd.results75, go_sem, hres]) rfl ⟨rfl, HB3.out⟩
set_option maxHeartbeats 1000000 in
theorem address_calls (v : Value) (l : List UInt8) (w : World) (hv : Row eU8 w v l) (hl : l.length = 4 ∨ l.length = 16) :
    Calls Tryd.prog 54 #[v] w fun e w' => e = .returned (adV (decide (l.length = 16)) (pad l)) ∧ Below w.heap.size w w' := by
  have hpl := pad_len l (by omega)
  have KF := Lib.hid (fun W hv => from_calls v l W hv hl)
  have HV := Lib.hid hv
  clear hv hl
  generalize decide (l.length = 16) = six at KF
  generalize pad l = p at KF hpl
  have HPL := Lib.hid hpl
  clear hpl
  go_enter Tryd.func54, Tryd.ntmps54
  go_wp2_with (first
    | (go_at_call 75; ((with_reducible refine (KF.out _ (HV.out.alloc _)).mono ?_); rintro e w1 ⟨rfl, hb1⟩; have HR1 : Hid (Blk w.heap.size (adCells false (List.replicate 16 0)) 27 w1) := Lib.hid ((Blk.new w _ _ _ _ rfl rfl).below hb1); have HB1 := Lib.hid (below_allocd hb1); have HLT := Lib.hid (show w.heap.size < w1.heap.size by have := hb1.size; simp at this; omega); clear hb1))
    | (refine wp_store_blk rfl 27 (.tmp 3) (.tmp 8) rfl w1.heap.size 0 (adCells false (List.replicate 16 0)) (adCells six p) 27 _ rfl rfl rfl (Blk.new _ _ _ _ _ rfl rfl) (by rw [adCells_len _ _ HPL.out]; decide) (by rw [adCells_len _ _ HPL.out]; exact infoAd) (adCells_one _ _) (by rw [adCells_len _ _ HPL.out]; decide) ?_; intro w2 hk2 ha2; rw [splice_all _ _ (by rw [adCells_len _ _ HPL.out]; decide)] at hk2; have hld : (loadCells ⟨w1.heap.size, 0, none⟩ 17).run Tryd.prog w2 = .ok (adA six p) w2 := hk2.load 0 17 (adCells six p) (by rw [List.drop_zero, List.take_of_length_le (by rw [adCells_len _ _ HPL.out]; omega)]) (adCells_len _ _ HPL.out); have HR2 := Lib.hid ((HR1.out.alloc _).alt ha2 (by have := HLT.out; omega)); have HB2 := Lib.hid (below_alt (HB1.out.alloc HB1.out.size _) ha2 (by have := HB1.out.size; simp; omega) (fun k hk => by have := HB1.out.size; omega)); clear hk2 ha2)
    | (refine wp_store_blk rfl 27 (.tmp 2) (.tmp 13) rfl w.heap.size 0 (adCells false (List.replicate 16 0)) (adCells six p) 27 _ rfl rfl rfl HR2.out (by rw [adCells_len _ _ HPL.out]; decide) (by rw [adCells_len _ _ HPL.out]; exact infoAd) (adCells_one _ _) (by rw [adCells_len _ _ HPL.out]; decide) ?_; intro w3 hk3 ha3; have HK3 := Lib.hid hk3; have HB3 : Hid (Below w.heap.size w w3) := Lib.hid (below_alt HB2.out ha3 HB2.out.size (fun k hk => by omega)); clear hk3 ha3))
  have hk3 := HK3.out
  rw [splice_all _ _ (by rw [adCells_len _ _ HPL.out]; decide)] at hk3
  have hres : (loadCells ⟨w.heap.size, 0, none⟩ 17).run Tryd.prog w3 = .ok (adA six p) w3 := hk3.load 0 17 (adCells six p) (by rw [List.drop_zero, List.take_of_length_le (by rw [adCells_len _ _ HPL.out]; omega)]) (adCells_len _ _ HPL.out)
  exact bodyPost_ret (v := adV six p) (by simp [results, Tryd.results54, go_sem, hres]) rfl ⟨rfl, HB3.out⟩
end Go.Proofs.YtfoehgcamkmooaaDoor.Head
