/- Addresses of bytes: addr.From, head.address and the document's. -/
import Derived.Test.YtmcgkknpkocgoaaGreatDoorBlk
import Derived.Test.YtmcgkknpkocgoaaGreatDoorAddr
import Derived.Test.YtmcgkknpkocgoaaGreatDoorErrNum
namespace Go.Proofs.YtmcgkknpkocgoaaGreatDoor.Head
open Go.RowKit Go.Proofs.YtmcgkknpkocgoaaGreatDoor.Mem Go.Proofs.YtmcgkknpkocgoaaGreatDoor.Num Go.Proofs.YtmcgkknpkocgoaaGreatDoor.Err
open Go.Proofs.YtmcgkknpkocgoaaGreatDoor.Addr hiding below_allocd
set_option linter.unusedVariables false
set_option linter.unusedSimpArgs false
set_option maxRecDepth 100000
attribute [-go_sem] Builtin.append_ loadCells loadCellsFrom storeCells
/-- Bytes, as many as an address has. -/
def pad (l : List UInt8) : List UInt8 := l ++ List.replicate (16 - l.length) 0
theorem pad_len (l : List UInt8) (h : l.length ≤ 16) : (pad l).length = 16 := by unfold pad; rw [List.length_append, List.length_replicate]; omega
theorem adCells_one (six : Bool) (b : List UInt8) : ∀ v ∈ adCells six b, v.oneCell' = true := by
  intro v hv
  unfold adCells at hv
  rcases List.mem_cons.1 hv with rfl | h
  · rfl
  · obtain ⟨x, _, rfl⟩ := List.mem_map.1 h; rfl
theorem adCells_len (six : Bool) (b : List UInt8) (hb : b.length = 16) : (adCells six b).length = 17 := by simp [adCells, hb]
theorem infoAd : (Tryz.prog.info? 24).map (·.size) = some 17 := by kernel_rfl
theorem splice_ad (six : Bool) (l : List UInt8) (h : l.length ≤ 16) : splice (adCells six (List.replicate 16 0)) 1 (eU8.all l) = adCells six (pad l) := by
  unfold splice adCells pad
  rw [show eU8.all l = l.map (fun x => Value.int .u8 (x.toNat : Int)) from all_one1 _ _ _]
  simp only [List.take_succ_cons, List.take_zero, List.length_map, List.map_append, List.map_replicate]
  rw [show 1 + l.length = l.length + 1 by omega, List.drop_succ_cons, List.drop_replicate]
  rfl
set_option maxHeartbeats 1000000 in
theorem from_calls (v : Value) (l : List UInt8) (w : World) (hv : Row eU8 w v l) (hl : l.length = 4 ∨ l.length = 16) :
    Calls Tryz.prog 30 #[v] w fun e w' => e = .returned (.tuple #[adV (decide (l.length = 16)) (pad l), .nilIface]) ∧ Below w.heap.size w w' := by
  obtain ⟨A, c, rfl, hc, hm, hr⟩ := hv.parts
  have HR := Lib.hid hr
  obtain ⟨n, hn⟩ : ∃ n, n = l.length := ⟨_, rfl⟩
  rw [← hn] at hl hc hr ⊢
  have HN := Lib.hid hn
  clear hr hv
  have hcsz : (Tryz.prog.info? 5).map (·.size) = some 1 := by kernel_rfl
  have hpos : ∀ ad, A = some ad → ∀ W, Below w.heap.size w W → ∀ j u, (eU8.all l)[j]? = some u → W.cell? (ad.add j) = some u := fun ad ha W hb j u hu => by
    have h1 := (HR.out).cells ad ha j u hu
    exact cell_below hb h1
  have HP := Lib.hid hpos
  clear hpos
  have hal : (eU8.all l).length = n := by rw [Enc.all_len, ← HN.out]; exact Nat.mul_one _
  have hsp := fun six => splice_ad six l (by omega)
  have hpl := pad_len l (by omega)
  have HAL := Lib.hid hal
  have HSP := Lib.hid hsp
  have HPL := Lib.hid hpl
  clear hal hsp hpl
  generalize pad l = p at HSP HPL ⊢
  rcases hl with rfl | rfl
  · clear hn
    have hd : decide (4 = 16) = false := by decide
    rw [hd]
    clear hd
    go_enter Tryz.func30, Tryz.ntmps30
    go_wp2_with (first
      | (refine wp_store_blk rfl 24 (.tmp 4) (.tmp 18) rfl (w.heap.size + 1) 0 (adCells false (List.replicate 16 0)) (adCells false (List.replicate 16 0)) 24 _ rfl rfl rfl (Blk.new _ _ _ _ _ rfl (by simp)) (by decide) infoAd (adCells_one _ _) (by decide) ?_; intro w1 hk1 ha1; have HK1 : Hid (Blk (w.heap.size + 1) (adCells false (List.replicate 16 0)) 24 w1) := Lib.hid hk1; have HR1 : Hid (Blk w.heap.size (adCells false (List.replicate 16 0)) 24 w1) := Lib.hid (((Blk.new w _ _ _ _ rfl rfl).alloc _).alt ha1 (by omega)); have HB1 : Hid (Below w.heap.size w w1) := Lib.hid (below_alt ((below_own_alloc w _).alloc (by simp) _) ha1 (by simp; omega) (fun k hk => by omega)); clear hk1 ha1)
      | (refine wpList_copy_splice rfl (.tmp 20) (.tmp 21) 39 39 rfl 5 Tryz.underlying39 hcsz _ _ _ _ _ _ rfl rfl (w.heap.size + 1) 1 (adCells false (List.replicate 16 0)) 24 HK1.out (eU8.all l) (by rw [HAL.out]; rfl) (fun h0 => ⟨rfl, by cases A with | none => (have := HR.out.cap; have := this.2.2 rfl; have := HN.out; omega) | some ad => exact ⟨ad, rfl, HP.out ad rfl _ HB1.out⟩⟩) (by rw [HAL.out]; decide) (eU8.all_one l) (w.heap.size + 1) w1 (Below.refl _ _) (Nat.le_refl _) ?_; intro w2 hg2 hb2; have HK2 : Hid (Blk (w.heap.size + 1) (adCells false p) 24 w2) := Lib.hid (by have := hg2.out; rw [HSP.out] at this; exact this); have HR2 : Hid (Blk w.heap.size (adCells false (List.replicate 16 0)) 24 w2) := Lib.hid ((hb2.block w.heap.size (by omega)).trans HR1.out); have HB2 : Hid (Below w.heap.size w w2) := Lib.hid (HB1.out.trans (hb2.mono (by omega))); have hld : (loadCells ⟨w.heap.size + 1, 0, none⟩ 17).run Tryz.prog w2 = .ok (adA false p) w2 := HK2.out.load 0 17 (adCells false p) (by rw [List.drop_zero, List.take_of_length_le (by rw [adCells_len _ _ HPL.out]; omega)]) (adCells_len _ _ HPL.out); clear hg2 hb2)
      | (refine wp_store_blk rfl 24 (.tmp 2) (.tmp 23) rfl w.heap.size 0 (adCells false (List.replicate 16 0)) (adCells false p) 24 _ rfl rfl rfl HR2.out (by rw [adCells_len _ _ HPL.out]; decide) (by rw [adCells_len _ _ HPL.out]; exact infoAd) (adCells_one _ _) (by rw [adCells_len _ _ HPL.out]; decide) ?_; intro w3 hk3 ha3; have HK3 := Lib.hid hk3; have HB3 : Hid (Below w.heap.size w w3) := Lib.hid (below_alt HB2.out ha3 HB2.out.size (fun k hk => by omega)); clear hk3 ha3))
    have hk3 := HK3.out
    rw [splice_all _ _ (by rw [adCells_len _ _ HPL.out]; decide)] at hk3
    have hres : (loadCells ⟨w.heap.size, 0, none⟩ 17).run Tryz.prog w3 = .ok (adA false p) w3 := hk3.load 0 17 (adCells false p) (by rw [List.drop_zero, List.take_of_length_le (by rw [adCells_len _ _ HPL.out]; omega)]) (adCells_len _ _ HPL.out)
    exact bodyPost_ret (v := .tuple #[adV false p, .nilIface]) (by simp [results, Tryz.results30, go_sem, hres]) rfl ⟨rfl, HB3.out⟩
  · clear hn
    have hd : decide (16 = 16) = true := by decide
    rw [hd]
    clear hd
    go_enter Tryz.func30, Tryz.ntmps30
    go_wp2_with (first
      | (refine wp_store_blk rfl 24 (.tmp 4) (.tmp 18) rfl (w.heap.size + 1) 0 (adCells false (List.replicate 16 0)) (adCells true (List.replicate 16 0)) 24 _ rfl rfl rfl (Blk.new _ _ _ _ _ rfl (by simp)) (by decide) infoAd (adCells_one _ _) (by decide) ?_; intro w1 hk1 ha1; have HK1 : Hid (Blk (w.heap.size + 1) (adCells true (List.replicate 16 0)) 24 w1) := Lib.hid hk1; have HR1 : Hid (Blk w.heap.size (adCells false (List.replicate 16 0)) 24 w1) := Lib.hid (((Blk.new w _ _ _ _ rfl rfl).alloc _).alt ha1 (by omega)); have HB1 : Hid (Below w.heap.size w w1) := Lib.hid (below_alt ((below_own_alloc w _).alloc (by simp) _) ha1 (by simp; omega) (fun k hk => by omega)); clear hk1 ha1)
      | (refine wpList_copy_splice rfl (.tmp 20) (.tmp 21) 39 39 rfl 5 Tryz.underlying39 hcsz _ _ _ _ _ _ rfl rfl (w.heap.size + 1) 1 (adCells true (List.replicate 16 0)) 24 HK1.out (eU8.all l) (by rw [HAL.out]; rfl) (fun h0 => ⟨rfl, by cases A with | none => (have := HR.out.cap; have := this.2.2 rfl; have := HN.out; omega) | some ad => exact ⟨ad, rfl, HP.out ad rfl _ HB1.out⟩⟩) (by rw [HAL.out]; decide) (eU8.all_one l) (w.heap.size + 1) w1 (Below.refl _ _) (Nat.le_refl _) ?_; intro w2 hg2 hb2; have HK2 : Hid (Blk (w.heap.size + 1) (adCells true p) 24 w2) := Lib.hid (by have := hg2.out; rw [HSP.out] at this; exact this); have HR2 : Hid (Blk w.heap.size (adCells false (List.replicate 16 0)) 24 w2) := Lib.hid ((hb2.block w.heap.size (by omega)).trans HR1.out); have HB2 : Hid (Below w.heap.size w w2) := Lib.hid (HB1.out.trans (hb2.mono (by omega))); have hld : (loadCells ⟨w.heap.size + 1, 0, none⟩ 17).run Tryz.prog w2 = .ok (adA true p) w2 := HK2.out.load 0 17 (adCells true p) (by rw [List.drop_zero, List.take_of_length_le (by rw [adCells_len _ _ HPL.out]; omega)]) (adCells_len _ _ HPL.out); clear hg2 hb2)
      | (refine wp_store_blk rfl 24 (.tmp 2) (.tmp 23) rfl w.heap.size 0 (adCells false (List.replicate 16 0)) (adCells true p) 24 _ rfl rfl rfl HR2.out (by rw [adCells_len _ _ HPL.out]; decide) (by rw [adCells_len _ _ HPL.out]; exact infoAd) (adCells_one _ _) (by rw [adCells_len _ _ HPL.out]; decide) ?_; intro w3 hk3 ha3; have HK3 := Lib.hid hk3; have HB3 : Hid (Below w.heap.size w w3) := Lib.hid (below_alt HB2.out ha3 HB2.out.size (fun k hk => by omega)); clear hk3 ha3))
    have hk3 := HK3.out
    rw [splice_all _ _ (by rw [adCells_len _ _ HPL.out]; decide)] at hk3
    have hres : (loadCells ⟨w.heap.size, 0, none⟩ 17).run Tryz.prog w3 = .ok (adA true p) w3 := hk3.load 0 17 (adCells true p) (by rw [List.drop_zero, List.take_of_length_le (by rw [adCells_len _ _ HPL.out]; omega)]) (adCells_len _ _ HPL.out)
    exact bodyPost_ret (v := .tuple #[adV true p, .nilIface]) (by simp [results, Tryz.results30, go_sem, hres]) rfl ⟨rfl, HB3.out⟩
end Go.Proofs.YtmcgkknpkocgoaaGreatDoor.Head
