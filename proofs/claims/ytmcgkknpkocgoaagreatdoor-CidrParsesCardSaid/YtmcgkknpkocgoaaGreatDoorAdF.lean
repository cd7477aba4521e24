/- addr.Parse of a text with a colon; ports.Parse of the chapter's example. -/
import Derived.Test.YtmcgkknpkocgoaaGreatDoorAdD
import Derived.Outline
namespace Go.Proofs.YtmcgkknpkocgoaaGreatDoor.Ad
open Go.RowKit Go.Proofs.YtmcgkknpkocgoaaGreatDoor.Mem Go.Proofs.YtmcgkknpkocgoaaGreatDoor.Num Go.Proofs.YtmcgkknpkocgoaaGreatDoor.Err Go.Proofs.YtmcgkknpkocgoaaGreatDoor.AdP
open Go.Proofs.YtmcgkknpkocgoaaGreatDoor.Head (pad pad_len adCells_one adCells_len infoAd splice_ad)
open Go.Proofs.YtmcgkknpkocgoaaGreatDoor.Addr (adV adA adCells)
set_option linter.unusedVariables false
set_option linter.unusedSimpArgs false
set_option maxRecDepth 100000
attribute [-go_sem] Builtin.append_ loadCells loadCellsFrom storeCells
theorem contains_calls (ea : Addr) (s sub : ByteArray) (w : World) (hE : Env ea w) (hs : s.size ≤ 4294967000) :
    Calls Tryz.prog 85 #[.string s, .string sub] w fun e w' => e = .returned (.bool (Lib.contains s.data.toList sub.data.toList)) ∧ w' = w := by
  obtain ⟨m, hm⟩ := hE.mx
  exact Tryz.strings_Contains s sub m w (by omega) hm
theorem Mid.store0 {ea : Addr} {w W : World} (h : Mid ea w W) : (storeCells ⟨w.heap.size, 0, none⟩ zeroCs).run Tryz.prog W = .ok () W := h.store 0
theorem Mid.load0 {ea : Addr} {w W : World} (h : Mid ea w W) : (loadCells ⟨w.heap.size, 0, none⟩ 17).run Tryz.prog W = .ok zeroCs.toArray W := h.load 0
theorem cells_of (six : Bool) (b : List UInt8) : (Value.agg (adA six b)).cells = (adCells six b).toArray := rfl
theorem coloned_len (s b : List UInt8) (h : coloned s = some b) : b.length = 16 := by
  unfold coloned at h
  split at h
  · rename_i a c h1 h2
    split at h
    · cases h
    · rename_i hn
      injection h with h
      subst h
      have : ¬ (14 < a.length + c.length ∧ (Lib.cut s [58, 58]).2.2 = true) := fun e => hn (.inr (.inl ⟨e.2, e.1⟩))
      have h3 : ¬ (a.length + c.length ≠ 16 ∧ (Lib.cut s [58, 58]).2.2 = false) := fun e => hn (.inr (.inr ⟨e.2, e.1⟩))
      simp
      cases hb : (Lib.cut s [58, 58]).2.2 <;> simp [hb] at this h3 <;> omega
  · cases h
set_option maxHeartbeats 1000000 in
theorem parse_colon (ea : Addr) (s : ByteArray) (w : World) (hE : Env ea w) (hs : s.size ≤ 1000) (hc : Lib.contains s.data.toList [58] = true) :
    Calls Tryz.prog 19 #[.string s] w fun e w' => RetAd ea ((coloned s.data.toList).map (fun b => (true, b))) e ∧ Below w.heap.size w w' := by
  have h0 : s.size ≠ 0 := fun h => by
    obtain rfl : s = ByteArray.empty := ByteArray.ext (Array.eq_empty_of_size_eq_zero h)
    revert hc; decide
  have KN : Hid (∀ W, Env ea W → Calls Tryz.prog 85 #[.string s, .string ⟨#[58]⟩] W fun e w' => e = .returned (.bool true) ∧ w' = W) := Lib.hid (fun W hE => by
    have := contains_calls ea s ⟨#[58]⟩ W hE (by omega)
    rw [show ((⟨#[58]⟩ : ByteArray).data.toList) = [58] from rfl, hc] at this
    exact this)
  have KC : Hid (∀ W, Env ea W → Calls Tryz.prog 86 #[.string s] W fun e w' => RetAd ea ((coloned s.data.toList).map (fun b => (true, b))) e ∧ Below W.heap.size W w') := Lib.hid (fun W hE => coloned_calls ea s W hE hs h0)
  have hlen := coloned_len s.data.toList
  have HM := Lib.hid (Mid.start hE)
  clear hs hc h0 hE
  cases hr : coloned s.data.toList with
  | none =>
    rw [hr] at KC
    clear hr hlen
    go_enter Tryz.func19, Tryz.ntmps19
    go_wp2_with (first
      | (go_at_call 85; ((with_reducible refine (KN.out _ HM.out.env).mono ?_); rintro e w1 ⟨rfl, rfl⟩))
      | (go_at_call 86; ((with_reducible refine (KC.out _ HM.out.env).mono ?_); rintro e w2 ⟨hq, hb2⟩; obtain rfl : e = .returned (.tuple #[.agg zeroCs.toArray, .iface 226 (.pointer (some ea))]) := hq; have HM2 := Lib.hid (HM.out.below hb2); have st := HM2.out.store0; have ld := HM2.out.load0; have HB2 := Lib.hid HM2.out.bel; clear hb2)))
    exact bodyPost_ret (v := .tuple #[.agg zeroCs.toArray, .iface 226 (.pointer (some ea))]) (by simp [results, Tryz.results19, go_sem, ld]) rfl ⟨ret_none ea, HB2.out⟩
  | some b =>
    have hl := hlen b hr
    have HLB := Lib.hid hl
    rw [hr] at KC
    clear hr hlen hl
    go_enter Tryz.func19, Tryz.ntmps19
    go_wp2_with (first
      | (go_at_call 85; ((with_reducible refine (KN.out _ HM.out.env).mono ?_); rintro e w1 ⟨rfl, rfl⟩))
      | (go_at_call 86; ((with_reducible refine (KC.out _ HM.out.env).mono ?_); rintro e w2 ⟨hq, hb2⟩; obtain rfl : e = .returned (.tuple #[adV true b, .nilIface]) := hq; have HM2 := Lib.hid (HM.out.below hb2); clear hb2))
      | (refine wp_store_blk rfl 24 (.tmp 2) (.tmp 8) rfl w.heap.size 0 (adCells false zero16) (adCells true b) 24 _ rfl rfl rfl HM2.out.1 (by rw [adCells_len _ _ HLB.out]; decide) (by rw [adCells_len _ _ HLB.out]; exact infoAd) (adCells_one _ _) (by rw [adCells_len _ _ HLB.out]; decide) ?_; intro w7 hk7 ha7; have HK7 := Lib.hid hk7; have HB7 : Hid (Below w.heap.size w w7) := Lib.hid (below_alt HM2.out.bel ha7 HM2.out.bel.size (fun k hk => by omega)); clear hk7 ha7))
    have hk7 := HK7.out
    rw [splice_all _ _ (by rw [adCells_len _ _ HLB.out]; decide)] at hk7
    have hres : (loadCells ⟨w.heap.size, 0, none⟩ 17).run Tryz.prog w7 = .ok (adA true b) w7 := hk7.load 0 17 (adCells true b) (by rw [List.drop_zero, List.take_of_length_le (by rw [adCells_len _ _ HLB.out]; omega)]) (adCells_len _ _ HLB.out)
    exact bodyPost_ret (v := .tuple #[adV true b, .nilIface]) (by simp [results, Tryz.results19, go_sem, hres]) rfl ⟨rfl, HB7.out⟩
end Go.Proofs.YtmcgkknpkocgoaaGreatDoor.Ad
