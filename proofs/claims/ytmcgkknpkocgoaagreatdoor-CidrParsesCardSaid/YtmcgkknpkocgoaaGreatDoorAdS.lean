/- addr.Parse of every text. -/
import Derived.Test.YtmcgkknpkocgoaaGreatDoorAdR
namespace Go.Proofs.YtmcgkknpkocgoaaGreatDoor.Ad
open Go.RowKit Go.Proofs.YtmcgkknpkocgoaaGreatDoor.Mem Go.Proofs.YtmcgkknpkocgoaaGreatDoor.Num Go.Proofs.YtmcgkknpkocgoaaGreatDoor.Err Go.Proofs.YtmcgkknpkocgoaaGreatDoor.AdP
open Go.Proofs.YtmcgkknpkocgoaaGreatDoor.Head (pad pad_len adCells_one adCells_len infoAd splice_ad)
open Go.Proofs.YtmcgkknpkocgoaaGreatDoor.Addr (adV adA adCells)
set_option linter.unusedVariables false
set_option linter.unusedSimpArgs false
set_option maxRecDepth 100000
attribute [-go_sem] Builtin.append_ loadCells loadCellsFrom storeCells
set_option maxHeartbeats 1000000 in
theorem parse_dot (ea : Addr) (s : ByteArray) (w : World) (hE : Env ea w) (hs : s.size ≤ 1000) (hc : Lib.contains s.data.toList [58] = false) :
    Calls Tryz.prog 19 #[.string s] w fun e w' => RetAd ea ((dotted s.data.toList).map (fun b => (false, b))) e ∧ Below w.heap.size w w' := by
  have KN : Hid (∀ W, Env ea W → Calls Tryz.prog 85 #[.string s, .string ⟨#[58]⟩] W fun e w' => e = .returned (.bool false) ∧ w' = W) := Lib.hid (fun W hE => by
    have := contains_calls ea s ⟨#[58]⟩ W hE (by omega)
    rw [show ((⟨#[58]⟩ : ByteArray).data.toList) = [58] from rfl, hc] at this
    exact this)
  have KC : Hid (∀ W, Env ea W → Calls Tryz.prog 87 #[.string s] W fun e w' => RetAd ea ((dotted s.data.toList).map (fun b => (false, b))) e ∧ Below W.heap.size W w') := Lib.hid (fun W hE => dotted_calls ea s W hE hs)
  have hlen := dotted_len s.data.toList
  have HM := Lib.hid (Mid.start hE)
  clear hs hc hE
  cases hr : dotted s.data.toList with
  | none =>
    rw [hr] at KC
    clear hr hlen
    go_enter Tryz.func19, Tryz.ntmps19
    go_wp2_with (first
      | (go_at_call 85; ((with_reducible refine (KN.out _ HM.out.env).mono ?_); rintro e w1 ⟨rfl, rfl⟩))
      | (go_at_call 87; ((with_reducible refine (KC.out _ HM.out.env).mono ?_); rintro e w2 ⟨hq, hb2⟩; obtain rfl : e = .returned (.tuple #[.agg zeroCs.toArray, .iface 226 (.pointer (some ea))]) := hq; have HM2 := Lib.hid (HM.out.below hb2); have st := HM2.out.store0; have ld := HM2.out.load0; have HB2 := Lib.hid HM2.out.bel; clear hb2)))
    exact bodyPost_ret (v := .tuple #[.agg zeroCs.toArray, .iface 226 (.pointer (some ea))]) (by simp [results, Tryz.results19, go_sem, ld]) rfl ⟨ret_none ea, HB2.out⟩
  | some b =>
    have hl := hlen b hr
    have HLB := Lib.hid hl
    rw [hr] at KC
    clear hr hlen hl
    go_enter Tryz.func19, Tryz.ntmps19
    go_wp2_with (first
      | (go_at_call 85; ((with_reducible refine (KN.out _ HM.out.env).mono ?_); rintro e w1 ⟨rfl, rfl⟩))
      | (go_at_call 87; ((with_reducible refine (KC.out _ HM.out.env).mono ?_); rintro e w2 ⟨hq, hb2⟩; obtain rfl : e = .returned (.tuple #[adV false b, .nilIface]) := hq; have HM2 := Lib.hid (HM.out.below hb2); clear hb2))
      | (refine wp_store_blk rfl 24 (.tmp 2) (.tmp 12) rfl w.heap.size 0 (adCells false zero16) (adCells false b) 24 _ rfl rfl rfl HM2.out.1 (by rw [adCells_len _ _ HLB.out]; decide) (by rw [adCells_len _ _ HLB.out]; exact infoAd) (adCells_one _ _) (by rw [adCells_len _ _ HLB.out]; decide) ?_; intro w7 hk7 ha7; have HK7 := Lib.hid hk7; have HB7 : Hid (Below w.heap.size w w7) := Lib.hid (below_alt HM2.out.bel ha7 HM2.out.bel.size (fun k hk => by omega)); clear hk7 ha7))
    have hk7 := HK7.out
    rw [splice_all _ _ (by rw [adCells_len _ _ HLB.out]; decide)] at hk7
    have hres : (loadCells ⟨w.heap.size, 0, none⟩ 17).run Tryz.prog w7 = .ok (adA false b) w7 := hk7.load 0 17 (adCells false b) (by rw [List.drop_zero, List.take_of_length_le (by rw [adCells_len _ _ HLB.out]; omega)]) (adCells_len _ _ HLB.out)
    exact bodyPost_ret (v := .tuple #[adV false b, .nilIface]) (by simp [results, Tryz.results19, go_sem, hres]) rfl ⟨rfl, HB7.out⟩
/-- A text's address. -/
def parseA (s : List UInt8) : Option (Bool × List UInt8) := if Lib.contains s [58] = true then (coloned s).map (fun b => (true, b)) else (dotted s).map (fun b => (false, b))
theorem parse_calls (ea : Addr) (s : ByteArray) (w : World) (hE : Env ea w) (hs : s.size ≤ 1000) :
    Calls Tryz.prog 19 #[.string s] w fun e w' => RetAd ea (parseA s.data.toList) e ∧ Below w.heap.size w w' := by
  unfold parseA
  by_cases hc : Lib.contains s.data.toList [58] = true
  · rw [if_pos hc]; exact parse_colon ea s w hE hs hc
  · rw [if_neg hc]; exact parse_dot ea s w hE hs (by simpa using hc)
end Go.Proofs.YtmcgkknpkocgoaaGreatDoor.Ad
