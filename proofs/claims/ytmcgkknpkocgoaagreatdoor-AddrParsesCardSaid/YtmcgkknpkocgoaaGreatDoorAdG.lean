/- ports.Parse of the chapter's example; the chapter's example. -/
import Derived.Test.YtmcgkknpkocgoaaGreatDoorAdF
import Derived.Test.YtmcgkknpkocgoaaGreatDoorKeyB
namespace Go.Proofs.YtmcgkknpkocgoaaGreatDoor.Ad
open Go.RowKit Go.Proofs.YtmcgkknpkocgoaaGreatDoor.Mem Go.Proofs.YtmcgkknpkocgoaaGreatDoor.Num Go.Proofs.YtmcgkknpkocgoaaGreatDoor.Err Go.Proofs.YtmcgkknpkocgoaaGreatDoor.AdP
open Go.Proofs.YtmcgkknpkocgoaaGreatDoor.Head (pad pad_len adCells_one adCells_len infoAd splice_ad)
open Go.Proofs.YtmcgkknpkocgoaaGreatDoor.Addr (adV adA adCells)
set_option linter.unusedVariables false
set_option linter.unusedSimpArgs false
set_option maxRecDepth 100000
attribute [-go_sem] Builtin.append_ loadCells loadCellsFrom storeCells run_eql_struct
theorem number80 (w : World) : Calls Tryz.prog 103 #[.string ⟨#[56, 48]⟩] w fun e w' => e = .returned (.int .i64 80) ∧ Below w.heap.size w w' := by
  have KA := Lib.hid (fun W => Tryz.strconv_Atoi_ok ⟨#[56, 48]⟩ (by decide) 80 (by decide) W)
  have KI : Hid (∀ W, Calls Tryz.prog 79 #[.int .i64 80] W fun e w' => e = .returned (.string ⟨#[56, 48]⟩) ∧ w' = W) := Lib.hid (fun W => by
    have := Tryz.strconv_Itoa_small 80 (by decide) W
    have e : Lib.decDigits 80 = [56, 48] := by rw [Lib.decDigits]; simp; rw [Lib.decDigits]; simp
    rw [e] at this
    exact this)
  have KR : Hid (∀ W, Calls Tryz.prog 39 #[.int .i64 80] W fun e w' => e = .returned (.bool true) ∧ W = w') := Lib.hid (fun W => by
    go_enter Tryz.func39, Tryz.ntmps39
    go_wp2
    go_ret
    exact ⟨rfl, rfl⟩)
  go_enter Tryz.func103, Tryz.ntmps103
  go_wp2_with (first
    | (go_at_call 107; ((with_reducible refine (KA.out _).mono ?_); rintro e w1 ⟨rfl, hw⟩; have HB : Hid (Below w.heap.size w w1) := Lib.hid (by rcases hw with rfl | ⟨t, rfl⟩; exact Below.refl _ _; exact Joins.below_bytesWorld _ w 5 _ (Nat.le_refl _)); clear hw))
    | (go_at_call 39; ((with_reducible refine (KR.out _).mono ?_); rintro e w2 ⟨rfl, rfl⟩))
    | (go_at_call 79; ((with_reducible refine (KI.out _).mono ?_); rintro e w2 ⟨rfl, rfl⟩)))
  go_ret
  exact ⟨rfl, HB.out⟩
theorem bare1 (ea : Addr) (w : World) (hE : Env ea w) : Calls Tryz.prog 104 #[.string ⟨#[91, 58, 58, 49, 93]⟩] w fun e w' => e = .returned (.tuple #[.string ⟨#[58, 58, 49]⟩, .bool true]) ∧ w' = w := by
  have KN : Hid (Calls Tryz.prog 85 #[.string ⟨#[91, 58, 58, 49, 93]⟩, .string ⟨#[58]⟩] w fun e w' => e = .returned (.bool true) ∧ w' = w) := Lib.hid (contains_calls ea ⟨#[91, 58, 58, 49, 93]⟩ ⟨#[58]⟩ w hE (by decide))
  have KP : Hid (∀ W, Calls Tryz.prog 147 #[.string ⟨#[91, 58, 58, 49, 93]⟩, .string ⟨#[91]⟩] W fun e w' => e = .returned (.tuple #[.string ⟨#[58, 58, 49, 93]⟩, .bool true]) ∧ w' = W) := Lib.hid (fun W => Tryz.strings_CutPrefix ⟨#[91, 58, 58, 49, 93]⟩ ⟨#[91]⟩ W)
  have KS : Hid (∀ W, Calls Tryz.prog 148 #[.string ⟨#[58, 58, 49, 93]⟩, .string ⟨#[93]⟩] W fun e w' => e = .returned (.tuple #[.string ⟨#[58, 58, 49]⟩, .bool true]) ∧ w' = W) := Lib.hid (fun W => Tryz.strings_CutSuffix ⟨#[58, 58, 49, 93]⟩ ⟨#[93]⟩ W (by decide))
  go_enter Tryz.func104, Tryz.ntmps104
  go_wp2_with (first
    | (go_at_call 85; ((with_reducible refine KN.out.mono ?_); rintro e w2 ⟨rfl, rfl⟩))
    | (go_at_call 147; ((with_reducible refine (KP.out _).mono ?_); rintro e w2 ⟨rfl, rfl⟩))
    | (go_at_call 148; ((with_reducible refine (KS.out _).mono ?_); rintro e w2 ⟨rfl, rfl⟩)))
  go_ret2
  exact ⟨rfl, rfl⟩
abbrev one17 : List Value := [.bool true, .int .u8 0, .int .u8 0, .int .u8 0, .int .u8 0, .int .u8 0, .int .u8 0, .int .u8 0, .int .u8 0, .int .u8 0, .int .u8 0, .int .u8 0, .int .u8 0, .int .u8 0, .int .u8 0, .int .u8 0, .int .u8 1]
abbrev pt80 : List Value := [.bool true, .int .u8 0, .int .u8 0, .int .u8 0, .int .u8 0, .int .u8 0, .int .u8 0, .int .u8 0, .int .u8 0, .int .u8 0, .int .u8 0, .int .u8 0, .int .u8 0, .int .u8 0, .int .u8 0, .int .u8 0, .int .u8 1, .int .i64 80]
abbrev pt0 : List Value := [.bool false, .int .u8 0, .int .u8 0, .int .u8 0, .int .u8 0, .int .u8 0, .int .u8 0, .int .u8 0, .int .u8 0, .int .u8 0, .int .u8 0, .int .u8 0, .int .u8 0, .int .u8 0, .int .u8 0, .int .u8 0, .int .u8 0, .int .i64 0]
theorem one17_one : ∀ v ∈ one17, v.oneCell' = true := by decide
theorem pt80_one : ∀ v ∈ pt80, v.oneCell' = true := by decide
theorem infoPt : (Tryz.prog.info? 61).map (·.size) = some 18 := by kernel_rfl
theorem parse1 (ea : Addr) (w : World) (hE : Env ea w) : Calls Tryz.prog 19 #[.string ⟨#[58, 58, 49]⟩] w fun e w' => e = .returned (.tuple #[.agg one17.toArray, .nilIface]) ∧ Below w.heap.size w w' := by
  refine (parse_colon ea ⟨#[58, 58, 49]⟩ w hE (by decide) (by decide)).mono ?_
  rintro e w' ⟨h, hb⟩
  have e1 : coloned [58, 58, 49] = some [0, 0, 0, 0, 0, 0, 0, 0, 0, 0, 0, 0, 0, 0, 0, 1] := by decide
  rw [show ((⟨#[58, 58, 49]⟩ : ByteArray).data.toList) = [58, 58, 49] from rfl, e1] at h
  exact ⟨h, hb⟩
/-- The point's block, and what stands below it. -/
def Pm (ea : Addr) (w : World) (W : World) : Prop := Blk w.heap.size pt0 61 W ∧ Env ea W ∧ Below w.heap.size w W
theorem Pm.env {ea : Addr} {w W : World} (h : Pm ea w W) : Env ea W := h.2.1
theorem Pm.bel {ea : Addr} {w W : World} (h : Pm ea w W) : Below w.heap.size w W := h.2.2
theorem Pm.below {ea : Addr} {w W W1 : World} (h : Pm ea w W) (hb : Below W.heap.size W W1) : Pm ea w W1 := ⟨h.1.below hb, h.2.1.below hb, h.2.2.trans (hb.mono h.2.2.size)⟩
theorem Pm.start {ea : Addr} {w : World} (h : Env ea w) : Pm ea w (w.alloc (.cells pt0.toArray 61)) := ⟨Blk.new w pt0 _ _ _ rfl rfl, h.alloc _, (Below.refl _ _).alloc (Nat.le_refl _) _⟩
set_option maxHeartbeats 1000000 in
theorem pparse80 (ea : Addr) (w : World) (hE : Env ea w) : Calls Tryz.prog 50 #[.string ⟨#[91, 58, 58, 49, 93, 58, 56, 48]⟩] w fun e w' => e = .returned (.tuple #[.agg pt80.toArray, .nilIface]) ∧ Below w.heap.size w w' := by
  have KL : Hid (∀ W, Calls Tryz.prog 102 #[.string ⟨#[91, 58, 58, 49, 93, 58, 56, 48]⟩, .string ⟨#[58]⟩] W fun e w' => e = .returned (.int .i64 5) ∧ w' = W) := Lib.hid (fun W => by
    have := Tryz.strings_LastIndex ⟨#[91, 58, 58, 49, 93, 58, 56, 48]⟩ ⟨#[58]⟩ (by decide) W
    rw [show Lib.lastIndex (ByteArray.mk #[91, 58, 58, 49, 93, 58, 56, 48]).data.toList (ByteArray.mk #[58]).data.toList = 5 by decide] at this
    exact this)
  have KN := Lib.hid (fun W => number80 W)
  have KB := Lib.hid (fun W hE => bare1 ea W hE)
  have KP := Lib.hid (fun W hE => parse1 ea W hE)
  have hs1 : ∀ W, (Instr.slice 9 (.string ⟨#[91, 58, 58, 49, 93, 58, 56, 48]⟩) (some (.int .i64 6)) none none).run Tryz.prog W = .ok (.string ⟨#[56, 48]⟩) W := fun W => by kernel_rfl
  have hs2 : ∀ W, (Instr.slice 9 (.string ⟨#[91, 58, 58, 49, 93, 58, 56, 48]⟩) none (some (.int .i64 5)) none).run Tryz.prog W = .ok (.string ⟨#[91, 58, 58, 49, 93]⟩) W := fun W => by kernel_rfl
  have HM := Lib.hid (Pm.start hE)
  clear hE
  go_enter Tryz.func50, Tryz.ntmps50
  go_wp2_with (first
    | (go_at_call 102; ((with_reducible refine (KL.out _).mono ?_); rintro e w1 ⟨rfl, rfl⟩))
    | (go_at_call 103; ((with_reducible refine (KN.out _).mono ?_); rintro e w2 ⟨rfl, hb⟩; have HM2 := Lib.hid (HM.out.below hb); clear hb))
    | (go_at_call 104; ((with_reducible refine (KB.out _ HM2.out.env).mono ?_); rintro e w3 ⟨rfl, rfl⟩))
    | (go_at_call 19; ((with_reducible refine (KP.out _ HM2.out.env).mono ?_); rintro e w4 ⟨rfl, hb⟩; have HM4 := Lib.hid (HM2.out.below hb); clear hb))
    | (refine wp_store_blk rfl 24 (.tmp 8) (.tmp 31) rfl w4.heap.size 0 (adCells false zero16) one17 24 _ rfl rfl rfl (Blk.new _ _ _ _ _ rfl rfl) (by decide) infoAd one17_one (by decide) ?_; intro w5 hk5 ha5; have hld : (loadCells ⟨w4.heap.size, 0, none⟩ 17).run Tryz.prog w5 = .ok one17.toArray w5 := Blk.load (cs := one17) hk5 0 17 one17 rfl rfl; have HM5 := Lib.hid (HM4.out.below (below_alt (below_own_alloc w4 _) ha5 (by simp) (fun k hk => by omega))); clear hk5 ha5)
    | (refine wp_store_blk rfl 61 (.tmp 2) (.tmp 47) rfl w.heap.size 0 pt0 pt80 61 _ rfl rfl rfl HM5.out.1 (by decide) infoPt pt80_one (by decide) ?_; intro w6 hk6 ha6; have HK6 : Hid (Blk w.heap.size pt80 61 w6) := Lib.hid hk6; have HB6 := Lib.hid (below_alt HM5.out.bel ha6 HM5.out.bel.size (fun k hk => by omega)); clear hk6 ha6))
  have hres : (loadCells ⟨w.heap.size, 0, none⟩ 18).run Tryz.prog w6 = .ok pt80.toArray w6 := HK6.out.load 0 18 pt80 rfl rfl
  exact bodyPost_ret (v := .tuple #[.agg pt80.toArray, .nilIface]) (by simp [results, Tryz.results50, go_sem, hres]) rfl ⟨rfl, HB6.out⟩
end Go.Proofs.YtmcgkknpkocgoaaGreatDoor.Ad
