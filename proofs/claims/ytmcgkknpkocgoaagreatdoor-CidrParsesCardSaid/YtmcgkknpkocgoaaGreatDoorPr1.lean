/- linkboyref02.Parse: two rows, and what stands behind them. -/
import Derived.Test.YtmcgkknpkocgoaaGreatDoorAd1
import Derived.Test.YtmcgkknpkocgoaaGreatDoorMemR
import Derived.Deep.DeepCutAuto
namespace Go.Proofs.YtmcgkknpkocgoaaGreatDoor.Ad
open Go.RowKit Go.Proofs.YtmcgkknpkocgoaaGreatDoor.Mem Go.Proofs.YtmcgkknpkocgoaaGreatDoor.Num Go.Proofs.YtmcgkknpkocgoaaGreatDoor.Err Go.Proofs.YtmcgkknpkocgoaaGreatDoor.AdP
open Go.Proofs.YtmcgkknpkocgoaaGreatDoor.Head (pad pad_len adCells_one adCells_len infoAd splice_ad)
open Go.Proofs.YtmcgkknpkocgoaaGreatDoor.Addr (adV adA adCells)
set_option linter.unusedVariables false
set_option linter.unusedSimpArgs false
set_option maxRecDepth 100000
attribute [-go_sem] Builtin.append_ loadCells loadCellsFrom storeCells
/-- Two rows of bytes, each its own block. -/
def Two (base : Nat) (w : World) (v1 : Value) (a : List UInt8) (v2 : Value) (b : List UInt8) : Prop := Own eU8 5 base w v1 a ∧ Own eU8 5 base w v2 b ∧ (v2.ownBlock = none ∨ v2.ownBlock ≠ v1.ownBlock)
theorem Two.fst {base : Nat} {w : World} {v1 v2 : Value} {a b : List UInt8} (h : Two base w v1 a v2 b) : Own eU8 5 base w v1 a := h.1
theorem Two.snd {base : Nat} {w : World} {v1 v2 : Value} {a b : List UInt8} (h : Two base w v1 a v2 b) : Own eU8 5 base w v2 b := h.2.1
theorem Two.swap {base : Nat} {w : World} {v1 v2 : Value} {a b : List UInt8} (h : Two base w v1 a v2 b) : Two base w v2 b v1 a := ⟨h.2.1, h.1, by
  rcases h.2.2 with e | e
  · cases hv : v1.ownBlock with
    | none => exact .inl rfl
    | some k => exact .inr (by rw [e]; simp)
  · exact .inr (fun h => e h.symm)⟩
theorem Two.below {base : Nat} {w w1 : World} {v1 v2 : Value} {a b : List UInt8} (h : Two base w v1 a v2 b) (hb : Below w.heap.size w w1) : Two base w1 v1 a v2 b := ⟨h.1.below hb, h.2.1.below hb, h.2.2⟩
theorem Two.alloc {base : Nat} {w : World} {v1 v2 : Value} {a b : List UInt8} (h : Two base w v1 a v2 b) (o : Obj) : Two base (w.alloc o) v1 a v2 b := ⟨h.1.alloc o, h.2.1.alloc o, h.2.2⟩
theorem Two.grow {base : Nat} {w w1 : World} {v1 v2 v3 : Value} {a b c : List UInt8} (h : Two base w v1 a v2 b) (ho : Own eU8 5 base w1 v3 c) (hg : w.grownBy w1 v1.ownBlock) (hat : v3.ownBlock = v1.ownBlock ∨ v3.ownBlock = some w.heap.size) : Two base w1 v3 c v2 b := by
  refine ⟨ho, World.ownsRow.kept h.2.1 hg h.2.2, ?_⟩
  rcases hat with e | e
  · rw [e]; exact h.2.2
  · cases hv : v2.ownBlock with
    | none => exact .inl rfl
    | some k =>
      have := h.2.1.block k hv
      refine .inr (fun h2 => ?_)
      rw [e] at h2
      have := Option.some.inj h2
      omega
def tailC : Nat → Code → Code
  | 0, c => c
  | n + 1, .seq _ b => tailC n b
  | _ + 1, c => c
/-- The document's parse, from its n-th part on. -/
noncomputable def pC (n : Nat) : Code := tailC n (Tryz.f23.body.getD .skip)
theorem splice_one16 (a : List UInt8) (h : a.length = 16) : splice (adCells true zero16) 1 (eU8.all a) = adCells true a := by
  have := splice_two a [] (by simp; omega)
  simp only [both, h] at this
  rw [show (17 - ([] : List UInt8).length) = 17 from rfl] at this
  simp at this
  rw [show eU8.all ([] : List UInt8) = [] from rfl] at this
  unfold splice at this
  unfold splice
  simpa using this
set_option maxHeartbeats 8000000 in
theorem parse13 (ea : Addr) (a b : List UInt8) (hab : a.length + b.length = 16) (w wc : World) (v1 v2 : Value) (hM : Mid ea w wc) (hT : Two (w.heap.size + 1) wc v1 a v2 b)
    (u0 u1 u3 u4 u5 u6 u7 u8 u9 u12 u13 u14 u15 u16 u17 u18 u19 u20 u21 u22 u23 u24 u25 u26 u27 u28 u29 u30 u31 u32 u33 u34 u35 u36 u37 u38 u39 u40 u41 u42 u43 u44 u45 u46 u47 u48 u49 u50 u51 u52 u53 u54 u55 u56 u57 u58 u59 u60 u61 u62 u63 u64 u65 u66 u67 u68 u69 u70 u71 u72 u73 u74 u75 u76 u77 u78 u79 u80 u81 u82 u83 u84 u85 u86 u87 u88 u89 u90 u91 u92 u93 u94 u95 u96 u97 u98 u99 u100 u101 u102 u103 u104 u105 u106 u107 u108 u109 u110 u111 u112 u113 u114 u115 u116 u117 u118 u119 u120 u121 u122 u123 u124 u125 u126 u127 u128 u129 u130 u131 u132 u133 u134 u135 u136 u137 u138 u139 u140 u141 u142 u143 u144 u145 u146 u147 u148 u149 u150 u151 u152 u153 u154 u155 u156 u157 u158 u159 : Value) :
    Code.wp Tryz.prog (pC 13) (bodyPost Tryz.prog Tryz.f23 fun e w' => RetR (some (true, a ++ b)) e ∧ Below w.heap.size w w') ⟨#[u0, u1, .pointer (some ⟨w.heap.size, 0, none⟩), u3, u4, u5, u6, u7, u8, u9, v1, v2, u12, u13, u14, u15, u16, u17, u18, u19, u20, u21, u22, u23, u24, u25, u26, u27, u28, u29, u30, u31, u32, u33, u34, u35, u36, u37, u38, u39, u40, u41, u42, u43, u44, u45, u46, u47, u48, u49, u50, u51, u52, u53, u54, u55, u56, u57, u58, u59, u60, u61, u62, u63, u64, u65, u66, u67, u68, u69, u70, u71, u72, u73, u74, u75, u76, u77, u78, u79, u80, u81, u82, u83, u84, u85, u86, u87, u88, u89, u90, u91, u92, u93, u94, u95, u96, u97, u98, u99, u100, u101, u102, u103, u104, u105, u106, u107, u108, u109, u110, u111, u112, u113, u114, u115, u116, u117, u118, u119, u120, u121, u122, u123, u124, u125, u126, u127, u128, u129, u130, u131, u132, u133, u134, u135, u136, u137, u138, u139, u140, u141, u142, u143, u144, u145, u146, u147, u148, u149, u150, u151, u152, u153, u154, u155, u156, u157, u158, u159], []⟩ wc := by
  have HM := Lib.hid hM
  have HT := Lib.hid hT
  have HAB := Lib.hid hab
  have HLT := Lib.hid hM.1.lt
  have hcsz : (Tryz.prog.info? 5).map (·.size) = some 1 := by kernel_rfl
  have HL : Hid ((a ++ b).length = 16) := Lib.hid (by simpa using hab)
  have HBL := Lib.hid (show (eU8.all (a ++ b)).length = 16 by rw [mapU, List.length_map]; exact HL.out)
  clear hM hT hab
  unfold pC
  conv => arg 2; whnf
  go_upto_region 41 with (first
    | (refine wp_store_blk rfl 24 (.tmp 18) (.tmp 152) rfl wc.heap.size 0 (adCells false zero16) (adCells true zero16) 24 _ rfl rfl rfl (Blk.new _ _ _ _ _ rfl rfl) (by decide) infoAd (adCells_one _ _) (by decide) ?_; intro w4 hk4 ha4; have HK4 : Hid (Blk wc.heap.size (adCells true zero16) 24 w4) := Lib.hid hk4; have HB4 := Lib.hid (below_alt (below_own_alloc wc _) ha4 (by simp) (fun k hk => by omega)); clear hk4 ha4))
  have HM4 := Lib.hid (HM.out.below HB4.out)
  have HT4 : Hid (Two (w.heap.size + 1) w4.drew v1 a v2 b) := Lib.hid (HT.out.below (below_drewN HB4.out 1))
  have HM5 : Hid (Mid ea w w4.drew) := Lib.hid ⟨HM4.out.1.drewN 1, HM4.out.env.drewN 1, below_drewN HM4.out.bel 1⟩
  have HK5 : Hid (Blk wc.heap.size (adCells true zero16) 24 w4.drew) := Lib.hid (HK4.out.drewN 1)
  go_region_law (first
    | (refine step_append (E := eU8) (w.heap.size + 1) rfl (.tmp 155) (.tmp 156) 39 5 _ 1 rfl Tryz.underlying39 infoU8 rfl (by decide) _ _ a b rfl rfl HT4.out.fst HT4.out.snd.row (by have := HM5.out.1.lt; omega) (by have := HAB.out; omega) ?_; intro v3 w5 ho3 hg3 hat3; have hk5 : Hid (Blk wc.heap.size (adCells true zero16) 24 w5) := Lib.hid ((hg3.block _ HK5.out.lt (fun e => by have := HT.out.fst.block _ e.symm; omega)).trans HK5.out); have hb5 : Hid (Below (w.heap.size + 1) w4.drew w5) := Lib.hid (below_app (Below.refl _ _) (by have := HM5.out.1.lt; omega) HT4.out.fst hg3); obtain ⟨A3, c3, rfl, hc3, hc4, hr3⟩ := ho3.row.parts; rw [HL.out] at hr3 hc3 ⊢; have hr4 := Lib.hid hr3; clear ho3 hg3 hat3 hr3)
    | (refine step_copy_splice rfl (.tmp 154) (.tmp 157) 39 39 rfl 5 Tryz.underlying39 hcsz _ _ _ _ _ _ rfl rfl wc.heap.size 1 (adCells true zero16) 24 hk5.out (eU8.all (a ++ b)) (by rw [HBL.out]; rfl) (fun h0 => ⟨rfl, src_of hr4.out h0⟩) (by rw [HBL.out]; decide) (eU8.all_one _) wc.heap.size w5 (Below.refl _ _) (Nat.le_refl _) ?_; intro w6 hg6 hb6; have HK6 : Hid (Blk wc.heap.size (adCells true (a ++ b)) 24 w6) := Lib.hid (by have := hg6.out; rw [splice_one16 _ HL.out] at this; exact this); have HB6 := Lib.hid hb6; have hld : (loadCells ⟨wc.heap.size, 0, none⟩ 17).run Tryz.prog w6 = .ok (adA true (a ++ b)) w6 := HK6.out.load 0 17 (adCells true (a ++ b)) (by rw [List.drop_zero, List.take_of_length_le (by rw [adCells_len _ _ HL.out]; omega)]) (adCells_len _ _ HL.out); have HZ6 : Hid (Blk w.heap.size (adCells false zero16) 24 w6) := Lib.hid (by have h1 := HM5.out.1; have h2 : Blk w.heap.size (adCells false zero16) 24 w5 := (hb5.out.block _ (by omega)).trans h1; exact (hb6.block _ HLT.out).trans h2); have HW6 : Hid (Below w.heap.size w w6) := Lib.hid ((HM5.out.bel.trans (hb5.out.mono (by omega))).trans (hb6.mono (by have := HLT.out; omega))); clear hg6 hb6))
  all_goals go_wp2_with (refine wp_store_blk rfl 24 (.tmp 2) (.tmp 159) rfl w.heap.size 0 (adCells false zero16) (adCells true (a ++ b)) 24 _ rfl rfl rfl HZ6.out (by rw [adCells_len _ _ HL.out]; decide) (by rw [adCells_len _ _ HL.out]; exact infoAd) (adCells_one _ _) (by rw [adCells_len _ _ HL.out]; decide) ?_; intro w7 hk7 ha7; have HK7 := Lib.hid hk7; have HB7 : Hid (Below w.heap.size w w7) := Lib.hid (below_alt HW6.out ha7 HW6.out.size (fun k hk => by omega)); clear hk7 ha7)
  all_goals
    have hk7 := HK7.out
    rw [splice_all _ _ (by rw [adCells_len _ _ HL.out]; decide)] at hk7
    have hres : (loadCells ⟨w.heap.size, 0, none⟩ 17).run Tryz.prog w7 = .ok (adA true (a ++ b)) w7 := hk7.load 0 17 (adCells true (a ++ b)) (by rw [List.drop_zero, List.take_of_length_le (by rw [adCells_len _ _ HL.out]; omega)]) (adCells_len _ _ HL.out)
    exact bodyPost_ret (v := .tuple #[adV true (a ++ b), .bool true]) (by simp [results, Tryz.results23, go_sem, hres]) rfl ⟨rfl, HB7.out⟩
end Go.Proofs.YtmcgkknpkocgoaaGreatDoor.Ad

/- linkboyref02.Parse: the noughts between the rows. -/
namespace Go.Proofs.YtmcgkknpkocgoaaGreatDoor.Ad
open Go.RowKit Go.Proofs.YtmcgkknpkocgoaaGreatDoor.Mem Go.Proofs.YtmcgkknpkocgoaaGreatDoor.Num Go.Proofs.YtmcgkknpkocgoaaGreatDoor.Err Go.Proofs.YtmcgkknpkocgoaaGreatDoor.AdP
open Go.Proofs.YtmcgkknpkocgoaaGreatDoor.Head (pad pad_len adCells_one adCells_len infoAd splice_ad)
open Go.Proofs.YtmcgkknpkocgoaaGreatDoor.Addr (adV adA adCells)
set_option linter.unusedVariables false
set_option linter.unusedSimpArgs false
set_option maxRecDepth 100000
attribute [-go_sem] Builtin.append_ loadCells loadCellsFrom storeCells
/-- A slice's length. -/
def slen : Value → Nat
  | .slice _ n _ => n
  | _ => 0
theorem pad_step (a : List UInt8) (k : Nat) : a ++ List.replicate k (0 : UInt8) ++ [0] = a ++ List.replicate (k + 1) 0 := by rw [List.append_assoc, List.replicate_succ']
theorem Mid.belowS {ea : Addr} {w W W1 : World} (hE : Env ea w) (h : Mid ea w W) (hb : Below (w.heap.size + 1) W W1) : Mid ea w W1 := ⟨(hb.block _ (by omega)).trans h.1, hE.below (h.bel.trans (hb.mono (by omega))), h.bel.trans (hb.mono (by omega))⟩
theorem bytes_zero : (#[Value.int .u8 0] : Array Value) = (eU8.all [0]).toArray := rfl
set_option maxHeartbeats 16000000 in
theorem parse12 (ea : Addr) (a b : List UInt8) (hab : a.length + b.length ≤ 16) (w wc : World) (v1 v2 : Value) (hE : Env ea w) (hM : Mid ea w wc) (hT : Two (w.heap.size + 1) wc v1 a v2 b)
    (u0 u1 u3 u4 u5 u6 u7 u8 u9 u12 u13 u14 u15 u16 u17 u18 u19 u20 u21 u22 u23 u24 u25 u26 u27 u28 u29 u30 u31 u32 u33 u34 u35 u36 u37 u38 u39 u40 u41 u42 u43 u44 u45 u46 u47 u48 u49 u50 u51 u52 u53 u54 u55 u56 u57 u58 u59 u60 u61 u62 u63 u64 u65 u66 u67 u68 u69 u70 u71 u72 u73 u74 u75 u76 u77 u78 u79 u80 u81 u82 u83 u84 u85 u86 u87 u88 u89 u90 u91 u92 u93 u94 u95 u96 u97 u98 u99 u100 u101 u102 u103 u104 u105 u106 u107 u108 u109 u110 u111 u112 u113 u114 u115 u116 u117 u118 u119 u120 u121 u122 u123 u124 u125 u126 u127 u128 u129 u130 u131 u132 u133 u134 u135 u136 u137 u138 u139 u140 u141 u142 u143 u144 u145 u146 u147 u148 u149 u150 u151 u152 u153 u154 u155 u156 u157 u158 u159 : Value) :
    Code.wp Tryz.prog (pC 12) (bodyPost Tryz.prog Tryz.f23 fun e w' => RetR (some (true, both a b)) e ∧ Below w.heap.size w w') ⟨#[u0, u1, .pointer (some ⟨w.heap.size, 0, none⟩), u3, u4, u5, u6, u7, u8, u9, v1, v2, u12, u13, u14, u15, u16, u17, u18, u19, u20, u21, u22, u23, u24, u25, u26, u27, u28, u29, u30, u31, u32, u33, u34, u35, u36, u37, u38, u39, u40, u41, u42, u43, u44, u45, u46, u47, u48, u49, u50, u51, u52, u53, u54, u55, u56, u57, u58, u59, u60, u61, u62, u63, u64, u65, u66, u67, u68, u69, u70, u71, u72, u73, u74, u75, u76, u77, u78, u79, u80, u81, u82, u83, u84, u85, u86, u87, u88, u89, u90, u91, u92, u93, u94, u95, u96, u97, u98, u99, u100, u101, u102, u103, u104, u105, u106, u107, u108, u109, u110, u111, u112, u113, u114, u115, u116, u117, u118, u119, u120, u121, u122, u123, u124, u125, u126, u127, u128, u129, u130, u131, u132, u133, u134, u135, u136, u137, u138, u139, u140, u141, u142, u143, u144, u145, u146, u147, u148, u149, u150, u151, u152, u153, u154, u155, u156, u157, u158, u159], []⟩ wc := by
  have HE := Lib.hid hE
  have HM := Lib.hid hM
  have HT := Lib.hid hT
  have HAB := Lib.hid hab
  obtain ⟨A2, c2, rfl, hn2, hc2, _⟩ := hT.snd.row.parts
  have hbi : (b.length : Int) ≤ 16 := by omega
  clear hE hM hT hab
  unfold pC
  conv => arg 2; whnf
  go_wp2
  go_loopw [10] (fun v wr => ∃ k, Hid (a.length + k + b.length ≤ 16) ∧ Hid (Two (w.heap.size + 1) wr v (a ++ List.replicate k 0) (.slice A2 b.length c2) b) ∧ Hid (Mid ea w wr)) (fun v _ => 16 - slen v)
  case atStart => exact ⟨0, HAB, by simpa using HT, HM⟩
  case round =>
    obtain ⟨k, HK, HT1, HM1⟩ := hrel
    obtain ⟨A1, c1, rfl, hn1, hc1, _⟩ := HT1.out.fst.row.parts
    have hln : (a ++ List.replicate k (0 : UInt8)).length = a.length + k := by simp
    have HLN := Lib.hid hln
    have hlt16 := HK.out
    have hai : (a.length : Int) + (k : Int) ≤ 16 := by omega
    rw [hln] at hn1 HT1 ⊢
    have HBS : Hid (w.heap.size + 1 ≤ wr.heap.size) := Lib.hid (by have := HM1.out.1.lt; omega)
    by_cases hlt : a.length + k + b.length < 16
    · have hlti : (a.length : Int) + (k : Int) + (b.length : Int) < 16 := by omega
      clear hlt16 hln
      go_wp2_with (at_builtin; refine wp_append (E := eU8) (w.heap.size + 1) rfl (.tmp 149) (.tmp 150) 39 5 _ 1 rfl Tryz.underlying39 infoU8 rfl (by decide) _ _ (a ++ List.replicate k 0) [0] rfl rfl (HT1.out.fst.alloc _) (Own.lit wr 0 eU8 5 [0] 1 rfl _ bytes_zero (Nat.zero_le _) (by decide)).row (Nat.le_trans HBS.out (by simp)) (by rw [HLN.out]; have := HK.out; simp; omega) ?_; intro v3 w3 ho3 hg3 hat3; obtain ⟨A3, c3, rfl, _, _, _⟩ := ho3.row.parts; have hl3 : (a ++ List.replicate k (0 : UInt8) ++ [0]).length = a.length + k + 1 := (by simp; omega); rw [hl3] at ho3 hat3 ⊢)
      go_roundw
      case rel => exact ⟨k + 1, Lib.hid (by omega), Lib.hid (by have := (HT1.out.alloc _).grow ho3 hg3 hat3; rw [pad_step] at this; exact this), Lib.hid (Mid.belowS HE.out HM1.out (below_app ((Below.refl (w.heap.size + 1) wr).alloc HBS.out _) (Nat.le_trans HBS.out (by simp)) (HT1.out.fst.alloc _) hg3))⟩
      case measure => simp [slen]; omega
    · have hlti : ¬ (a.length : Int) + (k : Int) + (b.length : Int) < 16 := by omega
      have hk16 : k = 16 - a.length - b.length := by omega
      subst hk16
      have hnx : (a ++ List.replicate (16 - a.length - b.length) (0 : UInt8)).length + b.length = 16 := by rw [HLN.out]; omega
      have KX := parse13 ea (a ++ List.replicate (16 - a.length - b.length) 0) b hnx w wr _ _ HM1.out HT1.out
      repeat (first | exact KX _ _ _ _ _ _ _ _ _ _ _ _ _ _ _ _ _ _ _ _ _ _ _ _ _ _ _ _ _ _ _ _ _ _ _ _ _ _ _ _ _ _ _ _ _ _ _ _ _ _ _ _ _ _ _ _ _ _ _ _ _ _ _ _ _ _ _ _ _ _ _ _ _ _ _ _ _ _ _ _ _ _ _ _ _ _ _ _ _ _ _ _ _ _ _ _ _ _ _ _ _ _ _ _ _ _ _ _ _ _ _ _ _ _ _ _ _ _ _ _ _ _ _ _ _ _ _ _ _ _ _ _ _ _ _ _ _ _ _ _ _ _ _ _ _ _ _ _ _ _ _ _ _ _ _ _ _ | go_values | go_skip | go_guarded | go_step | go_upon | go_back)
end Go.Proofs.YtmcgkknpkocgoaaGreatDoor.Ad

/- linkboyref02.Parse: the sizes of the rows. -/
namespace Go.Proofs.YtmcgkknpkocgoaaGreatDoor.Ad
open Go.RowKit Go.Proofs.YtmcgkknpkocgoaaGreatDoor.Mem Go.Proofs.YtmcgkknpkocgoaaGreatDoor.Num Go.Proofs.YtmcgkknpkocgoaaGreatDoor.Err Go.Proofs.YtmcgkknpkocgoaaGreatDoor.AdP
open Go.Proofs.YtmcgkknpkocgoaaGreatDoor.Head (pad pad_len adCells_one adCells_len infoAd splice_ad)
open Go.Proofs.YtmcgkknpkocgoaaGreatDoor.Addr (adV adA adCells)
set_option linter.unusedVariables false
set_option linter.unusedSimpArgs false
set_option maxRecDepth 100000
attribute [-go_sem] Builtin.append_ loadCells loadCellsFrom storeCells
/-- Both rows' address, if the sizes fit. -/
def finP (hole : Int) (a b : List UInt8) : Option (Bool × List UInt8) := if (hole < 0 ∧ a.length ≠ 16) ∨ (0 ≤ hole ∧ 14 < a.length + b.length) then none else some (true, both a b)
set_option maxHeartbeats 16000000 in
theorem parse11 (ea : Addr) (a b : List UInt8) (hole : Int) (ha : a.length ≤ 4096) (hb : b.length ≤ 4096) (hb0 : hole < 0 → b = []) (w wc : World) (v1 v2 : Value) (hE : Env ea w) (hM : Mid ea w wc) (hT : Two (w.heap.size + 1) wc v1 a v2 b)
    (u0 u1 u3 u4 u5 u7 u8 u9 u12 u13 u14 u15 u16 u17 u18 u19 u20 u21 u22 u23 u24 u25 u26 u27 u28 u29 u30 u31 u32 u33 u34 u35 u36 u37 u38 u39 u40 u41 u42 u43 u44 u45 u46 u47 u48 u49 u50 u51 u52 u53 u54 u55 u56 u57 u58 u59 u60 u61 u62 u63 u64 u65 u66 u67 u68 u69 u70 u71 u72 u73 u74 u75 u76 u77 u78 u79 u80 u81 u82 u83 u84 u85 u86 u87 u88 u89 u90 u91 u92 u93 u94 u95 u96 u97 u98 u99 u100 u101 u102 u103 u104 u105 u106 u107 u108 u109 u110 u111 u112 u113 u114 u115 u116 u117 u118 u119 u120 u121 u122 u123 u124 u125 u126 u127 u128 u129 u130 u131 u132 u133 u134 u135 u136 u137 u138 u139 u140 u141 u142 u143 u144 u145 u146 u147 u148 u149 u150 u151 u152 u153 u154 u155 u156 u157 u158 u159 : Value) :
    Code.wp Tryz.prog (pC 11) (bodyPost Tryz.prog Tryz.f23 fun e w' => RetR (finP hole a b) e ∧ Below w.heap.size w w') ⟨#[u0, u1, .pointer (some ⟨w.heap.size, 0, none⟩), u3, u4, u5, .int .i64 hole, u7, u8, u9, v1, v2, u12, u13, u14, u15, u16, u17, u18, u19, u20, u21, u22, u23, u24, u25, u26, u27, u28, u29, u30, u31, u32, u33, u34, u35, u36, u37, u38, u39, u40, u41, u42, u43, u44, u45, u46, u47, u48, u49, u50, u51, u52, u53, u54, u55, u56, u57, u58, u59, u60, u61, u62, u63, u64, u65, u66, u67, u68, u69, u70, u71, u72, u73, u74, u75, u76, u77, u78, u79, u80, u81, u82, u83, u84, u85, u86, u87, u88, u89, u90, u91, u92, u93, u94, u95, u96, u97, u98, u99, u100, u101, u102, u103, u104, u105, u106, u107, u108, u109, u110, u111, u112, u113, u114, u115, u116, u117, u118, u119, u120, u121, u122, u123, u124, u125, u126, u127, u128, u129, u130, u131, u132, u133, u134, u135, u136, u137, u138, u139, u140, u141, u142, u143, u144, u145, u146, u147, u148, u149, u150, u151, u152, u153, u154, u155, u156, u157, u158, u159], []⟩ wc := by
  have HE := Lib.hid hE
  have HM := Lib.hid hM
  have HT := Lib.hid hT
  obtain ⟨A1, c1, rfl, hn1, hc1, _⟩ := hT.fst.row.parts
  obtain ⟨A2, c2, rfl, hn2, hc2, _⟩ := hT.snd.row.parts
  have hai : (a.length : Int) ≤ 4096 := by omega
  have hbi : (b.length : Int) ≤ 4096 := by omega
  by_cases hbad : (hole < 0 ∧ a.length ≠ 16) ∨ (0 ≤ hole ∧ 14 < a.length + b.length)
  · have HR : Hid (finP hole a b = none) := Lib.hid (if_pos hbad)
    rw [HR.out]
    have st := HM.out.store0
    have ld := HM.out.load0
    have HB2 := Lib.hid HM.out.bel
    clear hE hM hT ha hb hb0
    unfold pC
    conv => arg 2; whnf
    rcases hbad with ⟨hneg, h16⟩ | ⟨hpos, h14⟩
    · have h16b : ((a.length : Int) == 16) = false := beq_eq_false_iff_ne.mpr (by omega)
      have h16c : ((a.length : Int) != 16) = true := by rw [bne, h16b]; rfl
      clear h16
      go_wp2
      exact bodyPost_ret (v := .tuple #[.agg zeroCs.toArray, .bool false]) (by simp [results, Tryz.results23, go_sem, ld]) rfl ⟨retR_none, HB2.out⟩
    · have h14i : 14 < (a.length : Int) + (b.length : Int) := by omega
      clear h14
      go_wp2
      exact bodyPost_ret (v := .tuple #[.agg zeroCs.toArray, .bool false]) (by simp [results, Tryz.results23, go_sem, ld]) rfl ⟨retR_none, HB2.out⟩
  · have HR : Hid (finP hole a b = some (true, both a b)) := Lib.hid (if_neg hbad)
    rw [HR.out]
    have hfit : a.length + b.length ≤ 16 := by
      by_cases hneg : hole < 0
      · have := hb0 hneg
        subst this
        simp at hbad ⊢
        omega
      · omega
    have KX := parse12 ea a b hfit w wc _ _ HE.out HM.out HT.out
    have hK := Lib.hid KX
    clear KX hE hM hT ha hb hb0 hfit
    unfold pC
    conv => arg 2; whnf
    by_cases hneg : hole < 0
    · have h16 : (a.length : Int) = 16 := by omega
      have h16b : ((a.length : Int) == 16) = true := beq_iff_eq.mpr h16
      have h16c : ((a.length : Int) != 16) = false := by rw [bne, h16b]; rfl
      have hpos : decide (0 ≤ hole) = false := decide_eq_false (by omega)
      have hpos2 : ¬ 0 ≤ hole := by omega
      clear hbad h16
      iterate 51 (first | go_values | go_skip | go_guarded | go_step | go_upon | go_back)
      exact hK.out _ _ _ _ _ _ _ _ _ _ _ _ _ _ _ _ _ _ _ _ _ _ _ _ _ _ _ _ _ _ _ _ _ _ _ _ _ _ _ _ _ _ _ _ _ _ _ _ _ _ _ _ _ _ _ _ _ _ _ _ _ _ _ _ _ _ _ _ _ _ _ _ _ _ _ _ _ _ _ _ _ _ _ _ _ _ _ _ _ _ _ _ _ _ _ _ _ _ _ _ _ _ _ _ _ _ _ _ _ _ _ _ _ _ _ _ _ _ _ _ _ _ _ _ _ _ _ _ _ _ _ _ _ _ _ _ _ _ _ _ _ _ _ _ _ _ _ _ _ _ _ _ _ _ _ _ _
    · have h14i : ¬ 14 < (a.length : Int) + (b.length : Int) := by omega
      have hpos : 0 ≤ hole := by omega
      clear hbad
      repeat (first | exact hK.out _ _ _ _ _ _ _ _ _ _ _ _ _ _ _ _ _ _ _ _ _ _ _ _ _ _ _ _ _ _ _ _ _ _ _ _ _ _ _ _ _ _ _ _ _ _ _ _ _ _ _ _ _ _ _ _ _ _ _ _ _ _ _ _ _ _ _ _ _ _ _ _ _ _ _ _ _ _ _ _ _ _ _ _ _ _ _ _ _ _ _ _ _ _ _ _ _ _ _ _ _ _ _ _ _ _ _ _ _ _ _ _ _ _ _ _ _ _ _ _ _ _ _ _ _ _ _ _ _ _ _ _ _ _ _ _ _ _ _ _ _ _ _ _ _ _ _ _ _ _ _ _ _ _ _ _ _ | go_values | go_skip | go_guarded | go_step | go_upon | go_back)
end Go.Proofs.YtmcgkknpkocgoaaGreatDoor.Ad

