/- linkboyref28.Parse, what stands behind the outer head. -/
import Derived.Test.YtfoehgcamkmooaaDoorHeadR
import Derived.Deep.DeepCutAuto
namespace Go.Proofs.YtfoehgcamkmooaaDoor.Head
open Go.RowKit Go.Proofs.YtfoehgcamkmooaaDoor.Mem Go.Proofs.YtfoehgcamkmooaaDoor.Num Go.Proofs.YtfoehgcamkmooaaDoor.Err
open Go.Proofs.YtfoehgcamkmooaaDoor.Addr hiding below_allocd
open Go.Proofs.YtfoehgcamkmooaaDoor.Sums Go.Proofs.YtfoehgcamkmooaaDoor.SumsP Go.Proofs.YtfoehgcamkmooaaDoor.Pseudo
set_option linter.unusedVariables false
set_option linter.unusedSimpArgs false
set_option maxRecDepth 100000
attribute [-go_sem] Builtin.append_ loadCells loadCellsFrom storeCells
set_option maxHeartbeats 16000000 in
theorem restbad_wp (l : List UInt8) (w wc : World) (ad : Addr) (c : Nat) (H : Hd) (R : Nat) (x : UInt8) (hl : l.length ≤ 300) (hc : l.length ≤ c) (hm : c ≤ 9223372036854775807) (hv : ∀ W, Below w.heap.size w W → Row eU8 W (.slice (some ad) l.length c) l)
    (h46 : (x.toNat : Int) / 16 = 4 ∧ verN l = 4 ∨ (x.toNat : Int) / 16 = 6 ∧ ¬ verN l = 4) (hR : R = if midR l ≠ 0 then midR l else if (midH l).pr ≠ 6 ∧ (midH l).pr ≠ 17 then 17 else partR (midH l) (l.drop (midH l).pt.toNat))
    (hH : H = if R = 0 then ownH (ptsH (midH l) (l.drop (midH l).pt.toNat)) (l.drop (midH l).pt.toNat) else hd0) (hcut : RCut w l wc) (hpr : (midH l).pr ≠ 6 ∧ (midH l).pr ≠ 17) (u1 u3 u7 u8 u9 u10 u11 u12 u13 u14 u15 u16 u17 u18 u19 u20 u21 u22 u23 u24 u25 u26 u27 u28 u29 u30 u31 u32 u33 u34 u35 u36 u37 u38 u39 u40 u41 u42 u43 u44 u45 u46 u47 u48 u49 u50 u51 u52 u53 u54 u55 u56 u57 u58 u59 u60 u61 u62 u63 u64 u65 u66 u67 u68 u69 u70 u71 u72 u73 u74 u75 u76 u77 u78 u79 u80 u81 u82 u83 u84 u85 u86 u87 u88 u89 u90 u91 u92 u93 u94 u95 u96 u97 u98 u99 u100 u101 u102 u103 u104 u105 u106 u107 u108 u109 u110 u111 u112 u113 u114 u115 u116 u117 u118 u119 u120 u121 u122 u123 u124 u125 u126 u127 u128 u129 u130 u131 u132 u133 u134 u135 u136 u137 u138 u139 u140 u141 u142 u143 u144 u145 u146 u147 u148 u149 u150 u151 u152 u153 u154 u155 u156 u157 u158 u159 u160 u161 u162 u163 u164 u165 u166 u167 u168 u169 u170 u171 u172 u173 u174 u175 u176 u177 u178 u179 u180 u181 u182 u183 u184 u185 u186 u187 u188 u189 u190 u191 u192 u193 u194 u195 u196 u197 u198 u199 u200 u201 u202 u203 u204 u205 u206 u207 u208 u209 u210 u211 u212 u213 u214 u215 u216 u217 u218 u219 u220 u221 u222 u223 u224 u225 u226 u227 u228 u229 u230 : Value) :
    Code.wp Tryd.prog restC (bodyPost Tryd.prog Tryd.f12 fun e w' => e = .returned (.tuple #[.agg (hdA H), .int .i64 (R : Int)]) ∧ Below w.heap.size w w') ⟨#[.slice (some ad) l.length c, u1, .pointer (some ⟨w.heap.size, 0, none⟩), u3, .pointer (some ⟨w.heap.size + 1, 0, none⟩), .int .i64 ((x.toNat : Int) / 16), .pointer (some ⟨w.heap.size + 2, 0, none⟩), u7, u8, u9, u10, u11, u12, u13, u14, u15, u16, u17, u18, u19, u20, u21, u22, u23, u24, u25, u26, u27, u28, u29, u30, u31, u32, u33, u34, u35, u36, u37, u38, u39, u40, u41, u42, u43, u44, u45, u46, u47, u48, u49, u50, u51, u52, u53, u54, u55, u56, u57, u58, u59, u60, u61, u62, u63, u64, u65, u66, u67, u68, u69, u70, u71, u72, u73, u74, u75, u76, u77, u78, u79, u80, u81, u82, u83, u84, u85, u86, u87, u88, u89, u90, u91, u92, u93, u94, u95, u96, u97, u98, u99, u100, u101, u102, u103, u104, u105, u106, u107, u108, u109, u110, u111, u112, u113, u114, u115, u116, u117, u118, u119, u120, u121, u122, u123, u124, u125, u126, u127, u128, u129, u130, u131, u132, u133, u134, u135, u136, u137, u138, u139, u140, u141, u142, u143, u144, u145, u146, u147, u148, u149, u150, u151, u152, u153, u154, u155, u156, u157, u158, u159, u160, u161, u162, u163, u164, u165, u166, u167, u168, u169, u170, u171, u172, u173, u174, u175, u176, u177, u178, u179, u180, u181, u182, u183, u184, u185, u186, u187, u188, u189, u190, u191, u192, u193, u194, u195, u196, u197, u198, u199, u200, u201, u202, u203, u204, u205, u206, u207, u208, u209, u210, u211, u212, u213, u214, u215, u216, u217, u218, u219, u220, u221, u222, u223, u224, u225, u226, u227, u228, u229, u230], []⟩ wc := by
  have HRS := Lib.hid hv
  have H46 := Lib.hid h46
  have HRe := Lib.hid hR
  have HHe := Lib.hid hH
  have hmidH : Hid (R ≠ 0 → H = hd0) := Lib.hid (fun e => by rw [HHe.out, if_neg e])
  have HSST : Hid (∀ b W, Blk b hd0.cells 36 W → (storeCells ⟨b, 0, none⟩ [.int .i64 0, .bool false, .int .u8 0, .int .u8 0, .int .u8 0, .int .u8 0, .int .u8 0, .int .u8 0, .int .u8 0, .int .u8 0, .int .u8 0, .int .u8 0, .int .u8 0, .int .u8 0, .int .u8 0, .int .u8 0, .int .u8 0, .int .u8 0, .int .i64 0, .bool false, .int .u8 0, .int .u8 0, .int .u8 0, .int .u8 0, .int .u8 0, .int .u8 0, .int .u8 0, .int .u8 0, .int .u8 0, .int .u8 0, .int .u8 0, .int .u8 0, .int .u8 0, .int .u8 0, .int .u8 0, .int .u8 0, .int .i64 0, .int .i64 0, .int .i64 0, .int .i64 0]).run Tryd.prog W = .ok () W) := Lib.hid (fun b W hW => store_same hW hd0.one)
  have HLLD : Hid (∀ b W, Blk b hd0.cells 36 W → (loadCells ⟨b, 0, none⟩ 40).run Tryd.prog W = .ok ([.int .i64 0, .bool false, .int .u8 0, .int .u8 0, .int .u8 0, .int .u8 0, .int .u8 0, .int .u8 0, .int .u8 0, .int .u8 0, .int .u8 0, .int .u8 0, .int .u8 0, .int .u8 0, .int .u8 0, .int .u8 0, .int .u8 0, .int .u8 0, .int .i64 0, .bool false, .int .u8 0, .int .u8 0, .int .u8 0, .int .u8 0, .int .u8 0, .int .u8 0, .int .u8 0, .int .u8 0, .int .u8 0, .int .u8 0, .int .u8 0, .int .u8 0, .int .u8 0, .int .u8 0, .int .u8 0, .int .u8 0, .int .i64 0, .int .i64 0, .int .i64 0, .int .i64 0] : List Value).toArray W) := Lib.hid (fun b W hW => hW.load 0 40 [.int .i64 0, .bool false, .int .u8 0, .int .u8 0, .int .u8 0, .int .u8 0, .int .u8 0, .int .u8 0, .int .u8 0, .int .u8 0, .int .u8 0, .int .u8 0, .int .u8 0, .int .u8 0, .int .u8 0, .int .u8 0, .int .u8 0, .int .u8 0, .int .i64 0, .bool false, .int .u8 0, .int .u8 0, .int .u8 0, .int .u8 0, .int .u8 0, .int .u8 0, .int .u8 0, .int .u8 0, .int .u8 0, .int .u8 0, .int .u8 0, .int .u8 0, .int .u8 0, .int .u8 0, .int .u8 0, .int .u8 0, .int .i64 0, .int .i64 0, .int .i64 0, .int .i64 0] rfl rfl)
  have hxb : (x.toNat : Int) < 256 := by have := x.toNat_lt; omega
  clear hv h46 hR hH
  obtain ⟨hm0, c0, c1, ch, cb⟩ := hcut
  have HR1 : R = if (midH l).pr ≠ 6 ∧ (midH l).pr ≠ 17 then 17 else partR (midH l) (l.drop (midH l).pt.toNat) := HRe.out.trans (if_neg (fun e => e hm0))
  obtain ⟨p, hpt, hpl, hp60⟩ := midH_pt l hm0
  have HH6 := Lib.hid (midH_six l)
  have HHQ0 := HHe.out
  have HC0c := Lib.hid c0
  have HC1c := Lib.hid c1
  have HCB := Lib.hid cb
  have HCH := Lib.hid ch
  clear hm0 c0 c1 ch cb
  generalize midH l = h at HR1 hpt HH6 HHQ0 HCH hpr
  have HPT2 := Lib.hid hpt
  have hc38 : wc.cell? ⟨w.heap.size + 2, 38, none⟩ = some (.int .i64 (p : Int)) := by rw [← hpt]; exact HCH.out.vals.2.2.2.2.2.1
  obtain ⟨A1, _, _, z3, z4⟩ := Row.cutS (P := Tryd.prog) (fun W => Below w.heap.size w W) 22 5 Tryd.underlying22 infoU8 HRS.out (Below.refl _ _) p l.length hpl (Nat.le_refl _)
  have zs : ∀ W, (Instr.slice 22 (.slice (some ad) l.length c) (some (.int .i64 (p : Int))) none none).run Tryd.prog W = .ok (.slice A1 (l.length - p) (c - p)) W := fun W => z3 rfl W .i64
  have HZ : Hid (∀ W, Below w.heap.size w W → Row eU8 W (.slice A1 (l.length - p) (c - p)) (l.drop p)) := Lib.hid (fun W hW => by
    have := z4 W hW
    rw [List.take_length] at this
    exact this)
  have hqe : l.drop h.pt.toNat = l.drop p := by rw [hpt]; rfl
  have HQL : Hid ((l.drop p).length = l.length - p) := Lib.hid List.length_drop
  have hpl' : (p : Int) ≤ (l.length : Int) := by omega
  have hp60' : (p : Int) ≤ 60 := by omega
  have HRR : Hid (R = 17) := Lib.hid (HR1.trans (if_pos hpr))
  have hc0 : wc.cell? ⟨w.heap.size + 2, 0, none⟩ = some (.int .i64 h.pr) := HCH.out.vals.1
  have n6 : (h.pr != 6) = true := bne_iff_ne.mpr hpr.1
  have n17 : (h.pr != 17) = true := bne_iff_ne.mpr hpr.2
  clear hpr HR1 HHQ0 hpt hqe z3 z4
  unfold restC
  conv => arg 2; whnf
  have ld1 : (loadCells ⟨w.heap.size + 1, 0, none⟩ 40).run Tryd.prog wc = .ok ([.int .i64 0, .bool false, .int .u8 0, .int .u8 0, .int .u8 0, .int .u8 0, .int .u8 0, .int .u8 0, .int .u8 0, .int .u8 0, .int .u8 0, .int .u8 0, .int .u8 0, .int .u8 0, .int .u8 0, .int .u8 0, .int .u8 0, .int .u8 0, .int .i64 0, .bool false, .int .u8 0, .int .u8 0, .int .u8 0, .int .u8 0, .int .u8 0, .int .u8 0, .int .u8 0, .int .u8 0, .int .u8 0, .int .u8 0, .int .u8 0, .int .u8 0, .int .u8 0, .int .u8 0, .int .u8 0, .int .u8 0, .int .i64 0, .int .i64 0, .int .i64 0, .int .i64 0] : List Value).toArray wc := HLLD.out _ _ (HC1c.out)
  have st0 : (storeCells ⟨w.heap.size, 0, none⟩ [.int .i64 0, .bool false, .int .u8 0, .int .u8 0, .int .u8 0, .int .u8 0, .int .u8 0, .int .u8 0, .int .u8 0, .int .u8 0, .int .u8 0, .int .u8 0, .int .u8 0, .int .u8 0, .int .u8 0, .int .u8 0, .int .u8 0, .int .u8 0, .int .i64 0, .bool false, .int .u8 0, .int .u8 0, .int .u8 0, .int .u8 0, .int .u8 0, .int .u8 0, .int .u8 0, .int .u8 0, .int .u8 0, .int .u8 0, .int .u8 0, .int .u8 0, .int .u8 0, .int .u8 0, .int .u8 0, .int .u8 0, .int .i64 0, .int .i64 0, .int .i64 0, .int .i64 0]).run Tryd.prog wc = .ok () wc := HSST.out _ _ (HC0c.out)
  have ld0 : (loadCells ⟨w.heap.size, 0, none⟩ 40).run Tryd.prog wc = .ok ([.int .i64 0, .bool false, .int .u8 0, .int .u8 0, .int .u8 0, .int .u8 0, .int .u8 0, .int .u8 0, .int .u8 0, .int .u8 0, .int .u8 0, .int .u8 0, .int .u8 0, .int .u8 0, .int .u8 0, .int .u8 0, .int .u8 0, .int .u8 0, .int .i64 0, .bool false, .int .u8 0, .int .u8 0, .int .u8 0, .int .u8 0, .int .u8 0, .int .u8 0, .int .u8 0, .int .u8 0, .int .u8 0, .int .u8 0, .int .u8 0, .int .u8 0, .int .u8 0, .int .u8 0, .int .u8 0, .int .u8 0, .int .i64 0, .int .i64 0, .int .i64 0, .int .i64 0] : List Value).toArray wc := HLLD.out _ _ (HC0c.out)
  go_upto_region 27 with (fail)
  iterate 14 (first | go_values | go_skip | go_guarded | go_step | go_upon | go_back)
  first | exact bodyPost_ret (v := .tuple #[.agg ([.int .i64 0, .bool false, .int .u8 0, .int .u8 0, .int .u8 0, .int .u8 0, .int .u8 0, .int .u8 0, .int .u8 0, .int .u8 0, .int .u8 0, .int .u8 0, .int .u8 0, .int .u8 0, .int .u8 0, .int .u8 0, .int .u8 0, .int .u8 0, .int .i64 0, .bool false, .int .u8 0, .int .u8 0, .int .u8 0, .int .u8 0, .int .u8 0, .int .u8 0, .int .u8 0, .int .u8 0, .int .u8 0, .int .u8 0, .int .u8 0, .int .u8 0, .int .u8 0, .int .u8 0, .int .u8 0, .int .u8 0, .int .i64 0, .int .i64 0, .int .i64 0, .int .i64 0] : List Value).toArray, .int .i64 17]) (by simp [results, Tryd.results12, go_sem, ld0]) rfl ⟨out_bad H R 17 (hmidH.out (by rw [HRR.out]; decide)) HRR.out, HCB.out⟩ | (go_step; exact bodyPost_ret (v := .tuple #[.agg ([.int .i64 0, .bool false, .int .u8 0, .int .u8 0, .int .u8 0, .int .u8 0, .int .u8 0, .int .u8 0, .int .u8 0, .int .u8 0, .int .u8 0, .int .u8 0, .int .u8 0, .int .u8 0, .int .u8 0, .int .u8 0, .int .u8 0, .int .u8 0, .int .i64 0, .bool false, .int .u8 0, .int .u8 0, .int .u8 0, .int .u8 0, .int .u8 0, .int .u8 0, .int .u8 0, .int .u8 0, .int .u8 0, .int .u8 0, .int .u8 0, .int .u8 0, .int .u8 0, .int .u8 0, .int .u8 0, .int .u8 0, .int .i64 0, .int .i64 0, .int .i64 0, .int .i64 0] : List Value).toArray, .int .i64 17]) (by simp [results, Tryd.results12, go_sem, ld0]) rfl ⟨out_bad H R 17 (hmidH.out (by rw [HRR.out]; decide)) HRR.out, HCB.out⟩)
end Go.Proofs.YtfoehgcamkmooaaDoor.Head
