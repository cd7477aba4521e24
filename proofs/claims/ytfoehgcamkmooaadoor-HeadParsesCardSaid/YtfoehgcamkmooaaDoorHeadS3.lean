/- linkboyref28.Parse, what stands behind the outer head. -/
import Derived.Test.YtfoehgcamkmooaaDoorHeadR
import Derived.Deep.DeepCutAuto
namespace Go.Proofs.YtfoehgcamkmooaaDoor.Head
open Go.RowKit Go.Proofs.YtfoehgcamkmooaaDoor.Mem Go.Proofs.YtfoehgcamkmooaaDoor.Num Go.Proofs.YtfoehgcamkmooaaDoor.Err
open Go.Proofs.YtfoehgcamkmooaaDoor.Addr hiding below_allocd
open Go.Proofs.YtfoehgcamkmooaaDoor.Sums Go.Proofs.YtfoehgcamkmooaaDoor.SumsP Go.Proofs.YtfoehgcamkmooaaDoor.Pseudo
set_option linter.unusedVariables false
set_option linter.unusedSimpArgs false
set_option maxRecDepth 100000
attribute [-go_sem] Builtin.append_ loadCells loadCellsFrom storeCells
set_option maxHeartbeats 16000000 in
theorem rest17_wp (l : List UInt8) (w wc : World) (ad : Addr) (c : Nat) (H : Hd) (R : Nat) (x : UInt8) (hl : l.length ≤ 300) (hc : l.length ≤ c) (hm : c ≤ 9223372036854775807) (hv : ∀ W, Below w.heap.size w W → Row eU8 W (.slice (some ad) l.length c) l)
    (h46 : (x.toNat : Int) / 16 = 4 ∧ verN l = 4 ∨ (x.toNat : Int) / 16 = 6 ∧ ¬ verN l = 4) (hR : R = if midR l ≠ 0 then midR l else if (midH l).pr ≠ 6 ∧ (midH l).pr ≠ 17 then 17 else partR (midH l) (l.drop (midH l).pt.toNat))
    (hH : H = if R = 0 then ownH (ptsH (midH l) (l.drop (midH l).pt.toNat)) (l.drop (midH l).pt.toNat) else hd0) (hcut : RCut w l wc) (hpr : (midH l).pr = 17) (u1 u3 u7 u8 u9 u10 u11 u12 u13 u14 u15 u16 u17 u18 u19 u20 u21 u22 u23 u24 u25 u26 u27 u28 u29 u30 u31 u32 u33 u34 u35 u36 u37 u38 u39 u40 u41 u42 u43 u44 u45 u46 u47 u48 u49 u50 u51 u52 u53 u54 u55 u56 u57 u58 u59 u60 u61 u62 u63 u64 u65 u66 u67 u68 u69 u70 u71 u72 u73 u74 u75 u76 u77 u78 u79 u80 u81 u82 u83 u84 u85 u86 u87 u88 u89 u90 u91 u92 u93 u94 u95 u96 u97 u98 u99 u100 u101 u102 u103 u104 u105 u106 u107 u108 u109 u110 u111 u112 u113 u114 u115 u116 u117 u118 u119 u120 u121 u122 u123 u124 u125 u126 u127 u128 u129 u130 u131 u132 u133 u134 u135 u136 u137 u138 u139 u140 u141 u142 u143 u144 u145 u146 u147 u148 u149 u150 u151 u152 u153 u154 u155 u156 u157 u158 u159 u160 u161 u162 u163 u164 u165 u166 u167 u168 u169 u170 u171 u172 u173 u174 u175 u176 u177 u178 u179 u180 u181 u182 u183 u184 u185 u186 u187 u188 u189 u190 u191 u192 u193 u194 u195 u196 u197 u198 u199 u200 u201 u202 u203 u204 u205 u206 u207 u208 u209 u210 u211 u212 u213 u214 u215 u216 u217 u218 u219 u220 u221 u222 u223 u224 u225 u226 u227 u228 u229 u230 : Value) :
    Code.wp Tryd.prog restC (bodyPost Tryd.prog Tryd.f12 fun e w' => e = .returned (.tuple #[.agg (hdA H), .int .i64 (R : Int)]) ∧ Below w.heap.size w w') ⟨#[.slice (some ad) l.length c, u1, .pointer (some ⟨w.heap.size, 0, none⟩), u3, .pointer (some ⟨w.heap.size + 1, 0, none⟩), .int .i64 ((x.toNat : Int) / 16), .pointer (some ⟨w.heap.size + 2, 0, none⟩), u7, u8, u9, u10, u11, u12, u13, u14, u15, u16, u17, u18, u19, u20, u21, u22, u23, u24, u25, u26, u27, u28, u29, u30, u31, u32, u33, u34, u35, u36, u37, u38, u39, u40, u41, u42, u43, u44, u45, u46, u47, u48, u49, u50, u51, u52, u53, u54, u55, u56, u57, u58, u59, u60, u61, u62, u63, u64, u65, u66, u67, u68, u69, u70, u71, u72, u73, u74, u75, u76, u77, u78, u79, u80, u81, u82, u83, u84, u85, u86, u87, u88, u89, u90, u91, u92, u93, u94, u95, u96, u97, u98, u99, u100, u101, u102, u103, u104, u105, u106, u107, u108, u109, u110, u111, u112, u113, u114, u115, u116, u117, u118, u119, u120, u121, u122, u123, u124, u125, u126, u127, u128, u129, u130, u131, u132, u133, u134, u135, u136, u137, u138, u139, u140, u141, u142, u143, u144, u145, u146, u147, u148, u149, u150, u151, u152, u153, u154, u155, u156, u157, u158, u159, u160, u161, u162, u163, u164, u165, u166, u167, u168, u169, u170, u171, u172, u173, u174, u175, u176, u177, u178, u179, u180, u181, u182, u183, u184, u185, u186, u187, u188, u189, u190, u191, u192, u193, u194, u195, u196, u197, u198, u199, u200, u201, u202, u203, u204, u205, u206, u207, u208, u209, u210, u211, u212, u213, u214, u215, u216, u217, u218, u219, u220, u221, u222, u223, u224, u225, u226, u227, u228, u229, u230], []⟩ wc := by
  have HRS := Lib.hid hv
  have H46 := Lib.hid h46
  have HRe := Lib.hid hR
  have HHe := Lib.hid hH
  have hmidH : Hid (R ≠ 0 → H = hd0) := Lib.hid (fun e => by rw [HHe.out, if_neg e])
  have HSST : Hid (∀ b W, Blk b hd0.cells 36 W → (storeCells ⟨b, 0, none⟩ [.int .i64 0, .bool false, .int .u8 0, .int .u8 0, .int .u8 0, .int .u8 0, .int .u8 0, .int .u8 0, .int .u8 0, .int .u8 0, .int .u8 0, .int .u8 0, .int .u8 0, .int .u8 0, .int .u8 0, .int .u8 0, .int .u8 0, .int .u8 0, .int .i64 0, .bool false, .int .u8 0, .int .u8 0, .int .u8 0, .int .u8 0, .int .u8 0, .int .u8 0, .int .u8 0, .int .u8 0, .int .u8 0, .int .u8 0, .int .u8 0, .int .u8 0, .int .u8 0, .int .u8 0, .int .u8 0, .int .u8 0, .int .i64 0, .int .i64 0, .int .i64 0, .int .i64 0]).run Tryd.prog W = .ok () W) := Lib.hid (fun b W hW => store_same hW hd0.one)
  have HLLD : Hid (∀ b W, Blk b hd0.cells 36 W → (loadCells ⟨b, 0, none⟩ 40).run Tryd.prog W = .ok ([.int .i64 0, .bool false, .int .u8 0, .int .u8 0, .int .u8 0, .int .u8 0, .int .u8 0, .int .u8 0, .int .u8 0, .int .u8 0, .int .u8 0, .int .u8 0, .int .u8 0, .int .u8 0, .int .u8 0, .int .u8 0, .int .u8 0, .int .u8 0, .int .i64 0, .bool false, .int .u8 0, .int .u8 0, .int .u8 0, .int .u8 0, .int .u8 0, .int .u8 0, .int .u8 0, .int .u8 0, .int .u8 0, .int .u8 0, .int .u8 0, .int .u8 0, .int .u8 0, .int .u8 0, .int .u8 0, .int .u8 0, .int .i64 0, .int .i64 0, .int .i64 0, .int .i64 0] : List Value).toArray W) := Lib.hid (fun b W hW => hW.load 0 40 [.int .i64 0, .bool false, .int .u8 0, .int .u8 0, .int .u8 0, .int .u8 0, .int .u8 0, .int .u8 0, .int .u8 0, .int .u8 0, .int .u8 0, .int .u8 0, .int .u8 0, .int .u8 0, .int .u8 0, .int .u8 0, .int .u8 0, .int .u8 0, .int .i64 0, .bool false, .int .u8 0, .int .u8 0, .int .u8 0, .int .u8 0, .int .u8 0, .int .u8 0, .int .u8 0, .int .u8 0, .int .u8 0, .int .u8 0, .int .u8 0, .int .u8 0, .int .u8 0, .int .u8 0, .int .u8 0, .int .u8 0, .int .i64 0, .int .i64 0, .int .i64 0, .int .i64 0] rfl rfl)
  have hxb : (x.toNat : Int) < 256 := by have := x.toNat_lt; omega
  clear hv h46 hR hH
  obtain ⟨hm0, c0, c1, ch, cb⟩ := hcut
  have HR1 : R = if (midH l).pr ≠ 6 ∧ (midH l).pr ≠ 17 then 17 else partR (midH l) (l.drop (midH l).pt.toNat) := HRe.out.trans (if_neg (fun e => e hm0))
  obtain ⟨p, hpt, hpl, hp60⟩ := midH_pt l hm0
  have HH6 := Lib.hid (midH_six l)
  have HHQ0 := HHe.out
  have HC0c := Lib.hid c0
  have HC1c := Lib.hid c1
  have HCB := Lib.hid cb
  have HCH := Lib.hid ch
  clear hm0 c0 c1 ch cb
  generalize midH l = h at HR1 hpt HH6 HHQ0 HCH hpr
  have HPT2 := Lib.hid hpt
  have hc38 : wc.cell? ⟨w.heap.size + 2, 38, none⟩ = some (.int .i64 (p : Int)) := by rw [← hpt]; exact HCH.out.vals.2.2.2.2.2.1
  obtain ⟨A1, _, _, z3, z4⟩ := Row.cutS (P := Tryd.prog) (fun W => Below w.heap.size w W) 22 5 Tryd.underlying22 infoU8 HRS.out (Below.refl _ _) p l.length hpl (Nat.le_refl _)
  have zs : ∀ W, (Instr.slice 22 (.slice (some ad) l.length c) (some (.int .i64 (p : Int))) none none).run Tryd.prog W = .ok (.slice A1 (l.length - p) (c - p)) W := fun W => z3 rfl W .i64
  have HZ : Hid (∀ W, Below w.heap.size w W → Row eU8 W (.slice A1 (l.length - p) (c - p)) (l.drop p)) := Lib.hid (fun W hW => by
    have := z4 W hW
    rw [List.take_length] at this
    exact this)
  have hqe : l.drop h.pt.toNat = l.drop p := by rw [hpt]; rfl
  have HQL : Hid ((l.drop p).length = l.length - p) := Lib.hid List.length_drop
  have hpl' : (p : Int) ≤ (l.length : Int) := by omega
  have hp60' : (p : Int) ≤ 60 := by omega
  have HR2 : Hid (R = partR h (l.drop p)) := Lib.hid (by rw [← hqe]; exact HR1.trans (if_neg (fun e => by omega)))
  have HHQ : Hid (H = (if R = 0 then ownH (ptsH h (l.drop p)) (l.drop p) else hd0)) := Lib.hid (by rw [← hqe]; exact HHQ0)
  have H6 := Lib.hid hpr
  clear HR1 HHQ0 hpt hqe z3 z4 hpr
  generalize l.drop p = q at HR2 HHQ HZ HQL
  have hnl : l.length - p ≤ 300 := by omega
  generalize l.length - p = n at HZ HQL zs hnl
  unfold restC
  conv => arg 2; whnf
  have hc0 : wc.cell? ⟨w.heap.size + 2, 0, none⟩ = some (.int .i64 17) := by rw [← H6.out]; exact HCH.out.vals.1
  by_cases hsh : n < 8
  · have hsh' : (n : Int) < 8 := by omega
    have HRR : Hid (R = 2) := Lib.hid (HR2.out.trans (by unfold partR; rw [H6.out, HQL.out]; exact if_pos hsh))
    clear hsh
    have ld1 : (loadCells ⟨w.heap.size + 1, 0, none⟩ 40).run Tryd.prog wc = .ok ([.int .i64 0, .bool false, .int .u8 0, .int .u8 0, .int .u8 0, .int .u8 0, .int .u8 0, .int .u8 0, .int .u8 0, .int .u8 0, .int .u8 0, .int .u8 0, .int .u8 0, .int .u8 0, .int .u8 0, .int .u8 0, .int .u8 0, .int .u8 0, .int .i64 0, .bool false, .int .u8 0, .int .u8 0, .int .u8 0, .int .u8 0, .int .u8 0, .int .u8 0, .int .u8 0, .int .u8 0, .int .u8 0, .int .u8 0, .int .u8 0, .int .u8 0, .int .u8 0, .int .u8 0, .int .u8 0, .int .u8 0, .int .i64 0, .int .i64 0, .int .i64 0, .int .i64 0] : List Value).toArray wc := HLLD.out _ _ (HC1c.out)
    have st0 : (storeCells ⟨w.heap.size, 0, none⟩ [.int .i64 0, .bool false, .int .u8 0, .int .u8 0, .int .u8 0, .int .u8 0, .int .u8 0, .int .u8 0, .int .u8 0, .int .u8 0, .int .u8 0, .int .u8 0, .int .u8 0, .int .u8 0, .int .u8 0, .int .u8 0, .int .u8 0, .int .u8 0, .int .i64 0, .bool false, .int .u8 0, .int .u8 0, .int .u8 0, .int .u8 0, .int .u8 0, .int .u8 0, .int .u8 0, .int .u8 0, .int .u8 0, .int .u8 0, .int .u8 0, .int .u8 0, .int .u8 0, .int .u8 0, .int .u8 0, .int .u8 0, .int .i64 0, .int .i64 0, .int .i64 0, .int .i64 0]).run Tryd.prog wc = .ok () wc := HSST.out _ _ (HC0c.out)
    have ld0 : (loadCells ⟨w.heap.size, 0, none⟩ 40).run Tryd.prog wc = .ok ([.int .i64 0, .bool false, .int .u8 0, .int .u8 0, .int .u8 0, .int .u8 0, .int .u8 0, .int .u8 0, .int .u8 0, .int .u8 0, .int .u8 0, .int .u8 0, .int .u8 0, .int .u8 0, .int .u8 0, .int .u8 0, .int .u8 0, .int .u8 0, .int .i64 0, .bool false, .int .u8 0, .int .u8 0, .int .u8 0, .int .u8 0, .int .u8 0, .int .u8 0, .int .u8 0, .int .u8 0, .int .u8 0, .int .u8 0, .int .u8 0, .int .u8 0, .int .u8 0, .int .u8 0, .int .u8 0, .int .u8 0, .int .i64 0, .int .i64 0, .int .i64 0, .int .i64 0] : List Value).toArray wc := HLLD.out _ _ (HC0c.out)
    go_upto_region 29 with (fail)
    iterate 14 (first | go_values | go_skip | go_guarded | go_step | go_upon | go_back)
    first | exact bodyPost_ret (v := .tuple #[.agg ([.int .i64 0, .bool false, .int .u8 0, .int .u8 0, .int .u8 0, .int .u8 0, .int .u8 0, .int .u8 0, .int .u8 0, .int .u8 0, .int .u8 0, .int .u8 0, .int .u8 0, .int .u8 0, .int .u8 0, .int .u8 0, .int .u8 0, .int .u8 0, .int .i64 0, .bool false, .int .u8 0, .int .u8 0, .int .u8 0, .int .u8 0, .int .u8 0, .int .u8 0, .int .u8 0, .int .u8 0, .int .u8 0, .int .u8 0, .int .u8 0, .int .u8 0, .int .u8 0, .int .u8 0, .int .u8 0, .int .u8 0, .int .i64 0, .int .i64 0, .int .i64 0, .int .i64 0] : List Value).toArray, .int .i64 2]) (by simp [results, Tryd.results12, go_sem, ld0]) rfl ⟨out_bad H R 2 (hmidH.out (by rw [HRR.out]; decide)) HRR.out, HCB.out⟩ | (go_step; exact bodyPost_ret (v := .tuple #[.agg ([.int .i64 0, .bool false, .int .u8 0, .int .u8 0, .int .u8 0, .int .u8 0, .int .u8 0, .int .u8 0, .int .u8 0, .int .u8 0, .int .u8 0, .int .u8 0, .int .u8 0, .int .u8 0, .int .u8 0, .int .u8 0, .int .u8 0, .int .u8 0, .int .i64 0, .bool false, .int .u8 0, .int .u8 0, .int .u8 0, .int .u8 0, .int .u8 0, .int .u8 0, .int .u8 0, .int .u8 0, .int .u8 0, .int .u8 0, .int .u8 0, .int .u8 0, .int .u8 0, .int .u8 0, .int .u8 0, .int .u8 0, .int .i64 0, .int .i64 0, .int .i64 0, .int .i64 0] : List Value).toArray, .int .i64 2]) (by simp [results, Tryd.results12, go_sem, ld0]) rfl ⟨out_bad H R 2 (hmidH.out (by rw [HRR.out]; decide)) HRR.out, HCB.out⟩)
  have HRP := Lib.hid (HR2.out.trans (partR_long h q n 8 (by rw [H6.out]; rfl) HQL.out hsh))
  have hsh' : ¬ (n : Int) < 8 := by omega
  have hsh8 : ¬ (n : Int) < 8 := by omega
  have KP0 := Lib.hid (fun W hv => pair2_calls (.slice A1 n (c - p)) q 0 0 W hv rfl (by have := HQL.out; omega) (by have := HQL.out; omega))
  have KP2 := Lib.hid (fun W hv => pair2_calls (.slice A1 n (c - p)) q 2 2 W hv rfl (by have := HQL.out; omega) (by have := HQL.out; omega))
  have HST := Lib.hid (ports_store (w.heap.size + 2) h 36 q)
  have KP4 := Lib.hid (fun W hv => pair2_calls (.slice A1 n (c - p)) q 4 4 W hv rfl (by have := HQL.out; omega) (by have := HQL.out; omega))
  go_upto_region 32 with (first
    | (go_at_call 33; ((with_reducible refine (KP0.out _ (HZ.out _ HCB.out)).mono ?_); rintro e w4 ⟨rfl, n1, rfl⟩))
    | (go_at_call 33; ((with_reducible refine (KP2.out _ (HZ.out _ (below_drewN HCB.out n1))).mono ?_); rintro e w5 ⟨rfl, n2, rfl⟩; obtain ⟨w6, w7, s6, s7, k7, a7⟩ := HST.out (wc.drewN (n1 + n2)) (Blk.drewN HCH.out (n1 + n2)); have HB7 : Hid (Below w.heap.size w w7) := Lib.hid (below_alt (below_drewN HCB.out (n1 + n2)) a7 HCB.out.size (fun k hk => by omega)); have HZ07 := Lib.hid ((HC0c.out.drewN (n1 + n2)).alt a7 (by omega)); have HZ17 := Lib.hid ((HC1c.out.drewN (n1 + n2)).alt a7 (by omega)); have HK7 := Lib.hid k7; clear k7 a7)))
  clear hc0 hc38
  have d0 : w7.cell? ⟨w.heap.size + 2, 0, none⟩ = some (.int .i64 17) := by rw [← H6.out]; exact HK7.out.vals.1
  have d38 : w7.cell? ⟨w.heap.size + 2, 38, none⟩ = some (.int .i64 (p : Int)) := by rw [← HPT2.out]; exact HK7.out.vals.2.2.2.2.2.1
  have HO6 := Lib.hid (ownR17 h q H6.out)
  have HH0 := Lib.hid (ownH17 h q H6.out)
  have hG0 : ∃ g, g = ownH (ptsH h q) q := ⟨_, rfl⟩
  obtain ⟨g, hg⟩ := hG0
  have HG := Lib.hid hg
  have HBD : Hid (∀ W, HBlk (w.heap.size + 2) (ptsH h q) 36 W → ∃ w1, (storeCells ⟨w.heap.size + 2, 39, none⟩ [.int .i64 ((p : Int) + 8)]).run Tryd.prog W = .ok () w1 ∧ HBlk (w.heap.size + 2) g 36 w1 ∧ Alt (fun k => k = w.heap.size + 2) W w1) := Lib.hid (fun W hW => by
    obtain ⟨w1, s1, k1, a1⟩ := bd_store _ _ 36 ((p : Int) + 8) W hW
    refine ⟨w1, s1, ?_, a1⟩
    rw [HG.out, HH0.out, HPT2.out]
    exact k1)
  clear hg
  by_cases hown : twoN q 4 ≠ n
  · have HRR : Hid (R = 4) := Lib.hid (by
      have e : ownR h q = 4 := by rw [HO6.out, HQL.out]; exact if_pos hown
      rw [HRP.out, e]; rfl)
    have q1 : (((twoN q 4 : Nat) : Int) != (n : Int)) = true := bne_iff_ne.mpr (by omega)
    clear hown
    have ld1 : ∀ n : Nat, (loadCells ⟨w.heap.size + 1, 0, none⟩ 40).run Tryd.prog (w7.drewN n) = .ok ([.int .i64 0, .bool false, .int .u8 0, .int .u8 0, .int .u8 0, .int .u8 0, .int .u8 0, .int .u8 0, .int .u8 0, .int .u8 0, .int .u8 0, .int .u8 0, .int .u8 0, .int .u8 0, .int .u8 0, .int .u8 0, .int .u8 0, .int .u8 0, .int .i64 0, .bool false, .int .u8 0, .int .u8 0, .int .u8 0, .int .u8 0, .int .u8 0, .int .u8 0, .int .u8 0, .int .u8 0, .int .u8 0, .int .u8 0, .int .u8 0, .int .u8 0, .int .u8 0, .int .u8 0, .int .u8 0, .int .u8 0, .int .i64 0, .int .i64 0, .int .i64 0, .int .i64 0] : List Value).toArray (w7.drewN n) := fun n => HLLD.out _ _ (HZ17.out.drewN n)
    have st0 : ∀ n : Nat, (storeCells ⟨w.heap.size, 0, none⟩ [.int .i64 0, .bool false, .int .u8 0, .int .u8 0, .int .u8 0, .int .u8 0, .int .u8 0, .int .u8 0, .int .u8 0, .int .u8 0, .int .u8 0, .int .u8 0, .int .u8 0, .int .u8 0, .int .u8 0, .int .u8 0, .int .u8 0, .int .u8 0, .int .i64 0, .bool false, .int .u8 0, .int .u8 0, .int .u8 0, .int .u8 0, .int .u8 0, .int .u8 0, .int .u8 0, .int .u8 0, .int .u8 0, .int .u8 0, .int .u8 0, .int .u8 0, .int .u8 0, .int .u8 0, .int .u8 0, .int .u8 0, .int .i64 0, .int .i64 0, .int .i64 0, .int .i64 0]).run Tryd.prog (w7.drewN n) = .ok () (w7.drewN n) := fun n => HSST.out _ _ (HZ07.out.drewN n)
    have ld0 : ∀ n : Nat, (loadCells ⟨w.heap.size, 0, none⟩ 40).run Tryd.prog (w7.drewN n) = .ok ([.int .i64 0, .bool false, .int .u8 0, .int .u8 0, .int .u8 0, .int .u8 0, .int .u8 0, .int .u8 0, .int .u8 0, .int .u8 0, .int .u8 0, .int .u8 0, .int .u8 0, .int .u8 0, .int .u8 0, .int .u8 0, .int .u8 0, .int .u8 0, .int .i64 0, .bool false, .int .u8 0, .int .u8 0, .int .u8 0, .int .u8 0, .int .u8 0, .int .u8 0, .int .u8 0, .int .u8 0, .int .u8 0, .int .u8 0, .int .u8 0, .int .u8 0, .int .u8 0, .int .u8 0, .int .u8 0, .int .u8 0, .int .i64 0, .int .i64 0, .int .i64 0, .int .i64 0] : List Value).toArray (w7.drewN n) := fun n => HLLD.out _ _ (HZ07.out.drewN n)
    go_upto_region 38 with (go_at_call 33; ((with_reducible refine (KP4.out _ (HZ.out _ HB7.out)).mono ?_); rintro e w8 ⟨rfl, n4, rfl⟩))
    iterate 14 (first | go_values | go_skip | go_guarded | go_step | go_upon | go_back)
    first | exact bodyPost_ret (v := .tuple #[.agg ([.int .i64 0, .bool false, .int .u8 0, .int .u8 0, .int .u8 0, .int .u8 0, .int .u8 0, .int .u8 0, .int .u8 0, .int .u8 0, .int .u8 0, .int .u8 0, .int .u8 0, .int .u8 0, .int .u8 0, .int .u8 0, .int .u8 0, .int .u8 0, .int .i64 0, .bool false, .int .u8 0, .int .u8 0, .int .u8 0, .int .u8 0, .int .u8 0, .int .u8 0, .int .u8 0, .int .u8 0, .int .u8 0, .int .u8 0, .int .u8 0, .int .u8 0, .int .u8 0, .int .u8 0, .int .u8 0, .int .u8 0, .int .i64 0, .int .i64 0, .int .i64 0, .int .i64 0] : List Value).toArray, .int .i64 4]) (by simp [results, Tryd.results12, go_sem, ld0]) rfl ⟨out_bad H R 4 (hmidH.out (by rw [HRR.out]; decide)) HRR.out, below_drewN HB7.out _⟩ | (go_step; exact bodyPost_ret (v := .tuple #[.agg ([.int .i64 0, .bool false, .int .u8 0, .int .u8 0, .int .u8 0, .int .u8 0, .int .u8 0, .int .u8 0, .int .u8 0, .int .u8 0, .int .u8 0, .int .u8 0, .int .u8 0, .int .u8 0, .int .u8 0, .int .u8 0, .int .u8 0, .int .u8 0, .int .i64 0, .bool false, .int .u8 0, .int .u8 0, .int .u8 0, .int .u8 0, .int .u8 0, .int .u8 0, .int .u8 0, .int .u8 0, .int .u8 0, .int .u8 0, .int .u8 0, .int .u8 0, .int .u8 0, .int .u8 0, .int .u8 0, .int .u8 0, .int .i64 0, .int .i64 0, .int .i64 0, .int .i64 0] : List Value).toArray, .int .i64 4]) (by simp [results, Tryd.results12, go_sem, ld0]) rfl ⟨out_bad H R 4 (hmidH.out (by rw [HRR.out]; decide)) HRR.out, below_drewN HB7.out _⟩)
  have HO0 : Hid (ownR h q = 0) := Lib.hid (by rw [HO6.out, HQL.out]; exact if_neg hown)
  have q1 : (((twoN q 4 : Nat) : Int) != (n : Int)) = false := by simp; omega
  clear hown
  go_upto_region 39 with (go_at_call 33; ((with_reducible refine (KP4.out _ (HZ.out _ HB7.out)).mono ?_); rintro e w8 ⟨rfl, n4, rfl⟩))
  obtain ⟨w9, s9, k9, a9⟩ := HBD.out (w7.drewN n4) (Blk.drewN HK7.out n4)
  have HB9 := Lib.hid (below_alt (below_drewN HB7.out n4) a9 HB7.out.size (fun k hk => by omega))
  have HZ09 := Lib.hid ((HZ07.out.drewN n4).alt a9 (by omega))
  have HZ19 := Lib.hid ((HZ17.out.drewN n4).alt a9 (by omega))
  have HK9 := Lib.hid k9
  have d38' : (w7.drewN n4).cell? ⟨w.heap.size + 2, 38, none⟩ = some (.int .i64 (p : Int)) := d38
  clear k9 a9
  go_upto_region 40 with (fail)
  clear d0 d38 d38' s9 s6 s7
  have HSP : Hid (g.sp = (twoN q 0 : Int) ∧ g.dp = (twoN q 2 : Int)) := Lib.hid (by rw [HG.out]; exact own_sp h q)
  have HPR : Hid (g.pr = 17) := Lib.hid (by rw [HG.out]; unfold ownH; split <;> exact H6.out)
  have HR9 : Hid (R = if twoN q 0 = 0 ∨ twoN q 2 = 0 then 4 else if sumB g q then 0 else 5) := Lib.hid (by rw [HRP.out, if_neg (by rw [HO0.out]; decide), HG.out])
  have HHG : Hid (R = 0 → H = g) := Lib.hid (fun e => by rw [HHQ.out, if_pos e, HG.out])
  have HS6 : Hid (g.s6 = !decide (verN l = 4)) := Lib.hid (by
    have e : (ownH (ptsH h q) q).s6 = h.s6 := by unfold ownH; split <;> rfl
    rw [HG.out, e, HH6.out])
  have b0 : w9.cell? ⟨w.heap.size + 2, 0, none⟩ = some (.int .i64 17) := by rw [← HPR.out]; exact HK9.out.vals.1
  have b18 : w9.cell? ⟨w.heap.size + 2, 18, none⟩ = some (.int .i64 (twoN q 0 : Int)) := by rw [← HSP.out.1]; exact HK9.out.vals.2.2.1
  have b36 : w9.cell? ⟨w.heap.size + 2, 36, none⟩ = some (.int .i64 (twoN q 2 : Int)) := by rw [← HSP.out.2]; exact HK9.out.vals.2.2.2.1
  by_cases hq0 : twoN q 0 = 0
  · have HRR : Hid (R = 4) := Lib.hid (HR9.out.trans (if_pos (.inl hq0)))
    have f0 : (((twoN q 0 : Nat) : Int) == 0) = true := by rw [hq0]; rfl
    clear hq0
    have ld1 : (loadCells ⟨w.heap.size + 1, 0, none⟩ 40).run Tryd.prog w9 = .ok ([.int .i64 0, .bool false, .int .u8 0, .int .u8 0, .int .u8 0, .int .u8 0, .int .u8 0, .int .u8 0, .int .u8 0, .int .u8 0, .int .u8 0, .int .u8 0, .int .u8 0, .int .u8 0, .int .u8 0, .int .u8 0, .int .u8 0, .int .u8 0, .int .i64 0, .bool false, .int .u8 0, .int .u8 0, .int .u8 0, .int .u8 0, .int .u8 0, .int .u8 0, .int .u8 0, .int .u8 0, .int .u8 0, .int .u8 0, .int .u8 0, .int .u8 0, .int .u8 0, .int .u8 0, .int .u8 0, .int .u8 0, .int .i64 0, .int .i64 0, .int .i64 0, .int .i64 0] : List Value).toArray w9 := HLLD.out _ _ (HZ19.out)
    have st0 : (storeCells ⟨w.heap.size, 0, none⟩ [.int .i64 0, .bool false, .int .u8 0, .int .u8 0, .int .u8 0, .int .u8 0, .int .u8 0, .int .u8 0, .int .u8 0, .int .u8 0, .int .u8 0, .int .u8 0, .int .u8 0, .int .u8 0, .int .u8 0, .int .u8 0, .int .u8 0, .int .u8 0, .int .i64 0, .bool false, .int .u8 0, .int .u8 0, .int .u8 0, .int .u8 0, .int .u8 0, .int .u8 0, .int .u8 0, .int .u8 0, .int .u8 0, .int .u8 0, .int .u8 0, .int .u8 0, .int .u8 0, .int .u8 0, .int .u8 0, .int .u8 0, .int .i64 0, .int .i64 0, .int .i64 0, .int .i64 0]).run Tryd.prog w9 = .ok () w9 := HSST.out _ _ (HZ09.out)
    have ld0 : (loadCells ⟨w.heap.size, 0, none⟩ 40).run Tryd.prog w9 = .ok ([.int .i64 0, .bool false, .int .u8 0, .int .u8 0, .int .u8 0, .int .u8 0, .int .u8 0, .int .u8 0, .int .u8 0, .int .u8 0, .int .u8 0, .int .u8 0, .int .u8 0, .int .u8 0, .int .u8 0, .int .u8 0, .int .u8 0, .int .u8 0, .int .i64 0, .bool false, .int .u8 0, .int .u8 0, .int .u8 0, .int .u8 0, .int .u8 0, .int .u8 0, .int .u8 0, .int .u8 0, .int .u8 0, .int .u8 0, .int .u8 0, .int .u8 0, .int .u8 0, .int .u8 0, .int .u8 0, .int .u8 0, .int .i64 0, .int .i64 0, .int .i64 0, .int .i64 0] : List Value).toArray w9 := HLLD.out _ _ (HZ09.out)
    go_upto_region 41 with (fail)
    iterate 14 (first | go_values | go_skip | go_guarded | go_step | go_upon | go_back)
    first | exact bodyPost_ret (v := .tuple #[.agg ([.int .i64 0, .bool false, .int .u8 0, .int .u8 0, .int .u8 0, .int .u8 0, .int .u8 0, .int .u8 0, .int .u8 0, .int .u8 0, .int .u8 0, .int .u8 0, .int .u8 0, .int .u8 0, .int .u8 0, .int .u8 0, .int .u8 0, .int .u8 0, .int .i64 0, .bool false, .int .u8 0, .int .u8 0, .int .u8 0, .int .u8 0, .int .u8 0, .int .u8 0, .int .u8 0, .int .u8 0, .int .u8 0, .int .u8 0, .int .u8 0, .int .u8 0, .int .u8 0, .int .u8 0, .int .u8 0, .int .u8 0, .int .i64 0, .int .i64 0, .int .i64 0, .int .i64 0] : List Value).toArray, .int .i64 4]) (by simp [results, Tryd.results12, go_sem, ld0]) rfl ⟨out_bad H R 4 (hmidH.out (by rw [HRR.out]; decide)) HRR.out, HB9.out⟩ | (go_step; exact bodyPost_ret (v := .tuple #[.agg ([.int .i64 0, .bool false, .int .u8 0, .int .u8 0, .int .u8 0, .int .u8 0, .int .u8 0, .int .u8 0, .int .u8 0, .int .u8 0, .int .u8 0, .int .u8 0, .int .u8 0, .int .u8 0, .int .u8 0, .int .u8 0, .int .u8 0, .int .u8 0, .int .i64 0, .bool false, .int .u8 0, .int .u8 0, .int .u8 0, .int .u8 0, .int .u8 0, .int .u8 0, .int .u8 0, .int .u8 0, .int .u8 0, .int .u8 0, .int .u8 0, .int .u8 0, .int .u8 0, .int .u8 0, .int .u8 0, .int .u8 0, .int .i64 0, .int .i64 0, .int .i64 0, .int .i64 0] : List Value).toArray, .int .i64 4]) (by simp [results, Tryd.results12, go_sem, ld0]) rfl ⟨out_bad H R 4 (hmidH.out (by rw [HRR.out]; decide)) HRR.out, HB9.out⟩)
  have f0 : (((twoN q 0 : Nat) : Int) == 0) = false := beq_eq_false_iff_ne.mpr (by omega)
  by_cases hq2 : twoN q 2 = 0
  · have HRR : Hid (R = 4) := Lib.hid (HR9.out.trans (if_pos (.inr hq2)))
    have f2 : (((twoN q 2 : Nat) : Int) == 0) = true := by rw [hq2]; rfl
    clear hq0 hq2
    have ld1 : (loadCells ⟨w.heap.size + 1, 0, none⟩ 40).run Tryd.prog w9 = .ok ([.int .i64 0, .bool false, .int .u8 0, .int .u8 0, .int .u8 0, .int .u8 0, .int .u8 0, .int .u8 0, .int .u8 0, .int .u8 0, .int .u8 0, .int .u8 0, .int .u8 0, .int .u8 0, .int .u8 0, .int .u8 0, .int .u8 0, .int .u8 0, .int .i64 0, .bool false, .int .u8 0, .int .u8 0, .int .u8 0, .int .u8 0, .int .u8 0, .int .u8 0, .int .u8 0, .int .u8 0, .int .u8 0, .int .u8 0, .int .u8 0, .int .u8 0, .int .u8 0, .int .u8 0, .int .u8 0, .int .u8 0, .int .i64 0, .int .i64 0, .int .i64 0, .int .i64 0] : List Value).toArray w9 := HLLD.out _ _ (HZ19.out)
    have st0 : (storeCells ⟨w.heap.size, 0, none⟩ [.int .i64 0, .bool false, .int .u8 0, .int .u8 0, .int .u8 0, .int .u8 0, .int .u8 0, .int .u8 0, .int .u8 0, .int .u8 0, .int .u8 0, .int .u8 0, .int .u8 0, .int .u8 0, .int .u8 0, .int .u8 0, .int .u8 0, .int .u8 0, .int .i64 0, .bool false, .int .u8 0, .int .u8 0, .int .u8 0, .int .u8 0, .int .u8 0, .int .u8 0, .int .u8 0, .int .u8 0, .int .u8 0, .int .u8 0, .int .u8 0, .int .u8 0, .int .u8 0, .int .u8 0, .int .u8 0, .int .u8 0, .int .i64 0, .int .i64 0, .int .i64 0, .int .i64 0]).run Tryd.prog w9 = .ok () w9 := HSST.out _ _ (HZ09.out)
    have ld0 : (loadCells ⟨w.heap.size, 0, none⟩ 40).run Tryd.prog w9 = .ok ([.int .i64 0, .bool false, .int .u8 0, .int .u8 0, .int .u8 0, .int .u8 0, .int .u8 0, .int .u8 0, .int .u8 0, .int .u8 0, .int .u8 0, .int .u8 0, .int .u8 0, .int .u8 0, .int .u8 0, .int .u8 0, .int .u8 0, .int .u8 0, .int .i64 0, .bool false, .int .u8 0, .int .u8 0, .int .u8 0, .int .u8 0, .int .u8 0, .int .u8 0, .int .u8 0, .int .u8 0, .int .u8 0, .int .u8 0, .int .u8 0, .int .u8 0, .int .u8 0, .int .u8 0, .int .u8 0, .int .u8 0, .int .i64 0, .int .i64 0, .int .i64 0, .int .i64 0] : List Value).toArray w9 := HLLD.out _ _ (HZ09.out)
    go_upto_region 41 with (fail)
    iterate 14 (first | go_values | go_skip | go_guarded | go_step | go_upon | go_back)
    first | exact bodyPost_ret (v := .tuple #[.agg ([.int .i64 0, .bool false, .int .u8 0, .int .u8 0, .int .u8 0, .int .u8 0, .int .u8 0, .int .u8 0, .int .u8 0, .int .u8 0, .int .u8 0, .int .u8 0, .int .u8 0, .int .u8 0, .int .u8 0, .int .u8 0, .int .u8 0, .int .u8 0, .int .i64 0, .bool false, .int .u8 0, .int .u8 0, .int .u8 0, .int .u8 0, .int .u8 0, .int .u8 0, .int .u8 0, .int .u8 0, .int .u8 0, .int .u8 0, .int .u8 0, .int .u8 0, .int .u8 0, .int .u8 0, .int .u8 0, .int .u8 0, .int .i64 0, .int .i64 0, .int .i64 0, .int .i64 0] : List Value).toArray, .int .i64 4]) (by simp [results, Tryd.results12, go_sem, ld0]) rfl ⟨out_bad H R 4 (hmidH.out (by rw [HRR.out]; decide)) HRR.out, HB9.out⟩ | (go_step; exact bodyPost_ret (v := .tuple #[.agg ([.int .i64 0, .bool false, .int .u8 0, .int .u8 0, .int .u8 0, .int .u8 0, .int .u8 0, .int .u8 0, .int .u8 0, .int .u8 0, .int .u8 0, .int .u8 0, .int .u8 0, .int .u8 0, .int .u8 0, .int .u8 0, .int .u8 0, .int .u8 0, .int .i64 0, .bool false, .int .u8 0, .int .u8 0, .int .u8 0, .int .u8 0, .int .u8 0, .int .u8 0, .int .u8 0, .int .u8 0, .int .u8 0, .int .u8 0, .int .u8 0, .int .u8 0, .int .u8 0, .int .u8 0, .int .u8 0, .int .u8 0, .int .i64 0, .int .i64 0, .int .i64 0, .int .i64 0] : List Value).toArray, .int .i64 4]) (by simp [results, Tryd.results12, go_sem, ld0]) rfl ⟨out_bad H R 4 (hmidH.out (by rw [HRR.out]; decide)) HRR.out, HB9.out⟩)
  have f2 : (((twoN q 2 : Nat) : Int) == 0) = false := beq_eq_false_iff_ne.mpr (by omega)
  have HR10 : Hid (R = if sumB g q then 0 else 5) := Lib.hid (HR9.out.trans (if_neg (fun e => e.elim hq0 hq2)))
  clear hq0 hq2
  have KP6 := Lib.hid (fun W hv => pair2_calls (.slice A1 n (c - p)) q 6 6 W hv rfl (by have := HQL.out; omega) (by have := HQL.out; omega))
  by_cases hz6 : twoN q 6 = 0
  · have hzb : (((twoN q 6 : Nat) : Int) == 0) = true := by rw [hz6]; rfl
    have HRS6 : Hid (R = if verN l = 4 then 0 else 5) := Lib.hid (by
      have hsb : sumB g q = !g.s6 := by unfold sumB; exact if_pos ⟨HPR.out, hz6⟩
      rw [HR10.out, hsb, HS6.out]
      by_cases e : verN l = 4
      · rw [decide_eq_true e, if_pos e]; rfl
      · rw [decide_eq_false e, if_neg e]; rfl)
    clear hz6
    rcases H46.out with ⟨e4, v4⟩ | ⟨e6, v6⟩
    · have HRR : Hid (R = 0) := Lib.hid (HRS6.out.trans (if_pos v4))
      have e4' : ((x.toNat : Int) / 16 == 6) = false := by rw [e4]; rfl
      have HGO := Lib.hid (give_out w.heap.size (w.heap.size + 2) g 36)
      have hsl : (hdA g).toList = g.cells := rfl
      have hsz : (hdA g).size = 40 := Hd.len g
      clear e4 v4
      go_upto_region 45 with (go_at_call 33; ((with_reducible refine (KP6.out _ (HZ.out _ HB9.out)).mono ?_); rintro e w10 ⟨rfl, n6, rfl⟩; obtain ⟨hldg, w14, s14, lld14, a14⟩ := HGO.out (w9.drewN n6) (HZ09.out.drewN n6) (Blk.drewN HK9.out n6); have HB14 : Hid (Below w.heap.size w w14) := Lib.hid (below_alt (below_drewN HB9.out n6) a14 HB9.out.size (fun k hk => by omega)); clear a14))
      iterate 14 (first | go_values | go_skip | go_guarded | go_step | go_upon | go_back)
      first | exact bodyPost_ret (v := .tuple #[.agg (hdA g), .int .i64 0]) (by simp [results, Tryd.results12, go_sem, lld14]) rfl ⟨out_good H R g (HHG.out HRR.out) HRR.out, HB14.out⟩ | (go_step; exact bodyPost_ret (v := .tuple #[.agg (hdA g), .int .i64 0]) (by simp [results, Tryd.results12, go_sem, lld14]) rfl ⟨out_good H R g (HHG.out HRR.out) HRR.out, HB14.out⟩)
    · have HRR : Hid (R = 5) := Lib.hid (HRS6.out.trans (if_neg v6))
      have e6' : ((x.toNat : Int) / 16 == 6) = true := by rw [e6]; rfl
      clear e6 v6
      have ld1 : ∀ n : Nat, (loadCells ⟨w.heap.size + 1, 0, none⟩ 40).run Tryd.prog (w9.drewN n) = .ok ([.int .i64 0, .bool false, .int .u8 0, .int .u8 0, .int .u8 0, .int .u8 0, .int .u8 0, .int .u8 0, .int .u8 0, .int .u8 0, .int .u8 0, .int .u8 0, .int .u8 0, .int .u8 0, .int .u8 0, .int .u8 0, .int .u8 0, .int .u8 0, .int .i64 0, .bool false, .int .u8 0, .int .u8 0, .int .u8 0, .int .u8 0, .int .u8 0, .int .u8 0, .int .u8 0, .int .u8 0, .int .u8 0, .int .u8 0, .int .u8 0, .int .u8 0, .int .u8 0, .int .u8 0, .int .u8 0, .int .u8 0, .int .i64 0, .int .i64 0, .int .i64 0, .int .i64 0] : List Value).toArray (w9.drewN n) := fun n => HLLD.out _ _ (HZ19.out.drewN n)
      have st0 : ∀ n : Nat, (storeCells ⟨w.heap.size, 0, none⟩ [.int .i64 0, .bool false, .int .u8 0, .int .u8 0, .int .u8 0, .int .u8 0, .int .u8 0, .int .u8 0, .int .u8 0, .int .u8 0, .int .u8 0, .int .u8 0, .int .u8 0, .int .u8 0, .int .u8 0, .int .u8 0, .int .u8 0, .int .u8 0, .int .i64 0, .bool false, .int .u8 0, .int .u8 0, .int .u8 0, .int .u8 0, .int .u8 0, .int .u8 0, .int .u8 0, .int .u8 0, .int .u8 0, .int .u8 0, .int .u8 0, .int .u8 0, .int .u8 0, .int .u8 0, .int .u8 0, .int .u8 0, .int .i64 0, .int .i64 0, .int .i64 0, .int .i64 0]).run Tryd.prog (w9.drewN n) = .ok () (w9.drewN n) := fun n => HSST.out _ _ (HZ09.out.drewN n)
      have ld0 : ∀ n : Nat, (loadCells ⟨w.heap.size, 0, none⟩ 40).run Tryd.prog (w9.drewN n) = .ok ([.int .i64 0, .bool false, .int .u8 0, .int .u8 0, .int .u8 0, .int .u8 0, .int .u8 0, .int .u8 0, .int .u8 0, .int .u8 0, .int .u8 0, .int .u8 0, .int .u8 0, .int .u8 0, .int .u8 0, .int .u8 0, .int .u8 0, .int .u8 0, .int .i64 0, .bool false, .int .u8 0, .int .u8 0, .int .u8 0, .int .u8 0, .int .u8 0, .int .u8 0, .int .u8 0, .int .u8 0, .int .u8 0, .int .u8 0, .int .u8 0, .int .u8 0, .int .u8 0, .int .u8 0, .int .u8 0, .int .u8 0, .int .i64 0, .int .i64 0, .int .i64 0, .int .i64 0] : List Value).toArray (w9.drewN n) := fun n => HLLD.out _ _ (HZ09.out.drewN n)
      go_upto_region 44 with (go_at_call 33; ((with_reducible refine (KP6.out _ (HZ.out _ HB9.out)).mono ?_); rintro e w10 ⟨rfl, n6, rfl⟩))
      iterate 14 (first | go_values | go_skip | go_guarded | go_step | go_upon | go_back)
      first | exact bodyPost_ret (v := .tuple #[.agg ([.int .i64 0, .bool false, .int .u8 0, .int .u8 0, .int .u8 0, .int .u8 0, .int .u8 0, .int .u8 0, .int .u8 0, .int .u8 0, .int .u8 0, .int .u8 0, .int .u8 0, .int .u8 0, .int .u8 0, .int .u8 0, .int .u8 0, .int .u8 0, .int .i64 0, .bool false, .int .u8 0, .int .u8 0, .int .u8 0, .int .u8 0, .int .u8 0, .int .u8 0, .int .u8 0, .int .u8 0, .int .u8 0, .int .u8 0, .int .u8 0, .int .u8 0, .int .u8 0, .int .u8 0, .int .u8 0, .int .u8 0, .int .i64 0, .int .i64 0, .int .i64 0, .int .i64 0] : List Value).toArray, .int .i64 5]) (by simp [results, Tryd.results12, go_sem, ld0]) rfl ⟨out_bad H R 5 (hmidH.out (by rw [HRR.out]; decide)) HRR.out, below_drewN HB9.out _⟩ | (go_step; exact bodyPost_ret (v := .tuple #[.agg ([.int .i64 0, .bool false, .int .u8 0, .int .u8 0, .int .u8 0, .int .u8 0, .int .u8 0, .int .u8 0, .int .u8 0, .int .u8 0, .int .u8 0, .int .u8 0, .int .u8 0, .int .u8 0, .int .u8 0, .int .u8 0, .int .u8 0, .int .u8 0, .int .i64 0, .bool false, .int .u8 0, .int .u8 0, .int .u8 0, .int .u8 0, .int .u8 0, .int .u8 0, .int .u8 0, .int .u8 0, .int .u8 0, .int .u8 0, .int .u8 0, .int .u8 0, .int .u8 0, .int .u8 0, .int .u8 0, .int .u8 0, .int .i64 0, .int .i64 0, .int .i64 0, .int .i64 0] : List Value).toArray, .int .i64 5]) (by simp [results, Tryd.results12, go_sem, ld0]) rfl ⟨out_bad H R 5 (hmidH.out (by rw [HRR.out]; decide)) HRR.out, below_drewN HB9.out _⟩)
  have hzb : (((twoN q 6 : Nat) : Int) == 0) = false := beq_eq_false_iff_ne.mpr (by omega)
  have HNZ := Lib.hid hz6
  clear hz6
  go_upto_region 46 with (go_at_call 33; ((with_reducible refine (KP6.out _ (HZ.out _ HB9.out)).mono ?_); rintro e w10 ⟨rfl, n6, rfl⟩))
  have HK10 := Lib.hid (Blk.drewN HK9.out n6)
  have HB10 := Lib.hid (below_drewN HB9.out n6)
  have HC0 := Lib.hid (HZ09.out.drewN n6)
  have HC1 := Lib.hid (HZ19.out.drewN n6)
  have b0' : (w9.drewN n6).cell? ⟨w.heap.size + 2, 0, none⟩ = some (.int .i64 17) := b0
  clear b0 b18 b36
  change Code.wp _ _ _ _ (w9.drewN n6)
  generalize w9.drewN n6 = w10 at HK10 HB10 HC0 HC1 b0' ⊢
  have HK10 : Hid (HBlk (w.heap.size + 2) g 36 w10) := HK10
  have hnz : ¬ (g.pr = 17 ∧ twoN q 6 = 0) := fun e => HNZ.out e.2
  have hsq : sumB g q = goodN (total (psL g n ++ q) : Nat) := by rw [sumB_eq g q hnz, HQL.out]
  have HR11 : Hid (R = if goodN (total (psL g n ++ q) : Nat) then 0 else 5) := Lib.hid (by rw [HR10.out, hsq])
  have hps := (psL_len g n).2
  have HLB : Hid ((psL g n).length + q.length ≤ 1000) := Lib.hid (by have := HQL.out; omega)
  have KPS : Hid (∀ W : World, Calls Tryd.prog 36 #[adV g.s6 g.sb, adV g.d6 g.db, .int .i64 17, .int .i64 (n : Int)] W fun e w' => (∃ v, e = .returned v ∧ Mem.Own eU8 5 W.heap.size w' v (psL g n)) ∧ Below W.heap.size W w') := Lib.hid (fun W => by
    have := refpseudo_calls g.s6 g.sb g.hs g.d6 g.db g.hd g.pr (n : Int) W
    rw [HPR.out] at this
    unfold psL
    rw [HPR.out]
    exact this)
  have KGD : Hid (∀ v W, Row eU8 W v (psL g n ++ q) → Calls Tryd.prog 34 #[v] W fun e w' => e = .returned (.bool (goodN (total (psL g n ++ q) : Nat))) ∧ W = w') := Lib.hid (fun v W h => good_calls v _ W h (by rw [List.length_append]; have := HLB.out; omega))
  have HGO := Lib.hid (give_out w.heap.size (w.heap.size + 2) g 36)
  obtain ⟨lp1, lp2⟩ := part_loads _ g 36 w10 HK10.out
  have hsl : (hdA g).toList = g.cells := rfl
  have hsz : (hdA g).size = 40 := Hd.len g
  clear hnz hsq hps
  generalize psL g n = ps at KPS KGD HLB HR11
  generalize goodN (total (ps ++ q) : Nat) = G at KGD HR11
  cases G
  · have HRR : Hid (R = 5) := Lib.hid HR11.out
    go_upto_region 47 with (first
        | (go_at_call 36; ((with_reducible refine (KPS.out _).mono ?_); rintro e w11 ⟨⟨v2, rfl, ho2⟩, hb2⟩; have HO2 := Lib.hid ho2; have HB11 := Lib.hid hb2; have HRW : Hid (Row eU8 w11 (.slice A1 n (c - p)) q) := Lib.hid (HZ.out _ (HB10.out.trans (hb2.mono HB10.out.size))); clear ho2 hb2))
        | (at_builtin; (refine wp_append (E := eU8) w10.heap.size rfl (.tmp 224) (.tmp 225) 22 5 _ 1 rfl Tryd.underlying22 infoU8 rfl (by decide) _ _ ps q rfl rfl HO2.out HRW.out HB11.out.size (by have := HLB.out; omega) ?_; intro v3 w12 ho3 hg3 hat3; have HB12 : Hid (Below w10.heap.size w10 w12) := Lib.hid (below_app HB11.out HB11.out.size HO2.out hg3); have HBW : Hid (Below w.heap.size w w12) := Lib.hid (HB10.out.trans (HB12.out.mono HB10.out.size)); have HR12 := Lib.hid ho3.row; have ld1 := HLLD.out _ _ (HC1.out.below HB12.out); have st0 := HSST.out _ _ (HC0.out.below HB12.out); have ld0 := HLLD.out _ _ (HC0.out.below HB12.out); clear ho3 hg3 hat3))
        | (go_at_call 34; ((with_reducible refine (KGD.out _ _ HR12.out).mono ?_); rintro e w13 ⟨rfl, rfl⟩)))
    iterate 14 (first | go_values | go_skip | go_guarded | go_step | go_upon | go_back)
    first | exact bodyPost_ret (v := .tuple #[.agg ([.int .i64 0, .bool false, .int .u8 0, .int .u8 0, .int .u8 0, .int .u8 0, .int .u8 0, .int .u8 0, .int .u8 0, .int .u8 0, .int .u8 0, .int .u8 0, .int .u8 0, .int .u8 0, .int .u8 0, .int .u8 0, .int .u8 0, .int .u8 0, .int .i64 0, .bool false, .int .u8 0, .int .u8 0, .int .u8 0, .int .u8 0, .int .u8 0, .int .u8 0, .int .u8 0, .int .u8 0, .int .u8 0, .int .u8 0, .int .u8 0, .int .u8 0, .int .u8 0, .int .u8 0, .int .u8 0, .int .u8 0, .int .i64 0, .int .i64 0, .int .i64 0, .int .i64 0] : List Value).toArray, .int .i64 5]) (by simp [results, Tryd.results12, go_sem, ld0]) rfl ⟨out_bad H R 5 (hmidH.out (by rw [HRR.out]; decide)) HRR.out, HBW.out⟩ | (go_step; exact bodyPost_ret (v := .tuple #[.agg ([.int .i64 0, .bool false, .int .u8 0, .int .u8 0, .int .u8 0, .int .u8 0, .int .u8 0, .int .u8 0, .int .u8 0, .int .u8 0, .int .u8 0, .int .u8 0, .int .u8 0, .int .u8 0, .int .u8 0, .int .u8 0, .int .u8 0, .int .u8 0, .int .i64 0, .bool false, .int .u8 0, .int .u8 0, .int .u8 0, .int .u8 0, .int .u8 0, .int .u8 0, .int .u8 0, .int .u8 0, .int .u8 0, .int .u8 0, .int .u8 0, .int .u8 0, .int .u8 0, .int .u8 0, .int .u8 0, .int .u8 0, .int .i64 0, .int .i64 0, .int .i64 0, .int .i64 0] : List Value).toArray, .int .i64 5]) (by simp [results, Tryd.results12, go_sem, ld0]) rfl ⟨out_bad H R 5 (hmidH.out (by rw [HRR.out]; decide)) HRR.out, HBW.out⟩)
  · have HRR : Hid (R = 0) := Lib.hid HR11.out
    go_upto_region 48 with (first
        | (go_at_call 36; ((with_reducible refine (KPS.out _).mono ?_); rintro e w11 ⟨⟨v2, rfl, ho2⟩, hb2⟩; have HO2 := Lib.hid ho2; have HB11 := Lib.hid hb2; have HRW : Hid (Row eU8 w11 (.slice A1 n (c - p)) q) := Lib.hid (HZ.out _ (HB10.out.trans (hb2.mono HB10.out.size))); clear ho2 hb2))
        | (at_builtin; (refine wp_append (E := eU8) w10.heap.size rfl (.tmp 224) (.tmp 225) 22 5 _ 1 rfl Tryd.underlying22 infoU8 rfl (by decide) _ _ ps q rfl rfl HO2.out HRW.out HB11.out.size (by have := HLB.out; omega) ?_; intro v3 w12 ho3 hg3 hat3; have HB12 : Hid (Below w10.heap.size w10 w12) := Lib.hid (below_app HB11.out HB11.out.size HO2.out hg3); have HBW : Hid (Below w.heap.size w w12) := Lib.hid (HB10.out.trans (HB12.out.mono HB10.out.size)); have HR12 := Lib.hid ho3.row; obtain ⟨hldg, w14, s14, lld14, a14⟩ := HGO.out w12 (HC0.out.below HB12.out) (Blk.below HK10.out HB12.out); have HB14 : Hid (Below w.heap.size w w14) := Lib.hid (below_alt HBW.out a14 HBW.out.size (fun k hk => by omega)); clear a14; clear ho3 hg3 hat3))
        | (go_at_call 34; ((with_reducible refine (KGD.out _ _ HR12.out).mono ?_); rintro e w13 ⟨rfl, rfl⟩)))
    iterate 14 (first | go_values | go_skip | go_guarded | go_step | go_upon | go_back)
    first | exact bodyPost_ret (v := .tuple #[.agg (hdA g), .int .i64 0]) (by simp [results, Tryd.results12, go_sem, lld14]) rfl ⟨out_good H R g (HHG.out HRR.out) HRR.out, HB14.out⟩ | (go_step; exact bodyPost_ret (v := .tuple #[.agg (hdA g), .int .i64 0]) (by simp [results, Tryd.results12, go_sem, lld14]) rfl ⟨out_good H R g (HHG.out HRR.out) HRR.out, HB14.out⟩)
end Go.Proofs.YtfoehgcamkmooaaDoor.Head
