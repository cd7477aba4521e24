/- The document's split, once more: its row's block is new. -/
import Derived.Test.YtmcgkknpkocgoaaGreatDoorPr1
import Derived.Deep.DeepCutAuto
namespace Go.Proofs.YtmcgkknpkocgoaaGreatDoor.Ad
open Go.RowKit Go.Proofs.YtmcgkknpkocgoaaGreatDoor.Mem Go.Proofs.YtmcgkknpkocgoaaGreatDoor.Num Go.Proofs.YtmcgkknpkocgoaaGreatDoor.Err Go.Proofs.YtmcgkknpkocgoaaGreatDoor.AdP
open Go.Proofs.YtmcgkknpkocgoaaGreatDoor.Head (pad pad_len adCells_one adCells_len infoAd splice_ad)
open Go.Proofs.YtmcgkknpkocgoaaGreatDoor.Addr (adV adA adCells adA_size cell_box load_box cell_six)
set_option linter.unusedVariables false
set_option linter.unusedSimpArgs false
set_option maxRecDepth 100000
attribute [-go_sem] Builtin.append_
/-- .. at whatever capacity, its block new. -/
def RetSplit3 (base : Nat) (w' : World) (ls : List (List UInt8)) (e : Ending) : Prop := ∃ g c xs, e = .returned (.slice (some ⟨g, 0, none⟩) xs.length c) ∧ xs.map (·.data.toList) = ls ∧ Texts w' g xs ∧ xs.length ≤ c ∧ c ≤ 9223372036854775807 ∧ base ≤ g
set_option maxHeartbeats 2000000 in
theorem rsplit3_calls (s : ByteArray) (c : UInt8) (w : World) (hs : s.size ≤ 1000) :
    Calls Tryz.prog 91 #[.string s, .int .u8 (c.toNat : Int)] w fun e w' => RetSplit3 w.heap.size w' (parts c s.data.toList) e ∧ Below w.heap.size w w' := by
  have hsl : s.data.toList.length = s.size := Array.length_toList
  have hsi : (s.size : Int) ≤ 1000 := by omega
  have HS := Lib.hid hs
  have HSL := Lib.hid hsl
  have HPS := Lib.hid (fun b l => parts_snoc c b l)
  have HPC := Lib.hid (fun l => parts_count c l)
  have HPL := Lib.hid (fun l => parts_len c l)
  clear hs hsl
  go_enter Tryz.func91, Tryz.ntmps91
  go_wp2
  have ho0 : Own eStr 9 w.heap.size (w.alloc (.cells #[.string ByteArray.empty] 9)) (.slice (some ⟨w.heap.size, 0, none⟩) 1 1) [ByteArray.empty] := Own.lit w _ eStr 9 [ByteArray.empty] 1 rfl _ rfl (Nat.le_refl _) (by simp)
  have hb0 : Below w.heap.size w (w.alloc (.cells #[.string ByteArray.empty] 9)) := (Below.refl _ _).alloc (Nat.le_refl _) _
  go_loopw [5, 6] (fun v iv wr => ∃ (i g m cap : Nat) (xs : List ByteArray), iv = .int .i64 (i : Int) ∧ v = .slice (some ⟨g, 0, none⟩) (m + 1) cap ∧ i ≤ s.size ∧ Hid (xs.length = m + 1 ∧ m + 1 ≤ cap ∧ cap ≤ 9223372036854775807) ∧ Hid (Own eStr 9 w.heap.size wr (.slice (some ⟨g, 0, none⟩) (m + 1) cap) xs) ∧ Hid (xs.map (·.data.toList) = parts c (s.data.toList.take i)) ∧ Hid (Below w.heap.size w wr)) (fun _ iv _ => s.size - (intOf iv).toNat)
  case atStart => exact ⟨0, w.heap.size, 0, 1, [ByteArray.empty], rfl, rfl, Nat.zero_le _, Lib.hid ⟨rfl, by omega, by omega⟩, Lib.hid ho0, Lib.hid rfl, Lib.hid hb0⟩
  case round =>
    obtain ⟨i, g, m, cap, xs, rfl, rfl, hi, HL, HO, HX, HB⟩ := hrel
    by_cases hlt : i < s.size
    · have hil : i < s.data.toList.length := by rw [HSL.out]; exact hlt
      have htk : s.data.toList.take (i + 1) = s.data.toList.take i ++ [s[i]] := List.take_succ_eq_append_getElem hil
      have hps := HPS.out s[i] (s.data.toList.take i)
      rw [← htk] at hps
      have hm1 : m + 1 ≤ 1002 := by
        have h1 := congrArg List.length HX.out
        have h2 := HPC.out (s.data.toList.take i)
        have h3 : (s.data.toList.take i).length ≤ 1000 := by rw [List.length_take]; have := HS.out; have := HSL.out; omega
        rw [List.length_map] at h1
        have := HL.out.1
        omega
      have hex := extract1 s i hlt
      have hmi : (m : Int) ≤ 1002 := by omega
      have hii : (i : Int) < (s.size : Int) := by omega
      by_cases hc : s[i] = c
      · have HP1 := Lib.hid (show (xs ++ [ByteArray.empty]).map (·.data.toList) = parts c (s.data.toList.take (i + 1)) by rw [hps, if_pos hc, List.map_append, HX.out]; rfl)
        have heq : ((s[i].toNat : Int) == (c.toNat : Int)) = true := by rw [hc]; exact beq_self_eq_true _
        have HM1 := Lib.hid hm1
        clear hps hex hc htk hm1
        go_wp2_with (at_builtin; refine wp_append (E := eStr) w.heap.size rfl (.tmp 19) (.tmp 20) 96 9 _ 16 rfl Tryz.underlying96 infoStr rfl (by decide) _ _ xs [ByteArray.empty] rfl rfl (HO.out.alloc _) (Own.lit wr 0 eStr 9 [ByteArray.empty] 1 rfl _ rfl (Nat.zero_le _) (by simp)).row (size_alloc_le HB.out _) (by have := HL.out.1; have := HM1.out; simp; omega) ?_; intro v1 w4 ho4 hg4 hat4; obtain ⟨g1, c1, rfl, hc1, hc2⟩ := own_form ho4 (by simp); have hl4 : (xs ++ [ByteArray.empty]).length = m + 1 + 1 := (by have := HL.out.1; simp; omega); rw [hl4] at ho4 hc1 ⊢; have HO4 := Lib.hid ho4; have HB4 := Lib.hid (below_app (HB.out.alloc HB.out.size _) (size_alloc_le HB.out _) (HO.out.alloc _) hg4); have HL4 := Lib.hid (show (xs ++ [ByteArray.empty]).length = m + 1 + 1 ∧ m + 1 + 1 ≤ c1 ∧ c1 ≤ 9223372036854775807 from ⟨hl4, hc1, hc2⟩); clear ho4 hl4 hg4 hat4 hc1 hc2)
        go_roundw
        case rel => exact ⟨i + 1, g1, m + 1, c1, _, by go_num, rfl, by omega, HL4, HO4, HP1, HB4⟩
        case measure => simp [intOf]; omega
      · have hml : m < xs.length := by have := HL.out.1; omega
        have hsx : (xs[m]).size ≤ 1000 := by
          have h1 : xs[m].data.toList ∈ parts c (s.data.toList.take i) := by rw [← HX.out]; exact List.mem_map_of_mem (List.getElem_mem _)
          have h2 := HPL.out _ _ h1
          have h3 : xs[m].data.toList.length = xs[m].size := Array.length_toList
          rw [List.length_take] at h2
          have := HS.out; have := HSL.out
          omega
        obtain ⟨o1, o2, o3⟩ := own_set HO.out m hml (xs[m] ++ str [s[i]])
        have hA := add_str xs[m] (str [s[i]]) (by have h1 : (str [s[i]]).size = 1 := sz [s[i]]; omega)
        have hzx : ((xs[m]).size : Int) ≤ 1000 := by omega
        have HP1 := Lib.hid (show (xs.set m (xs[m] ++ str [s[i]])).map (·.data.toList) = parts c (s.data.toList.take (i + 1)) by
          rw [hps, if_neg hc, ← HX.out, grow_last _ m (by rw [List.length_map]; exact HL.out.1), List.map_set, cat_data, List.getElem_map])
        have HO1 := Lib.hid (o1.drewN 1)
        have HL1 := Lib.hid (show (xs.set m (xs[m] ++ str [s[i]])).length = m + 1 ∧ m + 1 ≤ cap ∧ cap ≤ 9223372036854775807 from ⟨by rw [List.length_set]; exact HL.out.1, HL.out.2⟩)
        have HB1 := Lib.hid (below_drewN (HB.out.setCell (p := ⟨g, m, none⟩) (HO.out.block g rfl).1 (.string (xs[m] ++ str [s[i]]))) 1)
        have heq : ((s[i].toNat : Int) == (c.toNat : Int)) = false := beq_eq_false_iff_ne.mpr (fun h => hc (UInt8.toNat_inj.1 (by omega)))
        have hmc : (m : Int) + 1 ≤ (cap : Int) := by have := HL.out.2.1; omega
        clear hps hc htk hm1 hsx o1
        generalize xs.set m (xs[m] ++ str [s[i]]) = xs1 at *
        generalize xs[m] = x at *
        go_wp2
        go_region
        all_goals go_wp2
        go_roundw
        case rel => exact ⟨i + 1, g, m, cap, xs1, by go_num, rfl, by omega, HL1, HO1, HP1, HB1⟩
        case measure => simp [intOf]; omega
    · obtain rfl : i = s.size := by omega
      have HF := Lib.hid (show xs.map (·.data.toList) = parts c s.data.toList by rw [HX.out, ← HSL.out, List.take_length])
      go_wp2
      go_ret
      exact ⟨⟨g, cap, xs, by rw [HL.out.1]; rfl, HF.out, fun j hj => HO.out.row.at0 hj, by rw [HL.out.1]; exact HL.out.2.1, HL.out.2.2, (HO.out.block g rfl).1⟩, HB.out⟩
end Go.Proofs.YtmcgkknpkocgoaaGreatDoor.Ad

/- linkboyref02.Parse: the groups behind the hole. -/
namespace Go.Proofs.YtmcgkknpkocgoaaGreatDoor.Ad
open Go.RowKit Go.Proofs.YtmcgkknpkocgoaaGreatDoor.Mem Go.Proofs.YtmcgkknpkocgoaaGreatDoor.Num Go.Proofs.YtmcgkknpkocgoaaGreatDoor.Err Go.Proofs.YtmcgkknpkocgoaaGreatDoor.AdP
open Go.Proofs.YtmcgkknpkocgoaaGreatDoor.Head (pad pad_len adCells_one adCells_len infoAd splice_ad)
open Go.Proofs.YtmcgkknpkocgoaaGreatDoor.Addr (adV adA adCells)
set_option linter.unusedVariables false
set_option linter.unusedSimpArgs false
set_option maxRecDepth 100000
attribute [-go_sem] Builtin.append_ loadCells loadCellsFrom storeCells
/-- A cell's block lies in the heap. -/
theorem Mem.cell_lt {w : World} {g j : Nat} {v : Value} (h : w.cell? ⟨g, j, none⟩ = some v) : g < w.heap.size := by
  by_cases hg : g < w.heap.size
  · exact hg
  · have e : w.heap[g]? = none := Array.getElem?_eq_none (by omega)
    simp [World.cell?, e] at h
/-- The answer, the front known. -/
def finR (hole : Int) (a : List UInt8) : Option (List UInt8) → Option (Bool × List UInt8)
  | some b => finP hole a b
  | none => none
set_option maxHeartbeats 16000000 in
theorem parse10 (ea : Addr) (a : List UInt8) (hole : Int) (r : ByteArray) (hr : r.size ≤ 1000) (ha : a.length ≤ 4096) (hr0 : hole < 0 → r.data.toList = []) (w wc : World) (v1 v2 : Value) (hE : Env ea w) (hM : Mid ea w wc) (hT : Two (w.heap.size + 1) wc v1 a v2 [])
    (u0 u1 u3 u4 u5 u7 u8 u12 u13 u14 u15 u16 u17 u18 u19 u20 u21 u22 u23 u24 u25 u26 u27 u28 u29 u30 u31 u32 u33 u34 u35 u36 u37 u38 u39 u40 u41 u42 u43 u44 u45 u46 u47 u48 u49 u50 u51 u52 u53 u54 u55 u56 u57 u58 u59 u60 u61 u62 u63 u64 u65 u66 u67 u68 u69 u70 u71 u72 u73 u74 u75 u76 u77 u78 u79 u80 u81 u82 u83 u84 u85 u86 u87 u88 u89 u90 u91 u92 u93 u94 u95 u96 u97 u98 u99 u100 u101 u102 u103 u104 u105 u106 u107 u108 u109 u110 u111 u112 u113 u114 u115 u116 u117 u118 u119 u120 u121 u122 u123 u124 u125 u126 u127 u128 u129 u130 u131 u132 u133 u134 u135 u136 u137 u138 u139 u140 u141 u142 u143 u144 u145 u146 u147 u148 u149 u150 u151 u152 u153 u154 u155 u156 u157 u158 u159 : Value) :
    Code.wp Tryz.prog (pC 10) (bodyPost Tryz.prog Tryz.f23 fun e w' => RetR (finR hole a (row r.data.toList)) e ∧ Below w.heap.size w w') ⟨#[u0, u1, .pointer (some ⟨w.heap.size, 0, none⟩), u3, u4, u5, .int .i64 hole, u7, u8, .string r, v1, v2, u12, u13, u14, u15, u16, u17, u18, u19, u20, u21, u22, u23, u24, u25, u26, u27, u28, u29, u30, u31, u32, u33, u34, u35, u36, u37, u38, u39, u40, u41, u42, u43, u44, u45, u46, u47, u48, u49, u50, u51, u52, u53, u54, u55, u56, u57, u58, u59, u60, u61, u62, u63, u64, u65, u66, u67, u68, u69, u70, u71, u72, u73, u74, u75, u76, u77, u78, u79, u80, u81, u82, u83, u84, u85, u86, u87, u88, u89, u90, u91, u92, u93, u94, u95, u96, u97, u98, u99, u100, u101, u102, u103, u104, u105, u106, u107, u108, u109, u110, u111, u112, u113, u114, u115, u116, u117, u118, u119, u120, u121, u122, u123, u124, u125, u126, u127, u128, u129, u130, u131, u132, u133, u134, u135, u136, u137, u138, u139, u140, u141, u142, u143, u144, u145, u146, u147, u148, u149, u150, u151, u152, u153, u154, u155, u156, u157, u158, u159], []⟩ wc := by
  have hrl : r.data.toList.length = r.size := Array.length_toList
  have HE := Lib.hid hE
  have hrl2 := hrl
  by_cases h0 : r.size = 0
  · obtain rfl : r = ByteArray.empty := ByteArray.ext (Array.eq_empty_of_size_eq_zero h0)
    have KX : ∀ (u0 u1 u3 u4 u5 u7 u8 u9 u12 u13 u14 u15 u16 u17 u18 u19 u20 u21 u22 u23 u24 u25 u26 u27 u28 u29 u30 u31 u32 u33 u34 u35 u36 u37 u38 u39 u40 u41 u42 u43 u44 u45 u46 u47 u48 u49 u50 u51 u52 u53 u54 u55 u56 u57 u58 u59 u60 u61 u62 u63 u64 u65 u66 u67 u68 u69 u70 u71 u72 u73 u74 u75 u76 u77 u78 u79 u80 u81 u82 u83 u84 u85 u86 u87 u88 u89 u90 u91 u92 u93 u94 u95 u96 u97 u98 u99 u100 u101 u102 u103 u104 u105 u106 u107 u108 u109 u110 u111 u112 u113 u114 u115 u116 u117 u118 u119 u120 u121 u122 u123 u124 u125 u126 u127 u128 u129 u130 u131 u132 u133 u134 u135 u136 u137 u138 u139 u140 u141 u142 u143 u144 u145 u146 u147 u148 u149 u150 u151 u152 u153 u154 u155 u156 u157 u158 u159 : Value), Code.wp Tryz.prog (pC 11) (bodyPost Tryz.prog Tryz.f23 fun e w' => RetR (finR hole a (some [])) e ∧ Below w.heap.size w w') ⟨#[u0, u1, .pointer (some ⟨w.heap.size, 0, none⟩), u3, u4, u5, .int .i64 hole, u7, u8, u9, v1, v2, u12, u13, u14, u15, u16, u17, u18, u19, u20, u21, u22, u23, u24, u25, u26, u27, u28, u29, u30, u31, u32, u33, u34, u35, u36, u37, u38, u39, u40, u41, u42, u43, u44, u45, u46, u47, u48, u49, u50, u51, u52, u53, u54, u55, u56, u57, u58, u59, u60, u61, u62, u63, u64, u65, u66, u67, u68, u69, u70, u71, u72, u73, u74, u75, u76, u77, u78, u79, u80, u81, u82, u83, u84, u85, u86, u87, u88, u89, u90, u91, u92, u93, u94, u95, u96, u97, u98, u99, u100, u101, u102, u103, u104, u105, u106, u107, u108, u109, u110, u111, u112, u113, u114, u115, u116, u117, u118, u119, u120, u121, u122, u123, u124, u125, u126, u127, u128, u129, u130, u131, u132, u133, u134, u135, u136, u137, u138, u139, u140, u141, u142, u143, u144, u145, u146, u147, u148, u149, u150, u151, u152, u153, u154, u155, u156, u157, u158, u159], []⟩ wc := parse11 ea a [] hole ha (by decide) (fun _ => rfl) w wc _ _ hE hM hT
    rw [show row (ByteArray.empty).data.toList = some [] from if_pos rfl]
    have hK := Lib.hid KX
    clear KX hE hM hT hrl hr h0 hr0
    unfold pC
    conv => arg 2; whnf
    repeat (first | exact hK.out _ _ _ _ _ _ _ _ _ _ _ _ _ _ _ _ _ _ _ _ _ _ _ _ _ _ _ _ _ _ _ _ _ _ _ _ _ _ _ _ _ _ _ _ _ _ _ _ _ _ _ _ _ _ _ _ _ _ _ _ _ _ _ _ _ _ _ _ _ _ _ _ _ _ _ _ _ _ _ _ _ _ _ _ _ _ _ _ _ _ _ _ _ _ _ _ _ _ _ _ _ _ _ _ _ _ _ _ _ _ _ _ _ _ _ _ _ _ _ _ _ _ _ _ _ _ _ _ _ _ _ _ _ _ _ _ _ _ _ _ _ _ _ _ _ _ _ _ _ _ _ _ _ _ _ _ | go_values | go_skip | go_guarded | go_step | go_upon | go_back)
  · have hnl : r.data.toList ≠ [] := fun h => by rw [h] at hrl; simp at hrl; omega
    have hrp : (0 : Int) < (r.size : Int) := by omega
    have hri : (r.size : Int) ≤ 1000 := by omega
    have er : row r.data.toList = rowL (parts 58 r.data.toList) := by unfold row; rw [if_neg hnl]
    have KS := Lib.hid (fun W => rsplit3_calls r 58 W hr)
    change Hid (∀ W, Calls Tryz.prog 91 #[.string r, .int .u8 58] W fun e w' => RetSplit3 W.heap.size w' (parts 58 r.data.toList) e ∧ Below W.heap.size W w') at KS
    have HPL := Lib.hid (parts_len 58 r.data.toList)
    have HSL := Lib.hid (hrl ▸ hr : r.data.toList.length ≤ 1000)
    have HPC := Lib.hid (parts_count 58 r.data.toList)
    have HM := Lib.hid hM
    have HT := Lib.hid (show Two (w.heap.size + 1) wc v2 [] v1 a from hT.swap)
    have HN : Hid (∀ (acc : List UInt8) (v : Value) (W : World) (hac : acc.length ≤ 4096), rowL (parts 58 r.data.toList) = some acc → Mid ea w W → Two (w.heap.size + 1) W v acc v1 a → ∀ (u0 u1 u3 u4 u5 u7 u8 u9 u12 u13 u14 u15 u16 u17 u18 u19 u20 u21 u22 u23 u24 u25 u26 u27 u28 u29 u30 u31 u32 u33 u34 u35 u36 u37 u38 u39 u40 u41 u42 u43 u44 u45 u46 u47 u48 u49 u50 u51 u52 u53 u54 u55 u56 u57 u58 u59 u60 u61 u62 u63 u64 u65 u66 u67 u68 u69 u70 u71 u72 u73 u74 u75 u76 u77 u78 u79 u80 u81 u82 u83 u84 u85 u86 u87 u88 u89 u90 u91 u92 u93 u94 u95 u96 u97 u98 u99 u100 u101 u102 u103 u104 u105 u106 u107 u108 u109 u110 u111 u112 u113 u114 u115 u116 u117 u118 u119 u120 u121 u122 u123 u124 u125 u126 u127 u128 u129 u130 u131 u132 u133 u134 u135 u136 u137 u138 u139 u140 u141 u142 u143 u144 u145 u146 u147 u148 u149 u150 u151 u152 u153 u154 u155 u156 u157 u158 u159 : Value), Code.wp Tryz.prog (pC 11) (bodyPost Tryz.prog Tryz.f23 fun e w' => RetR (finR hole a (rowL (parts 58 r.data.toList))) e ∧ Below w.heap.size w w') ⟨#[u0, u1, .pointer (some ⟨w.heap.size, 0, none⟩), u3, u4, u5, .int .i64 hole, u7, u8, u9, v1, v, u12, u13, u14, u15, u16, u17, u18, u19, u20, u21, u22, u23, u24, u25, u26, u27, u28, u29, u30, u31, u32, u33, u34, u35, u36, u37, u38, u39, u40, u41, u42, u43, u44, u45, u46, u47, u48, u49, u50, u51, u52, u53, u54, u55, u56, u57, u58, u59, u60, u61, u62, u63, u64, u65, u66, u67, u68, u69, u70, u71, u72, u73, u74, u75, u76, u77, u78, u79, u80, u81, u82, u83, u84, u85, u86, u87, u88, u89, u90, u91, u92, u93, u94, u95, u96, u97, u98, u99, u100, u101, u102, u103, u104, u105, u106, u107, u108, u109, u110, u111, u112, u113, u114, u115, u116, u117, u118, u119, u120, u121, u122, u123, u124, u125, u126, u127, u128, u129, u130, u131, u132, u133, u134, u135, u136, u137, u138, u139, u140, u141, u142, u143, u144, u145, u146, u147, u148, u149, u150, u151, u152, u153, u154, u155, u156, u157, u158, u159], []⟩ W) := Lib.hid (fun acc v W hac hro hMW hTW => by rw [hro]; exact parse11 ea a acc hole ha hac (fun h => absurd (hr0 h) hnl) w W _ _ hE hMW hTW.swap)
    rw [er]
    have HAL := Lib.hid ha
    clear er hnl hrl hE hM hT h0 hr ha hr0
    generalize parts 58 r.data.toList = ls at *
    unfold pC
    conv => arg 2; whnf
    go_wp2_with (go_at_call 91; ((with_reducible refine (KS.out _).mono ?_); rintro e w1 ⟨⟨g, cp, xs, rfl, hxs, htx, hc1, hc2, hgf⟩, hb1⟩; have HX := Lib.hid hxs; have HTX := Lib.hid htx; have HGF := Lib.hid hgf; have HM1 := Lib.hid (HM.out.below hb1); have HT1 := Lib.hid (HT.out.below hb1); clear hxs htx hb1 hgf; have hxl : (xs.length : Int) ≤ 1001 := (by have h1 := congrArg List.length HX.out; have h2 := HPC.out; have h3 := HSL.out; simp at h1; omega)))
    have HVG : Hid (v2.ownBlock ≠ some g) := Lib.hid (fun e => by have := HT.out.fst.block _ e; have := HGF.out; omega)
    go_loopw [11, 104] (fun v iv wr => ∃ (k : Nat) (acc : List UInt8), k ≤ xs.length ∧ iv = .int .i64 (k : Int) ∧ Hid (Two (w.heap.size + 1) wr v acc v1 a) ∧ Hid (v.ownBlock ≠ some g) ∧ Hid (Texts wr g xs) ∧ Hid (acc.length = 2 * k) ∧ Hid (rowL ls = (rowL (ls.drop k)).map (acc ++ ·)) ∧ Hid (Mid ea w wr)) (fun _ iv _ => xs.length - (intOf iv).toNat)
    case atStart => exact ⟨0, [], Nat.zero_le _, rfl, HT1, HVG, HTX, Lib.hid rfl, Lib.hid (by simp), HM1⟩
    case round =>
      obtain ⟨k, acc, hk, rfl, HT2, HV2, HX2, HA, HR, HM2⟩ := hrel
      have HBS : Hid (w.heap.size + 1 ≤ wr.heap.size) := Lib.hid (by have := HM2.out.1.lt; omega)
      by_cases hlt : k < xs.length
      · have hcell := HX2.out k hlt
        have hll : xs.length = ls.length := by rw [← HX.out]; simp
        have hlk : ls[k]'(by omega) = xs[k].data.toList := by
          have := HX.out
          subst this
          simp
        have hd : ls.drop k = xs[k].data.toList :: ls.drop (k + 1) := by rw [← hlk]; exact List.drop_eq_getElem_cons (by omega)
        have hsz : xs[k].size ≤ 1000 := by
          have h1 := HPL.out xs[k].data.toList (by rw [← hlk]; exact List.getElem_mem _)
          have h2 : xs[k].data.toList.length = xs[k].size := Array.length_toList
          have h3 := HSL.out
          omega
        have hstep : rowL ls = (if number xs[k].data.toList 16 4 < 0 then none else (rowL (ls.drop (k + 1))).map (two (number xs[k].data.toList 16 4) ++ ·)).map (acc ++ ·) := by rw [HR.out, hd]; rfl
        have hnr := number_range xs[k].data.toList
        have KD := Lib.hid (fun W => rnumber_calls xs[k] 16 4 (.inl ⟨rfl, rfl⟩) W hsz)
        change Hid (∀ W, Calls Tryz.prog 92 #[.string xs[k], .int .i64 16, .int .i64 4] W fun e w' => e = .returned (.int .i64 (number xs[k].data.toList 16 4)) ∧ W = w') at KD
        clear hlk hd hsz hll HN
        generalize number xs[k].data.toList 16 4 = n at *
        generalize xs[k] = x at *
        by_cases hneg : n < 0
        · have HST : Hid (rowL ls = none) := Lib.hid (by rw [hstep, if_pos hneg]; rfl)
          obtain rfl : n = -1 := by omega
          have st := HM2.out.store0
          have ld := HM2.out.load0
          have HB2 := Lib.hid HM2.out.bel
          clear hstep hnr hneg
          go_wp2_with (go_at_call 92; ((with_reducible refine (KD.out _).mono ?_); rintro e w2 ⟨rfl, rfl⟩))
          exact bodyPost_ret (v := .tuple #[.agg zeroCs.toArray, .bool false]) (by simp [results, Tryz.results23, go_sem, ld]) rfl ⟨by rw [HST.out]; exact retR_none, HB2.out⟩
        · have HST : Hid (rowL ls = (rowL (ls.drop (k + 1))).map ((acc ++ two n) ++ ·)) := Lib.hid (by rw [hstep, if_neg hneg, Option.map_map]; congr 1; funext t; simp)
          have hn0 : 0 ≤ n := by omega
          have hn1 : n < 65536 := by omega
          have HGX : Hid (g < wr.heap.size) := Lib.hid (Mem.cell_lt hcell)
          clear hstep hnr hneg
          go_wp2_with (first
            | (go_at_call 92; ((with_reducible refine (KD.out _).mono ?_); rintro e w2 ⟨rfl, rfl⟩))
            | (at_builtin; refine wp_append (E := eU8) (w.heap.size + 1) rfl (.tmp 113) (.tmp 120) 39 5 _ 1 rfl Tryz.underlying39 infoU8 rfl (by decide) _ _ acc (two n) rfl rfl (HT2.out.fst.alloc _) (Own.lit wr 0 eU8 5 (two n) 2 rfl _ (two_cells n hn0 hn1) (Nat.zero_le _) (by simp [two])).row (Nat.le_trans HBS.out (by simp)) (by have := HA.out; simp [two]; omega) ?_; intro v3 w3 ho3 hg3 hat3))
          go_roundw
          case rel => exact ⟨k + 1, acc ++ two n, by omega, by go_num, Lib.hid ((HT2.out.alloc _).grow ho3 hg3 hat3), Lib.hid (by rcases hat3 with e | e <;> rw [e]; exact HV2.out; intro e2; have := Option.some.inj e2; have h4 := HGX.out; simp at this; omega), Lib.hid (fun j hj => by rw [← HX2.out j hj]; exact (World.cell?_of_block (hg3.block g (by have := HGX.out; simp; omega) (fun e => HV2.out e.symm))).trans (World.cell?_of_block (((Below.refl wr.heap.size wr).alloc (Nat.le_refl _) _).block g HGX.out))), Lib.hid (by have := HA.out; simp [two]; omega), HST, Lib.hid (Mid.belowS HE.out HM2.out (below_app ((Below.refl (w.heap.size + 1) wr).alloc HBS.out _) (Nat.le_trans HBS.out (by simp)) (HT2.out.fst.alloc _) hg3))⟩
          case measure => simp [intOf]; omega
      · have HST : rowL ls = some acc := by
          have hll : xs.length = ls.length := by rw [← HX.out]; simp
          rw [HR.out, List.drop_of_length_le (by omega)]; simp [rowL]
        have KX := HN.out acc _ wr (by have := HA.out; omega) HST HM2.out HT2.out
        have hK := Lib.hid KX
        have hlti : ¬ (k : Int) < (xs.length : Int) := by omega
        clear KX HN
        repeat (first | exact hK.out _ _ _ _ _ _ _ _ _ _ _ _ _ _ _ _ _ _ _ _ _ _ _ _ _ _ _ _ _ _ _ _ _ _ _ _ _ _ _ _ _ _ _ _ _ _ _ _ _ _ _ _ _ _ _ _ _ _ _ _ _ _ _ _ _ _ _ _ _ _ _ _ _ _ _ _ _ _ _ _ _ _ _ _ _ _ _ _ _ _ _ _ _ _ _ _ _ _ _ _ _ _ _ _ _ _ _ _ _ _ _ _ _ _ _ _ _ _ _ _ _ _ _ _ _ _ _ _ _ _ _ _ _ _ _ _ _ _ _ _ _ _ _ _ _ _ _ _ _ _ _ _ _ _ _ _ | go_values | go_skip | go_guarded | go_step | go_upon | go_back)
end Go.Proofs.YtmcgkknpkocgoaaGreatDoor.Ad

/- linkboyref02.Parse: the groups ahead of the hole. -/
namespace Go.Proofs.YtmcgkknpkocgoaaGreatDoor.Ad
open Go.RowKit Go.Proofs.YtmcgkknpkocgoaaGreatDoor.Mem Go.Proofs.YtmcgkknpkocgoaaGreatDoor.Num Go.Proofs.YtmcgkknpkocgoaaGreatDoor.Err Go.Proofs.YtmcgkknpkocgoaaGreatDoor.AdP
open Go.Proofs.YtmcgkknpkocgoaaGreatDoor.Head (pad pad_len adCells_one adCells_len infoAd splice_ad)
open Go.Proofs.YtmcgkknpkocgoaaGreatDoor.Addr (adV adA adCells)
set_option linter.unusedVariables false
set_option linter.unusedSimpArgs false
set_option maxRecDepth 100000
attribute [-go_sem] Builtin.append_ loadCells loadCellsFrom storeCells
/-- The answer of both rows. -/
def finL (hole : Int) (ra rb : Option (List UInt8)) : Option (Bool × List UInt8) := match ra with
  | some a => finR hole a rb
  | none => none
set_option maxHeartbeats 16000000 in
theorem parse9n (ea : Addr) (hole : Int) (hsg : hole < 0) (r rt : ByteArray) (hr : r.size ≤ 1000) (hrt : rt.size ≤ 1000) (hl0 : r.size = 0 → ¬ hole < 0) (hr0 : hole < 0 → rt.data.toList = []) (w wc : World) (v1 v2 : Value) (hE : Env ea w) (hM : Mid ea w wc) (hT : Two (w.heap.size + 1) wc v1 [] v2 [])
    (u0 u1 u3 u4 u5 u7 u12 u13 u14 u15 u16 u17 u18 u19 u20 u21 u22 u23 u24 u25 u26 u27 u28 u29 u30 u31 u32 u33 u34 u35 u36 u37 u38 u39 u40 u41 u42 u43 u44 u45 u46 u47 u48 u49 u50 u51 u52 u53 u54 u55 u56 u57 u58 u59 u60 u61 u62 u63 u64 u65 u66 u67 u68 u69 u70 u71 u72 u73 u74 u75 u76 u77 u78 u79 u80 u81 u82 u83 u84 u85 u86 u87 u88 u89 u90 u91 u92 u93 u94 u95 u96 u97 u98 u99 u100 u101 u102 u103 u104 u105 u106 u107 u108 u109 u110 u111 u112 u113 u114 u115 u116 u117 u118 u119 u120 u121 u122 u123 u124 u125 u126 u127 u128 u129 u130 u131 u132 u133 u134 u135 u136 u137 u138 u139 u140 u141 u142 u143 u144 u145 u146 u147 u148 u149 u150 u151 u152 u153 u154 u155 u156 u157 u158 u159 : Value) :
    Code.wp Tryz.prog (pC 9) (bodyPost Tryz.prog Tryz.f23 fun e w' => RetR (finL hole (row r.data.toList) (row rt.data.toList)) e ∧ Below w.heap.size w w') ⟨#[u0, u1, .pointer (some ⟨w.heap.size, 0, none⟩), u3, u4, u5, .int .i64 hole, u7, .string r, .string rt, v1, v2, u12, u13, u14, u15, u16, u17, u18, u19, u20, u21, u22, u23, u24, u25, u26, u27, u28, u29, u30, u31, u32, u33, u34, u35, u36, u37, u38, u39, u40, u41, u42, u43, u44, u45, u46, u47, u48, u49, u50, u51, u52, u53, u54, u55, u56, u57, u58, u59, u60, u61, u62, u63, u64, u65, u66, u67, u68, u69, u70, u71, u72, u73, u74, u75, u76, u77, u78, u79, u80, u81, u82, u83, u84, u85, u86, u87, u88, u89, u90, u91, u92, u93, u94, u95, u96, u97, u98, u99, u100, u101, u102, u103, u104, u105, u106, u107, u108, u109, u110, u111, u112, u113, u114, u115, u116, u117, u118, u119, u120, u121, u122, u123, u124, u125, u126, u127, u128, u129, u130, u131, u132, u133, u134, u135, u136, u137, u138, u139, u140, u141, u142, u143, u144, u145, u146, u147, u148, u149, u150, u151, u152, u153, u154, u155, u156, u157, u158, u159], []⟩ wc := by
  have hrl : r.data.toList.length = r.size := Array.length_toList
  have HE := Lib.hid hE
  by_cases h0 : r.size = 0
  · exact absurd hsg (hl0 h0)
  · have hnl : r.data.toList ≠ [] := fun h => by rw [h] at hrl; simp at hrl; omega
    have hrp : (0 : Int) < (r.size : Int) := by omega
    have hri : (r.size : Int) ≤ 1000 := by omega
    have er : row r.data.toList = rowL (parts 58 r.data.toList) := by unfold row; rw [if_neg hnl]
    have KS := Lib.hid (fun W => rsplit3_calls r 58 W hr)
    change Hid (∀ W, Calls Tryz.prog 91 #[.string r, .int .u8 58] W fun e w' => RetSplit3 W.heap.size w' (parts 58 r.data.toList) e ∧ Below W.heap.size W w') at KS
    have HPL := Lib.hid (parts_len 58 r.data.toList)
    have HSL := Lib.hid (hrl ▸ hr : r.data.toList.length ≤ 1000)
    have HPC := Lib.hid (parts_count 58 r.data.toList)
    have HM := Lib.hid hM
    have HT := Lib.hid hT
    have HN : Hid (∀ (acc : List UInt8) (v : Value) (W : World) (hac : acc.length ≤ 4096), rowL (parts 58 r.data.toList) = some acc → Mid ea w W → Two (w.heap.size + 1) W v acc v2 [] → ∀ (u0 u1 u3 u4 u5 u7 u8 u12 u13 u14 u15 u16 u17 u18 u19 u20 u21 u22 u23 u24 u25 u26 u27 u28 u29 u30 u31 u32 u33 u34 u35 u36 u37 u38 u39 u40 u41 u42 u43 u44 u45 u46 u47 u48 u49 u50 u51 u52 u53 u54 u55 u56 u57 u58 u59 u60 u61 u62 u63 u64 u65 u66 u67 u68 u69 u70 u71 u72 u73 u74 u75 u76 u77 u78 u79 u80 u81 u82 u83 u84 u85 u86 u87 u88 u89 u90 u91 u92 u93 u94 u95 u96 u97 u98 u99 u100 u101 u102 u103 u104 u105 u106 u107 u108 u109 u110 u111 u112 u113 u114 u115 u116 u117 u118 u119 u120 u121 u122 u123 u124 u125 u126 u127 u128 u129 u130 u131 u132 u133 u134 u135 u136 u137 u138 u139 u140 u141 u142 u143 u144 u145 u146 u147 u148 u149 u150 u151 u152 u153 u154 u155 u156 u157 u158 u159 : Value), Code.wp Tryz.prog (pC 10) (bodyPost Tryz.prog Tryz.f23 fun e w' => RetR (finL hole (rowL (parts 58 r.data.toList)) (row rt.data.toList)) e ∧ Below w.heap.size w w') ⟨#[u0, u1, .pointer (some ⟨w.heap.size, 0, none⟩), u3, u4, u5, .int .i64 hole, u7, u8, .string rt, v, v2, u12, u13, u14, u15, u16, u17, u18, u19, u20, u21, u22, u23, u24, u25, u26, u27, u28, u29, u30, u31, u32, u33, u34, u35, u36, u37, u38, u39, u40, u41, u42, u43, u44, u45, u46, u47, u48, u49, u50, u51, u52, u53, u54, u55, u56, u57, u58, u59, u60, u61, u62, u63, u64, u65, u66, u67, u68, u69, u70, u71, u72, u73, u74, u75, u76, u77, u78, u79, u80, u81, u82, u83, u84, u85, u86, u87, u88, u89, u90, u91, u92, u93, u94, u95, u96, u97, u98, u99, u100, u101, u102, u103, u104, u105, u106, u107, u108, u109, u110, u111, u112, u113, u114, u115, u116, u117, u118, u119, u120, u121, u122, u123, u124, u125, u126, u127, u128, u129, u130, u131, u132, u133, u134, u135, u136, u137, u138, u139, u140, u141, u142, u143, u144, u145, u146, u147, u148, u149, u150, u151, u152, u153, u154, u155, u156, u157, u158, u159], []⟩ W) := Lib.hid (fun acc v W hac hro hMW hTW => by rw [hro]; exact parse10 ea acc hole rt hrt hac hr0 w W _ _ hE hMW hTW)
    rw [er]
    clear er hnl hrl hE hM hT h0 hr hr0 hrt hl0
    generalize parts 58 r.data.toList = ls at *
    unfold pC
    conv => arg 2; whnf
    go_wp2_with (go_at_call 91; ((with_reducible refine (KS.out _).mono ?_); rintro e w1 ⟨⟨g, cp, xs, rfl, hxs, htx, hc1, hc2, hgf⟩, hb1⟩; have HX := Lib.hid hxs; have HTX := Lib.hid htx; have HGF := Lib.hid hgf; have HM1 := Lib.hid (HM.out.below hb1); have HT1 := Lib.hid (HT.out.below hb1); clear hxs htx hb1 hgf; have hxl : (xs.length : Int) ≤ 1001 := (by have h1 := congrArg List.length HX.out; have h2 := HPC.out; have h3 := HSL.out; simp at h1; omega)))
    have HVG : Hid (v1.ownBlock ≠ some g) := Lib.hid (fun e => by have := HT.out.fst.block _ e; have := HGF.out; omega)
    go_loopw [10, 79] (fun v iv wr => ∃ (k : Nat) (acc : List UInt8), k ≤ xs.length ∧ iv = .int .i64 (k : Int) ∧ Hid (Two (w.heap.size + 1) wr v acc v2 []) ∧ Hid (v.ownBlock ≠ some g) ∧ Hid (Texts wr g xs) ∧ Hid (acc.length = 2 * k) ∧ Hid (rowL ls = (rowL (ls.drop k)).map (acc ++ ·)) ∧ Hid (Mid ea w wr)) (fun _ iv _ => xs.length - (intOf iv).toNat)
    case atStart => exact ⟨0, [], Nat.zero_le _, rfl, HT1, HVG, HTX, Lib.hid rfl, Lib.hid (by simp), HM1⟩
    case round =>
      obtain ⟨k, acc, hk, rfl, HT2, HV2, HX2, HA, HR, HM2⟩ := hrel
      have HBS : Hid (w.heap.size + 1 ≤ wr.heap.size) := Lib.hid (by have := HM2.out.1.lt; omega)
      by_cases hlt : k < xs.length
      · have hcell := HX2.out k hlt
        have hll : xs.length = ls.length := by rw [← HX.out]; simp
        have hlk : ls[k]'(by omega) = xs[k].data.toList := by
          have := HX.out
          subst this
          simp
        have hd : ls.drop k = xs[k].data.toList :: ls.drop (k + 1) := by rw [← hlk]; exact List.drop_eq_getElem_cons (by omega)
        have hsz : xs[k].size ≤ 1000 := by
          have h1 := HPL.out xs[k].data.toList (by rw [← hlk]; exact List.getElem_mem _)
          have h2 : xs[k].data.toList.length = xs[k].size := Array.length_toList
          have h3 := HSL.out
          omega
        have hstep : rowL ls = (if number xs[k].data.toList 16 4 < 0 then none else (rowL (ls.drop (k + 1))).map (two (number xs[k].data.toList 16 4) ++ ·)).map (acc ++ ·) := by rw [HR.out, hd]; rfl
        have hnr := number_range xs[k].data.toList
        have KD := Lib.hid (fun W => rnumber_calls xs[k] 16 4 (.inl ⟨rfl, rfl⟩) W hsz)
        change Hid (∀ W, Calls Tryz.prog 92 #[.string xs[k], .int .i64 16, .int .i64 4] W fun e w' => e = .returned (.int .i64 (number xs[k].data.toList 16 4)) ∧ W = w') at KD
        clear hlk hd hsz hll HN
        generalize number xs[k].data.toList 16 4 = n at *
        generalize xs[k] = x at *
        by_cases hneg : n < 0
        · have HST : Hid (rowL ls = none) := Lib.hid (by rw [hstep, if_pos hneg]; rfl)
          obtain rfl : n = -1 := by omega
          have st := HM2.out.store0
          have ld := HM2.out.load0
          have HB2 := Lib.hid HM2.out.bel
          clear hstep hnr hneg
          go_wp2_with (go_at_call 92; ((with_reducible refine (KD.out _).mono ?_); rintro e w2 ⟨rfl, rfl⟩))
          exact bodyPost_ret (v := .tuple #[.agg zeroCs.toArray, .bool false]) (by simp [results, Tryz.results23, go_sem, ld]) rfl ⟨by rw [HST.out]; exact retR_none, HB2.out⟩
        · have HST : Hid (rowL ls = (rowL (ls.drop (k + 1))).map ((acc ++ two n) ++ ·)) := Lib.hid (by rw [hstep, if_neg hneg, Option.map_map]; congr 1; funext t; simp)
          have hn0 : 0 ≤ n := by omega
          have hn1 : n < 65536 := by omega
          have HGX : Hid (g < wr.heap.size) := Lib.hid (Mem.cell_lt hcell)
          clear hstep hnr hneg
          go_wp2_with (first
            | (go_at_call 92; ((with_reducible refine (KD.out _).mono ?_); rintro e w2 ⟨rfl, rfl⟩))
            | (at_builtin; refine wp_append (E := eU8) (w.heap.size + 1) rfl (.tmp 88) (.tmp 95) 39 5 _ 1 rfl Tryz.underlying39 infoU8 rfl (by decide) _ _ acc (two n) rfl rfl (HT2.out.fst.alloc _) (Own.lit wr 0 eU8 5 (two n) 2 rfl _ (two_cells n hn0 hn1) (Nat.zero_le _) (by simp [two])).row (Nat.le_trans HBS.out (by simp)) (by have := HA.out; simp [two]; omega) ?_; intro v3 w3 ho3 hg3 hat3))
          go_roundw
          case rel => exact ⟨k + 1, acc ++ two n, by omega, by go_num, Lib.hid ((HT2.out.alloc _).grow ho3 hg3 hat3), Lib.hid (by rcases hat3 with e | e <;> rw [e]; exact HV2.out; intro e2; have := Option.some.inj e2; have h4 := HGX.out; simp at this; omega), Lib.hid (fun j hj => by rw [← HX2.out j hj]; exact (World.cell?_of_block (hg3.block g (by have := HGX.out; simp; omega) (fun e => HV2.out e.symm))).trans (World.cell?_of_block (((Below.refl wr.heap.size wr).alloc (Nat.le_refl _) _).block g HGX.out))), Lib.hid (by have := HA.out; simp [two]; omega), HST, Lib.hid (Mid.belowS HE.out HM2.out (below_app ((Below.refl (w.heap.size + 1) wr).alloc HBS.out _) (Nat.le_trans HBS.out (by simp)) (HT2.out.fst.alloc _) hg3))⟩
          case measure => simp [intOf]; omega
      · have HST : rowL ls = some acc := by
          have hll : xs.length = ls.length := by rw [← HX.out]; simp
          rw [HR.out, List.drop_of_length_le (by omega)]; simp [rowL]
        have KX := HN.out acc _ wr (by have := HA.out; omega) HST HM2.out HT2.out
        have hK := Lib.hid KX
        have hlti : ¬ (k : Int) < (xs.length : Int) := by omega
        clear KX HN
        repeat (first | exact hK.out _ _ _ _ _ _ _ _ _ _ _ _ _ _ _ _ _ _ _ _ _ _ _ _ _ _ _ _ _ _ _ _ _ _ _ _ _ _ _ _ _ _ _ _ _ _ _ _ _ _ _ _ _ _ _ _ _ _ _ _ _ _ _ _ _ _ _ _ _ _ _ _ _ _ _ _ _ _ _ _ _ _ _ _ _ _ _ _ _ _ _ _ _ _ _ _ _ _ _ _ _ _ _ _ _ _ _ _ _ _ _ _ _ _ _ _ _ _ _ _ _ _ _ _ _ _ _ _ _ _ _ _ _ _ _ _ _ _ _ _ _ _ _ _ _ _ _ _ _ _ _ _ _ _ _ | go_values | go_skip | go_guarded | go_step | go_upon | go_back)
set_option maxHeartbeats 16000000 in
theorem parse9p (ea : Addr) (hole : Int) (hsg : ¬ hole < 0) (r rt : ByteArray) (hr : r.size ≤ 1000) (hrt : rt.size ≤ 1000) (hl0 : r.size = 0 → ¬ hole < 0) (hr0 : hole < 0 → rt.data.toList = []) (w wc : World) (v1 v2 : Value) (hE : Env ea w) (hM : Mid ea w wc) (hT : Two (w.heap.size + 1) wc v1 [] v2 [])
    (u0 u1 u3 u4 u5 u7 u12 u13 u14 u15 u16 u17 u18 u19 u20 u21 u22 u23 u24 u25 u26 u27 u28 u29 u30 u31 u32 u33 u34 u35 u36 u37 u38 u39 u40 u41 u42 u43 u44 u45 u46 u47 u48 u49 u50 u51 u52 u53 u54 u55 u56 u57 u58 u59 u60 u61 u62 u63 u64 u65 u66 u67 u68 u69 u70 u71 u72 u73 u74 u75 u76 u77 u78 u79 u80 u81 u82 u83 u84 u85 u86 u87 u88 u89 u90 u91 u92 u93 u94 u95 u96 u97 u98 u99 u100 u101 u102 u103 u104 u105 u106 u107 u108 u109 u110 u111 u112 u113 u114 u115 u116 u117 u118 u119 u120 u121 u122 u123 u124 u125 u126 u127 u128 u129 u130 u131 u132 u133 u134 u135 u136 u137 u138 u139 u140 u141 u142 u143 u144 u145 u146 u147 u148 u149 u150 u151 u152 u153 u154 u155 u156 u157 u158 u159 : Value) :
    Code.wp Tryz.prog (pC 9) (bodyPost Tryz.prog Tryz.f23 fun e w' => RetR (finL hole (row r.data.toList) (row rt.data.toList)) e ∧ Below w.heap.size w w') ⟨#[u0, u1, .pointer (some ⟨w.heap.size, 0, none⟩), u3, u4, u5, .int .i64 hole, u7, .string r, .string rt, v1, v2, u12, u13, u14, u15, u16, u17, u18, u19, u20, u21, u22, u23, u24, u25, u26, u27, u28, u29, u30, u31, u32, u33, u34, u35, u36, u37, u38, u39, u40, u41, u42, u43, u44, u45, u46, u47, u48, u49, u50, u51, u52, u53, u54, u55, u56, u57, u58, u59, u60, u61, u62, u63, u64, u65, u66, u67, u68, u69, u70, u71, u72, u73, u74, u75, u76, u77, u78, u79, u80, u81, u82, u83, u84, u85, u86, u87, u88, u89, u90, u91, u92, u93, u94, u95, u96, u97, u98, u99, u100, u101, u102, u103, u104, u105, u106, u107, u108, u109, u110, u111, u112, u113, u114, u115, u116, u117, u118, u119, u120, u121, u122, u123, u124, u125, u126, u127, u128, u129, u130, u131, u132, u133, u134, u135, u136, u137, u138, u139, u140, u141, u142, u143, u144, u145, u146, u147, u148, u149, u150, u151, u152, u153, u154, u155, u156, u157, u158, u159], []⟩ wc := by
  have hrl : r.data.toList.length = r.size := Array.length_toList
  have HE := Lib.hid hE
  by_cases h0 : r.size = 0
  · obtain rfl : r = ByteArray.empty := ByteArray.ext (Array.eq_empty_of_size_eq_zero h0)
    have KX : ∀ (u0 u1 u3 u4 u5 u7 u8 u12 u13 u14 u15 u16 u17 u18 u19 u20 u21 u22 u23 u24 u25 u26 u27 u28 u29 u30 u31 u32 u33 u34 u35 u36 u37 u38 u39 u40 u41 u42 u43 u44 u45 u46 u47 u48 u49 u50 u51 u52 u53 u54 u55 u56 u57 u58 u59 u60 u61 u62 u63 u64 u65 u66 u67 u68 u69 u70 u71 u72 u73 u74 u75 u76 u77 u78 u79 u80 u81 u82 u83 u84 u85 u86 u87 u88 u89 u90 u91 u92 u93 u94 u95 u96 u97 u98 u99 u100 u101 u102 u103 u104 u105 u106 u107 u108 u109 u110 u111 u112 u113 u114 u115 u116 u117 u118 u119 u120 u121 u122 u123 u124 u125 u126 u127 u128 u129 u130 u131 u132 u133 u134 u135 u136 u137 u138 u139 u140 u141 u142 u143 u144 u145 u146 u147 u148 u149 u150 u151 u152 u153 u154 u155 u156 u157 u158 u159 : Value), Code.wp Tryz.prog (pC 10) (bodyPost Tryz.prog Tryz.f23 fun e w' => RetR (finL hole (some []) (row rt.data.toList)) e ∧ Below w.heap.size w w') ⟨#[u0, u1, .pointer (some ⟨w.heap.size, 0, none⟩), u3, u4, u5, .int .i64 hole, u7, u8, .string rt, v1, v2, u12, u13, u14, u15, u16, u17, u18, u19, u20, u21, u22, u23, u24, u25, u26, u27, u28, u29, u30, u31, u32, u33, u34, u35, u36, u37, u38, u39, u40, u41, u42, u43, u44, u45, u46, u47, u48, u49, u50, u51, u52, u53, u54, u55, u56, u57, u58, u59, u60, u61, u62, u63, u64, u65, u66, u67, u68, u69, u70, u71, u72, u73, u74, u75, u76, u77, u78, u79, u80, u81, u82, u83, u84, u85, u86, u87, u88, u89, u90, u91, u92, u93, u94, u95, u96, u97, u98, u99, u100, u101, u102, u103, u104, u105, u106, u107, u108, u109, u110, u111, u112, u113, u114, u115, u116, u117, u118, u119, u120, u121, u122, u123, u124, u125, u126, u127, u128, u129, u130, u131, u132, u133, u134, u135, u136, u137, u138, u139, u140, u141, u142, u143, u144, u145, u146, u147, u148, u149, u150, u151, u152, u153, u154, u155, u156, u157, u158, u159], []⟩ wc := parse10 ea [] hole rt hrt (by decide) hr0 w wc _ _ hE hM hT
    rw [show row (ByteArray.empty).data.toList = some [] from if_pos rfl]
    have hK := Lib.hid KX
    clear KX hE hM hT hrl hr h0 hr0 hrt hl0
    unfold pC
    conv => arg 2; whnf
    repeat (first | exact hK.out _ _ _ _ _ _ _ _ _ _ _ _ _ _ _ _ _ _ _ _ _ _ _ _ _ _ _ _ _ _ _ _ _ _ _ _ _ _ _ _ _ _ _ _ _ _ _ _ _ _ _ _ _ _ _ _ _ _ _ _ _ _ _ _ _ _ _ _ _ _ _ _ _ _ _ _ _ _ _ _ _ _ _ _ _ _ _ _ _ _ _ _ _ _ _ _ _ _ _ _ _ _ _ _ _ _ _ _ _ _ _ _ _ _ _ _ _ _ _ _ _ _ _ _ _ _ _ _ _ _ _ _ _ _ _ _ _ _ _ _ _ _ _ _ _ _ _ _ _ _ _ _ _ _ _ | go_values | go_skip | go_guarded | go_step | go_upon | go_back)
  · have hnl : r.data.toList ≠ [] := fun h => by rw [h] at hrl; simp at hrl; omega
    have hrp : (0 : Int) < (r.size : Int) := by omega
    have hri : (r.size : Int) ≤ 1000 := by omega
    have er : row r.data.toList = rowL (parts 58 r.data.toList) := by unfold row; rw [if_neg hnl]
    have KS := Lib.hid (fun W => rsplit3_calls r 58 W hr)
    change Hid (∀ W, Calls Tryz.prog 91 #[.string r, .int .u8 58] W fun e w' => RetSplit3 W.heap.size w' (parts 58 r.data.toList) e ∧ Below W.heap.size W w') at KS
    have HPL := Lib.hid (parts_len 58 r.data.toList)
    have HSL := Lib.hid (hrl ▸ hr : r.data.toList.length ≤ 1000)
    have HPC := Lib.hid (parts_count 58 r.data.toList)
    have HM := Lib.hid hM
    have HT := Lib.hid hT
    have HN : Hid (∀ (acc : List UInt8) (v : Value) (W : World) (hac : acc.length ≤ 4096), rowL (parts 58 r.data.toList) = some acc → Mid ea w W → Two (w.heap.size + 1) W v acc v2 [] → ∀ (u0 u1 u3 u4 u5 u7 u8 u12 u13 u14 u15 u16 u17 u18 u19 u20 u21 u22 u23 u24 u25 u26 u27 u28 u29 u30 u31 u32 u33 u34 u35 u36 u37 u38 u39 u40 u41 u42 u43 u44 u45 u46 u47 u48 u49 u50 u51 u52 u53 u54 u55 u56 u57 u58 u59 u60 u61 u62 u63 u64 u65 u66 u67 u68 u69 u70 u71 u72 u73 u74 u75 u76 u77 u78 u79 u80 u81 u82 u83 u84 u85 u86 u87 u88 u89 u90 u91 u92 u93 u94 u95 u96 u97 u98 u99 u100 u101 u102 u103 u104 u105 u106 u107 u108 u109 u110 u111 u112 u113 u114 u115 u116 u117 u118 u119 u120 u121 u122 u123 u124 u125 u126 u127 u128 u129 u130 u131 u132 u133 u134 u135 u136 u137 u138 u139 u140 u141 u142 u143 u144 u145 u146 u147 u148 u149 u150 u151 u152 u153 u154 u155 u156 u157 u158 u159 : Value), Code.wp Tryz.prog (pC 10) (bodyPost Tryz.prog Tryz.f23 fun e w' => RetR (finL hole (rowL (parts 58 r.data.toList)) (row rt.data.toList)) e ∧ Below w.heap.size w w') ⟨#[u0, u1, .pointer (some ⟨w.heap.size, 0, none⟩), u3, u4, u5, .int .i64 hole, u7, u8, .string rt, v, v2, u12, u13, u14, u15, u16, u17, u18, u19, u20, u21, u22, u23, u24, u25, u26, u27, u28, u29, u30, u31, u32, u33, u34, u35, u36, u37, u38, u39, u40, u41, u42, u43, u44, u45, u46, u47, u48, u49, u50, u51, u52, u53, u54, u55, u56, u57, u58, u59, u60, u61, u62, u63, u64, u65, u66, u67, u68, u69, u70, u71, u72, u73, u74, u75, u76, u77, u78, u79, u80, u81, u82, u83, u84, u85, u86, u87, u88, u89, u90, u91, u92, u93, u94, u95, u96, u97, u98, u99, u100, u101, u102, u103, u104, u105, u106, u107, u108, u109, u110, u111, u112, u113, u114, u115, u116, u117, u118, u119, u120, u121, u122, u123, u124, u125, u126, u127, u128, u129, u130, u131, u132, u133, u134, u135, u136, u137, u138, u139, u140, u141, u142, u143, u144, u145, u146, u147, u148, u149, u150, u151, u152, u153, u154, u155, u156, u157, u158, u159], []⟩ W) := Lib.hid (fun acc v W hac hro hMW hTW => by rw [hro]; exact parse10 ea acc hole rt hrt hac hr0 w W _ _ hE hMW hTW)
    rw [er]
    clear er hnl hrl hE hM hT h0 hr hr0 hrt hl0
    generalize parts 58 r.data.toList = ls at *
    unfold pC
    conv => arg 2; whnf
    go_wp2_with (go_at_call 91; ((with_reducible refine (KS.out _).mono ?_); rintro e w1 ⟨⟨g, cp, xs, rfl, hxs, htx, hc1, hc2, hgf⟩, hb1⟩; have HX := Lib.hid hxs; have HTX := Lib.hid htx; have HGF := Lib.hid hgf; have HM1 := Lib.hid (HM.out.below hb1); have HT1 := Lib.hid (HT.out.below hb1); clear hxs htx hb1 hgf; have hxl : (xs.length : Int) ≤ 1001 := (by have h1 := congrArg List.length HX.out; have h2 := HPC.out; have h3 := HSL.out; simp at h1; omega)))
    have HVG : Hid (v1.ownBlock ≠ some g) := Lib.hid (fun e => by have := HT.out.fst.block _ e; have := HGF.out; omega)
    go_loopw [10, 79] (fun v iv wr => ∃ (k : Nat) (acc : List UInt8), k ≤ xs.length ∧ iv = .int .i64 (k : Int) ∧ Hid (Two (w.heap.size + 1) wr v acc v2 []) ∧ Hid (v.ownBlock ≠ some g) ∧ Hid (Texts wr g xs) ∧ Hid (acc.length = 2 * k) ∧ Hid (rowL ls = (rowL (ls.drop k)).map (acc ++ ·)) ∧ Hid (Mid ea w wr)) (fun _ iv _ => xs.length - (intOf iv).toNat)
    case atStart => exact ⟨0, [], Nat.zero_le _, rfl, HT1, HVG, HTX, Lib.hid rfl, Lib.hid (by simp), HM1⟩
    case round =>
      obtain ⟨k, acc, hk, rfl, HT2, HV2, HX2, HA, HR, HM2⟩ := hrel
      have HBS : Hid (w.heap.size + 1 ≤ wr.heap.size) := Lib.hid (by have := HM2.out.1.lt; omega)
      by_cases hlt : k < xs.length
      · have hcell := HX2.out k hlt
        have hll : xs.length = ls.length := by rw [← HX.out]; simp
        have hlk : ls[k]'(by omega) = xs[k].data.toList := by
          have := HX.out
          subst this
          simp
        have hd : ls.drop k = xs[k].data.toList :: ls.drop (k + 1) := by rw [← hlk]; exact List.drop_eq_getElem_cons (by omega)
        have hsz : xs[k].size ≤ 1000 := by
          have h1 := HPL.out xs[k].data.toList (by rw [← hlk]; exact List.getElem_mem _)
          have h2 : xs[k].data.toList.length = xs[k].size := Array.length_toList
          have h3 := HSL.out
          omega
        have hstep : rowL ls = (if number xs[k].data.toList 16 4 < 0 then none else (rowL (ls.drop (k + 1))).map (two (number xs[k].data.toList 16 4) ++ ·)).map (acc ++ ·) := by rw [HR.out, hd]; rfl
        have hnr := number_range xs[k].data.toList
        have KD := Lib.hid (fun W => rnumber_calls xs[k] 16 4 (.inl ⟨rfl, rfl⟩) W hsz)
        change Hid (∀ W, Calls Tryz.prog 92 #[.string xs[k], .int .i64 16, .int .i64 4] W fun e w' => e = .returned (.int .i64 (number xs[k].data.toList 16 4)) ∧ W = w') at KD
        clear hlk hd hsz hll HN
        generalize number xs[k].data.toList 16 4 = n at *
        generalize xs[k] = x at *
        by_cases hneg : n < 0
        · have HST : Hid (rowL ls = none) := Lib.hid (by rw [hstep, if_pos hneg]; rfl)
          obtain rfl : n = -1 := by omega
          have st := HM2.out.store0
          have ld := HM2.out.load0
          have HB2 := Lib.hid HM2.out.bel
          clear hstep hnr hneg
          go_wp2_with (go_at_call 92; ((with_reducible refine (KD.out _).mono ?_); rintro e w2 ⟨rfl, rfl⟩))
          exact bodyPost_ret (v := .tuple #[.agg zeroCs.toArray, .bool false]) (by simp [results, Tryz.results23, go_sem, ld]) rfl ⟨by rw [HST.out]; exact retR_none, HB2.out⟩
        · have HST : Hid (rowL ls = (rowL (ls.drop (k + 1))).map ((acc ++ two n) ++ ·)) := Lib.hid (by rw [hstep, if_neg hneg, Option.map_map]; congr 1; funext t; simp)
          have hn0 : 0 ≤ n := by omega
          have hn1 : n < 65536 := by omega
          have HGX : Hid (g < wr.heap.size) := Lib.hid (Mem.cell_lt hcell)
          clear hstep hnr hneg
          go_wp2_with (first
            | (go_at_call 92; ((with_reducible refine (KD.out _).mono ?_); rintro e w2 ⟨rfl, rfl⟩))
            | (at_builtin; refine wp_append (E := eU8) (w.heap.size + 1) rfl (.tmp 88) (.tmp 95) 39 5 _ 1 rfl Tryz.underlying39 infoU8 rfl (by decide) _ _ acc (two n) rfl rfl (HT2.out.fst.alloc _) (Own.lit wr 0 eU8 5 (two n) 2 rfl _ (two_cells n hn0 hn1) (Nat.zero_le _) (by simp [two])).row (Nat.le_trans HBS.out (by simp)) (by have := HA.out; simp [two]; omega) ?_; intro v3 w3 ho3 hg3 hat3))
          go_roundw
          case rel => exact ⟨k + 1, acc ++ two n, by omega, by go_num, Lib.hid ((HT2.out.alloc _).grow ho3 hg3 hat3), Lib.hid (by rcases hat3 with e | e <;> rw [e]; exact HV2.out; intro e2; have := Option.some.inj e2; have h4 := HGX.out; simp at this; omega), Lib.hid (fun j hj => by rw [← HX2.out j hj]; exact (World.cell?_of_block (hg3.block g (by have := HGX.out; simp; omega) (fun e => HV2.out e.symm))).trans (World.cell?_of_block (((Below.refl wr.heap.size wr).alloc (Nat.le_refl _) _).block g HGX.out))), Lib.hid (by have := HA.out; simp [two]; omega), HST, Lib.hid (Mid.belowS HE.out HM2.out (below_app ((Below.refl (w.heap.size + 1) wr).alloc HBS.out _) (Nat.le_trans HBS.out (by simp)) (HT2.out.fst.alloc _) hg3))⟩
          case measure => simp [intOf]; omega
      · have HST : rowL ls = some acc := by
          have hll : xs.length = ls.length := by rw [← HX.out]; simp
          rw [HR.out, List.drop_of_length_le (by omega)]; simp [rowL]
        have KX := HN.out acc _ wr (by have := HA.out; omega) HST HM2.out HT2.out
        have hK := Lib.hid KX
        have hlti : ¬ (k : Int) < (xs.length : Int) := by omega
        clear KX HN
        repeat (first | exact hK.out _ _ _ _ _ _ _ _ _ _ _ _ _ _ _ _ _ _ _ _ _ _ _ _ _ _ _ _ _ _ _ _ _ _ _ _ _ _ _ _ _ _ _ _ _ _ _ _ _ _ _ _ _ _ _ _ _ _ _ _ _ _ _ _ _ _ _ _ _ _ _ _ _ _ _ _ _ _ _ _ _ _ _ _ _ _ _ _ _ _ _ _ _ _ _ _ _ _ _ _ _ _ _ _ _ _ _ _ _ _ _ _ _ _ _ _ _ _ _ _ _ _ _ _ _ _ _ _ _ _ _ _ _ _ _ _ _ _ _ _ _ _ _ _ _ _ _ _ _ _ _ _ _ _ _ | go_values | go_skip | go_guarded | go_step | go_upon | go_back)
end Go.Proofs.YtmcgkknpkocgoaaGreatDoor.Ad

/- linkboyref02.Parse: both rows laid. -/
namespace Go.Proofs.YtmcgkknpkocgoaaGreatDoor.Ad
open Go.RowKit Go.Proofs.YtmcgkknpkocgoaaGreatDoor.Mem Go.Proofs.YtmcgkknpkocgoaaGreatDoor.Num Go.Proofs.YtmcgkknpkocgoaaGreatDoor.Err Go.Proofs.YtmcgkknpkocgoaaGreatDoor.AdP
open Go.Proofs.YtmcgkknpkocgoaaGreatDoor.Head (pad pad_len adCells_one adCells_len infoAd splice_ad)
open Go.Proofs.YtmcgkknpkocgoaaGreatDoor.Addr (adV adA adCells)
set_option linter.unusedVariables false
set_option linter.unusedSimpArgs false
set_option maxRecDepth 100000
attribute [-go_sem] Builtin.append_ loadCells loadCellsFrom storeCells
set_option maxHeartbeats 16000000 in
theorem parse8 (ea : Addr) (hole : Int) (r rt : ByteArray) (hr : r.size ≤ 1000) (hrt : rt.size ≤ 1000) (hl0 : r.size = 0 → ¬ hole < 0) (hr0 : hole < 0 → rt.data.toList = []) (w wc : World) (hE : Env ea w) (hM : Mid ea w wc)
    (u0 u1 u3 u4 u5 u7 u10 u11 u12 u13 u14 u15 u16 u17 u18 u19 u20 u21 u22 u23 u24 u25 u26 u27 u28 u29 u30 u31 u32 u33 u34 u35 u36 u37 u38 u39 u40 u41 u42 u43 u44 u45 u46 u47 u48 u49 u50 u51 u52 u53 u54 u55 u56 u57 u58 u59 u60 u61 u62 u63 u64 u65 u66 u67 u68 u69 u70 u71 u72 u73 u74 u75 u76 u77 u78 u79 u80 u81 u82 u83 u84 u85 u86 u87 u88 u89 u90 u91 u92 u93 u94 u95 u96 u97 u98 u99 u100 u101 u102 u103 u104 u105 u106 u107 u108 u109 u110 u111 u112 u113 u114 u115 u116 u117 u118 u119 u120 u121 u122 u123 u124 u125 u126 u127 u128 u129 u130 u131 u132 u133 u134 u135 u136 u137 u138 u139 u140 u141 u142 u143 u144 u145 u146 u147 u148 u149 u150 u151 u152 u153 u154 u155 u156 u157 u158 u159 : Value) :
    Code.wp Tryz.prog (pC 8) (bodyPost Tryz.prog Tryz.f23 fun e w' => RetR (finL hole (row r.data.toList) (row rt.data.toList)) e ∧ Below w.heap.size w w') ⟨#[u0, u1, .pointer (some ⟨w.heap.size, 0, none⟩), u3, u4, u5, .int .i64 hole, u7, .string r, .string rt, u10, u11, u12, u13, u14, u15, u16, u17, u18, u19, u20, u21, u22, u23, u24, u25, u26, u27, u28, u29, u30, u31, u32, u33, u34, u35, u36, u37, u38, u39, u40, u41, u42, u43, u44, u45, u46, u47, u48, u49, u50, u51, u52, u53, u54, u55, u56, u57, u58, u59, u60, u61, u62, u63, u64, u65, u66, u67, u68, u69, u70, u71, u72, u73, u74, u75, u76, u77, u78, u79, u80, u81, u82, u83, u84, u85, u86, u87, u88, u89, u90, u91, u92, u93, u94, u95, u96, u97, u98, u99, u100, u101, u102, u103, u104, u105, u106, u107, u108, u109, u110, u111, u112, u113, u114, u115, u116, u117, u118, u119, u120, u121, u122, u123, u124, u125, u126, u127, u128, u129, u130, u131, u132, u133, u134, u135, u136, u137, u138, u139, u140, u141, u142, u143, u144, u145, u146, u147, u148, u149, u150, u151, u152, u153, u154, u155, u156, u157, u158, u159], []⟩ wc := by
  have hw1 : (wc.alloc (.cells #[] 5)).heap.size = wc.heap.size + 1 := by simp
  have hT : Two (w.heap.size + 1) ((wc.alloc (.cells #[] 5)).alloc (.cells #[] 5)) (.slice (some ⟨wc.heap.size, 0, none⟩) 0 0) [] (.slice (some ⟨wc.heap.size + 1, 0, none⟩) 0 0) [] := by
    have h1 := hM.1.lt
    refine ⟨(Own.lit wc (w.heap.size + 1) eU8 5 [] 0 rfl #[] rfl (by omega) (by decide)).alloc _, Own.lit' (wc.alloc (.cells #[] 5)) (wc.heap.size + 1) hw1 (w.heap.size + 1) eU8 5 [] 0 rfl #[] rfl (by rw [hw1]; omega) (by decide), .inr (fun e => ?_)⟩
    have := Option.some.inj e
    simp at this
  have hM2 : Mid ea w ((wc.alloc (.cells #[] 5)).alloc (.cells #[] 5)) := hM.below (((Below.refl _ _).alloc (Nat.le_refl _) _).alloc (by simp) _)
  have KX : ∀ (u0 u1 u3 u4 u5 u7 u12 u13 u14 u15 u16 u17 u18 u19 u20 u21 u22 u23 u24 u25 u26 u27 u28 u29 u30 u31 u32 u33 u34 u35 u36 u37 u38 u39 u40 u41 u42 u43 u44 u45 u46 u47 u48 u49 u50 u51 u52 u53 u54 u55 u56 u57 u58 u59 u60 u61 u62 u63 u64 u65 u66 u67 u68 u69 u70 u71 u72 u73 u74 u75 u76 u77 u78 u79 u80 u81 u82 u83 u84 u85 u86 u87 u88 u89 u90 u91 u92 u93 u94 u95 u96 u97 u98 u99 u100 u101 u102 u103 u104 u105 u106 u107 u108 u109 u110 u111 u112 u113 u114 u115 u116 u117 u118 u119 u120 u121 u122 u123 u124 u125 u126 u127 u128 u129 u130 u131 u132 u133 u134 u135 u136 u137 u138 u139 u140 u141 u142 u143 u144 u145 u146 u147 u148 u149 u150 u151 u152 u153 u154 u155 u156 u157 u158 u159 : Value), Code.wp Tryz.prog (pC 9) (bodyPost Tryz.prog Tryz.f23 fun e w' => RetR (finL hole (row r.data.toList) (row rt.data.toList)) e ∧ Below w.heap.size w w') ⟨#[u0, u1, .pointer (some ⟨w.heap.size, 0, none⟩), u3, u4, u5, .int .i64 hole, u7, .string r, .string rt, .slice (some ⟨wc.heap.size, 0, none⟩) 0 0, .slice (some ⟨wc.heap.size + 1, 0, none⟩) 0 0, u12, u13, u14, u15, u16, u17, u18, u19, u20, u21, u22, u23, u24, u25, u26, u27, u28, u29, u30, u31, u32, u33, u34, u35, u36, u37, u38, u39, u40, u41, u42, u43, u44, u45, u46, u47, u48, u49, u50, u51, u52, u53, u54, u55, u56, u57, u58, u59, u60, u61, u62, u63, u64, u65, u66, u67, u68, u69, u70, u71, u72, u73, u74, u75, u76, u77, u78, u79, u80, u81, u82, u83, u84, u85, u86, u87, u88, u89, u90, u91, u92, u93, u94, u95, u96, u97, u98, u99, u100, u101, u102, u103, u104, u105, u106, u107, u108, u109, u110, u111, u112, u113, u114, u115, u116, u117, u118, u119, u120, u121, u122, u123, u124, u125, u126, u127, u128, u129, u130, u131, u132, u133, u134, u135, u136, u137, u138, u139, u140, u141, u142, u143, u144, u145, u146, u147, u148, u149, u150, u151, u152, u153, u154, u155, u156, u157, u158, u159], []⟩ ((wc.alloc (.cells #[] 5)).alloc (.cells #[] 5)) := by
    by_cases hsg : hole < 0
    · exact parse9n ea hole hsg r rt hr hrt hl0 hr0 w _ _ _ hE hM2 hT
    · exact parse9p ea hole hsg r rt hr hrt hl0 hr0 w _ _ _ hE hM2 hT
  have hK := Lib.hid KX
  clear KX hM2 hT hM hE hl0 hr0 hr hrt
  unfold pC
  conv => arg 2; whnf
  repeat (first | exact hK.out _ _ _ _ _ _ _ _ _ _ _ _ _ _ _ _ _ _ _ _ _ _ _ _ _ _ _ _ _ _ _ _ _ _ _ _ _ _ _ _ _ _ _ _ _ _ _ _ _ _ _ _ _ _ _ _ _ _ _ _ _ _ _ _ _ _ _ _ _ _ _ _ _ _ _ _ _ _ _ _ _ _ _ _ _ _ _ _ _ _ _ _ _ _ _ _ _ _ _ _ _ _ _ _ _ _ _ _ _ _ _ _ _ _ _ _ _ _ _ _ _ _ _ _ _ _ _ _ _ _ _ _ _ _ _ _ _ _ _ _ _ _ _ _ _ _ _ _ _ _ _ _ _ _ | go_values | go_skip | go_guarded | go_step | go_upon | go_back)
end Go.Proofs.YtmcgkknpkocgoaaGreatDoor.Ad

/- linkboyref02.Parse: the hole. -/
namespace Go.Proofs.YtmcgkknpkocgoaaGreatDoor.Ad
open Go.RowKit Go.Proofs.YtmcgkknpkocgoaaGreatDoor.Mem Go.Proofs.YtmcgkknpkocgoaaGreatDoor.Num Go.Proofs.YtmcgkknpkocgoaaGreatDoor.Err Go.Proofs.YtmcgkknpkocgoaaGreatDoor.AdP
open Go.Proofs.YtmcgkknpkocgoaaGreatDoor.Head (pad pad_len adCells_one adCells_len infoAd splice_ad)
open Go.Proofs.YtmcgkknpkocgoaaGreatDoor.Addr (adV adA adCells)
set_option linter.unusedVariables false
set_option linter.unusedSimpArgs false
set_option maxRecDepth 100000
attribute [-go_sem] Builtin.append_ loadCells loadCellsFrom storeCells
/-- Where the first two colons stand, from j on. -/
def hol (l : List UInt8) (j : Nat) : Int := if Lib.index (l.drop j) [58, 58] = -1 then -1 else Lib.index (l.drop j) [58, 58] + j
theorem hol_end (l : List UInt8) (j : Nat) (h : l.length ≤ j + 1) : hol l j = -1 := by
  unfold hol
  rw [if_pos]
  have hl : (l.drop j).length ≤ 1 := by rw [List.length_drop]; omega
  cases hd : l.drop j with
  | nil => rfl
  | cons b r =>
    rw [hd] at hl
    have hl2 : r.length + 1 ≤ 1 := hl
    have : r = [] := List.eq_nil_of_length_eq_zero (by omega)
    subst this
    simp [Lib.index]
theorem pre2 (x y : UInt8) (r : List UInt8) : ([58, 58] : List UInt8).isPrefixOf (x :: y :: r) = decide (x = 58 ∧ y = 58) := by
  show ((58 : UInt8) == x && ((58 : UInt8) == y && true)) = _
  by_cases hx : x = 58
  · subst hx
    by_cases hy : y = 58
    · subst hy; rfl
    · have e : ((58 : UInt8) == y) = false := beq_eq_false_iff_ne.mpr (fun h => hy h.symm)
      rw [e]; simp [hy]
  · have e : ((58 : UInt8) == x) = false := beq_eq_false_iff_ne.mpr (fun h => hx h.symm)
    rw [e]; simp [hx]
theorem hol_step (l : List UInt8) (j : Nat) (h : j + 1 < l.length) : hol l j = if l[j] = 58 ∧ l[j + 1] = 58 then (j : Int) else hol l (j + 1) := by
  have hd : l.drop j = l[j] :: l.drop (j + 1) := List.drop_eq_getElem_cons (by omega)
  have hd2 : l.drop (j + 1) = l[j + 1] :: l.drop (j + 2) := List.drop_eq_getElem_cons (by omega)
  have hp : ([58, 58] : List UInt8).isPrefixOf (l[j] :: l.drop (j + 1)) = decide (l[j] = 58 ∧ l[j + 1] = 58) := by
    rw [hd2]; exact pre2 _ _ _
  unfold hol
  rw [hd]
  have e : Lib.index (l[j] :: l.drop (j + 1)) [58, 58] = if ([58, 58] : List UInt8).isPrefixOf (l[j] :: l.drop (j + 1)) then 0 else if Lib.index (l.drop (j + 1)) [58, 58] == -1 then -1 else Lib.index (l.drop (j + 1)) [58, 58] + 1 := rfl
  rw [e, hp]
  have hge := Lib.index_ge (l.drop (j + 1)) [58, 58]
  by_cases hc : l[j] = 58 ∧ l[j + 1] = 58
  · rw [if_pos hc, decide_eq_true hc, if_pos rfl, if_neg (by decide)]; omega
  · rw [if_neg hc, decide_eq_false hc]
    by_cases hi : Lib.index (l.drop (j + 1)) [58, 58] = -1
    · simp [hi]
    · have h3 : ¬ Lib.index (l.drop (j + 1)) [58, 58] + 1 = -1 := by omega
      simp [hi, h3] <;> omega
theorem hol_zero (l : List UInt8) : hol l 0 = Lib.index l [58, 58] := by
  unfold hol
  rw [List.drop_zero]
  split
  · rename_i h; exact h.symm
  · simp
/-- The document's answer is the code's. -/
theorem finL_none (l : List UInt8) (hl : l ≠ []) (h : Lib.index l [58, 58] = -1) : finL (-1) (row l) (row []) = (coloned l).map (fun b => (true, b)) := by
  have hc : Lib.cut l [58, 58] = (l, [], false) := by unfold Lib.cut; rw [h]; rfl
  have hr : row [] = some [] := if_pos rfl
  unfold coloned
  rw [hc, hr]
  cases hrow : row l with
  | none => rfl
  | some a =>
    show finP (-1) a [] = _
    unfold finP
    simp only [List.length_nil, Nat.add_zero]
    by_cases h16 : a.length = 16
    · rw [if_neg (by omega), if_neg (by simp [hl, h16])]; rfl
    · rw [if_pos (by omega), if_pos (by simp [hl, h16])]; rfl
theorem finL_some (l : List UInt8) (n : Nat) (hl : l ≠ []) (h : Lib.index l [58, 58] = (n : Int)) : finL (n : Int) (row (l.take n)) (row (l.drop (n + 2))) = (coloned l).map (fun b => (true, b)) := by
  have hc : Lib.cut l [58, 58] = (l.take n, l.drop (n + 2), true) := by unfold Lib.cut; rw [h, if_pos (by omega)]; rfl
  unfold coloned
  rw [hc]
  cases hrow : row (l.take n) with
  | none => rfl
  | some a =>
    cases hrow2 : row (l.drop (n + 2)) with
    | none => rfl
    | some b =>
      show finP (n : Int) a b = _
      unfold finP
      by_cases h14 : 14 < a.length + b.length
      · rw [if_pos (by omega)]
        show none = Option.map _ (if _ then _ else _)
        rw [if_pos (.inr (.inl ⟨rfl, h14⟩))]; rfl
      · rw [if_neg (by omega)]
        show _ = Option.map _ (if _ then _ else _)
        rw [if_neg (by rintro (h1 | ⟨_, h1⟩ | ⟨h1, _⟩) <;> first | exact hl h1 | omega | cases h1)]; rfl
set_option maxHeartbeats 16000000 in
theorem parse4 (ea : Addr) (s : ByteArray) (hs : s.size ≤ 1000) (hs0 : s.size ≠ 0) (w wc : World) (hE : Env ea w) (hM : Mid ea w wc)
    (u1 u3 u4 u5 u6 u7 u8 u9 u10 u11 u12 u13 u14 u15 u16 u17 u18 u19 u20 u21 u22 u23 u24 u25 u26 u27 u28 u29 u30 u31 u32 u33 u34 u35 u36 u37 u38 u39 u40 u41 u42 u43 u44 u45 u46 u47 u48 u49 u50 u51 u52 u53 u54 u55 u56 u57 u58 u59 u60 u61 u62 u63 u64 u65 u66 u67 u68 u69 u70 u71 u72 u73 u74 u75 u76 u77 u78 u79 u80 u81 u82 u83 u84 u85 u86 u87 u88 u89 u90 u91 u92 u93 u94 u95 u96 u97 u98 u99 u100 u101 u102 u103 u104 u105 u106 u107 u108 u109 u110 u111 u112 u113 u114 u115 u116 u117 u118 u119 u120 u121 u122 u123 u124 u125 u126 u127 u128 u129 u130 u131 u132 u133 u134 u135 u136 u137 u138 u139 u140 u141 u142 u143 u144 u145 u146 u147 u148 u149 u150 u151 u152 u153 u154 u155 u156 u157 u158 u159 : Value) :
    Code.wp Tryz.prog (pC 4) (bodyPost Tryz.prog Tryz.f23 fun e w' => RetR ((coloned s.data.toList).map (fun b => (true, b))) e ∧ Below w.heap.size w w') ⟨#[.string s, u1, .pointer (some ⟨w.heap.size, 0, none⟩), u3, u4, u5, u6, u7, u8, u9, u10, u11, u12, u13, u14, u15, u16, u17, u18, u19, u20, u21, u22, u23, u24, u25, u26, u27, u28, u29, u30, u31, u32, u33, u34, u35, u36, u37, u38, u39, u40, u41, u42, u43, u44, u45, u46, u47, u48, u49, u50, u51, u52, u53, u54, u55, u56, u57, u58, u59, u60, u61, u62, u63, u64, u65, u66, u67, u68, u69, u70, u71, u72, u73, u74, u75, u76, u77, u78, u79, u80, u81, u82, u83, u84, u85, u86, u87, u88, u89, u90, u91, u92, u93, u94, u95, u96, u97, u98, u99, u100, u101, u102, u103, u104, u105, u106, u107, u108, u109, u110, u111, u112, u113, u114, u115, u116, u117, u118, u119, u120, u121, u122, u123, u124, u125, u126, u127, u128, u129, u130, u131, u132, u133, u134, u135, u136, u137, u138, u139, u140, u141, u142, u143, u144, u145, u146, u147, u148, u149, u150, u151, u152, u153, u154, u155, u156, u157, u158, u159], []⟩ wc := by
  have hsl : s.data.toList.length = s.size := Array.length_toList
  have hnl : s.data.toList ≠ [] := fun h => by rw [h] at hsl; simp at hsl; omega
  have HSL := Lib.hid hsl
  have KN : Hid (Lib.index s.data.toList [58, 58] = -1 → ∀ (u0 u1 u3 u4 u5 u7 u10 u11 u12 u13 u14 u15 u16 u17 u18 u19 u20 u21 u22 u23 u24 u25 u26 u27 u28 u29 u30 u31 u32 u33 u34 u35 u36 u37 u38 u39 u40 u41 u42 u43 u44 u45 u46 u47 u48 u49 u50 u51 u52 u53 u54 u55 u56 u57 u58 u59 u60 u61 u62 u63 u64 u65 u66 u67 u68 u69 u70 u71 u72 u73 u74 u75 u76 u77 u78 u79 u80 u81 u82 u83 u84 u85 u86 u87 u88 u89 u90 u91 u92 u93 u94 u95 u96 u97 u98 u99 u100 u101 u102 u103 u104 u105 u106 u107 u108 u109 u110 u111 u112 u113 u114 u115 u116 u117 u118 u119 u120 u121 u122 u123 u124 u125 u126 u127 u128 u129 u130 u131 u132 u133 u134 u135 u136 u137 u138 u139 u140 u141 u142 u143 u144 u145 u146 u147 u148 u149 u150 u151 u152 u153 u154 u155 u156 u157 u158 u159 : Value), Code.wp Tryz.prog (pC 8) (bodyPost Tryz.prog Tryz.f23 fun e w' => RetR ((coloned s.data.toList).map (fun b => (true, b))) e ∧ Below w.heap.size w w') ⟨#[u0, u1, .pointer (some ⟨w.heap.size, 0, none⟩), u3, u4, u5, .int .i64 (-1), u7, .string s, .string ByteArray.empty, u10, u11, u12, u13, u14, u15, u16, u17, u18, u19, u20, u21, u22, u23, u24, u25, u26, u27, u28, u29, u30, u31, u32, u33, u34, u35, u36, u37, u38, u39, u40, u41, u42, u43, u44, u45, u46, u47, u48, u49, u50, u51, u52, u53, u54, u55, u56, u57, u58, u59, u60, u61, u62, u63, u64, u65, u66, u67, u68, u69, u70, u71, u72, u73, u74, u75, u76, u77, u78, u79, u80, u81, u82, u83, u84, u85, u86, u87, u88, u89, u90, u91, u92, u93, u94, u95, u96, u97, u98, u99, u100, u101, u102, u103, u104, u105, u106, u107, u108, u109, u110, u111, u112, u113, u114, u115, u116, u117, u118, u119, u120, u121, u122, u123, u124, u125, u126, u127, u128, u129, u130, u131, u132, u133, u134, u135, u136, u137, u138, u139, u140, u141, u142, u143, u144, u145, u146, u147, u148, u149, u150, u151, u152, u153, u154, u155, u156, u157, u158, u159], []⟩ wc) := Lib.hid (fun h => by
    rw [← finL_none _ hnl h]
    exact parse8 ea (-1) s ByteArray.empty hs (by decide) (fun h => absurd h hs0) (fun _ => rfl) w wc hE hM)
  have KP : Hid (∀ n : Nat, Lib.index s.data.toList [58, 58] = (n : Int) → ∀ (u0 u1 u3 u4 u5 u7 u10 u11 u12 u13 u14 u15 u16 u17 u18 u19 u20 u21 u22 u23 u24 u25 u26 u27 u28 u29 u30 u31 u32 u33 u34 u35 u36 u37 u38 u39 u40 u41 u42 u43 u44 u45 u46 u47 u48 u49 u50 u51 u52 u53 u54 u55 u56 u57 u58 u59 u60 u61 u62 u63 u64 u65 u66 u67 u68 u69 u70 u71 u72 u73 u74 u75 u76 u77 u78 u79 u80 u81 u82 u83 u84 u85 u86 u87 u88 u89 u90 u91 u92 u93 u94 u95 u96 u97 u98 u99 u100 u101 u102 u103 u104 u105 u106 u107 u108 u109 u110 u111 u112 u113 u114 u115 u116 u117 u118 u119 u120 u121 u122 u123 u124 u125 u126 u127 u128 u129 u130 u131 u132 u133 u134 u135 u136 u137 u138 u139 u140 u141 u142 u143 u144 u145 u146 u147 u148 u149 u150 u151 u152 u153 u154 u155 u156 u157 u158 u159 : Value), Code.wp Tryz.prog (pC 8) (bodyPost Tryz.prog Tryz.f23 fun e w' => RetR ((coloned s.data.toList).map (fun b => (true, b))) e ∧ Below w.heap.size w w') ⟨#[u0, u1, .pointer (some ⟨w.heap.size, 0, none⟩), u3, u4, u5, .int .i64 (n : Int), u7, .string (s.extract 0 n), .string (s.extract (n + 2) s.size), u10, u11, u12, u13, u14, u15, u16, u17, u18, u19, u20, u21, u22, u23, u24, u25, u26, u27, u28, u29, u30, u31, u32, u33, u34, u35, u36, u37, u38, u39, u40, u41, u42, u43, u44, u45, u46, u47, u48, u49, u50, u51, u52, u53, u54, u55, u56, u57, u58, u59, u60, u61, u62, u63, u64, u65, u66, u67, u68, u69, u70, u71, u72, u73, u74, u75, u76, u77, u78, u79, u80, u81, u82, u83, u84, u85, u86, u87, u88, u89, u90, u91, u92, u93, u94, u95, u96, u97, u98, u99, u100, u101, u102, u103, u104, u105, u106, u107, u108, u109, u110, u111, u112, u113, u114, u115, u116, u117, u118, u119, u120, u121, u122, u123, u124, u125, u126, u127, u128, u129, u130, u131, u132, u133, u134, u135, u136, u137, u138, u139, u140, u141, u142, u143, u144, u145, u146, u147, u148, u149, u150, u151, u152, u153, u154, u155, u156, u157, u158, u159], []⟩ wc.drew) := Lib.hid (fun n h => by
    have hroom := Lib.index_room s.data.toList [58, 58] (by omega)
    have e1 : (s.extract 0 n).data.toList = s.data.toList.take n := by rw [Lib.extract_data]; simp
    have e2 : (s.extract (n + 2) s.size).data.toList = s.data.toList.drop (n + 2) := by rw [Lib.extract_data]; exact List.take_of_length_le (by rw [List.length_drop, hsl]; omega)
    rw [← finL_some _ n hnl h, ← e1, ← e2]
    refine parse8 ea (n : Int) (s.extract 0 n) (s.extract (n + 2) s.size) ?_ ?_ (fun _ => by omega) (fun h => by omega) w wc.drew hE ⟨hM.1.drewN 1, hM.env.drewN 1, below_drewN hM.bel 1⟩
    · have := congrArg List.length e1; rw [Array.length_toList, List.length_take] at this; show (s.extract 0 n).data.size ≤ 1000; omega
    · have := congrArg List.length e2; rw [Array.length_toList, List.length_drop] at this; show (s.extract (n + 2) s.size).data.size ≤ 1000; omega)
  have HRM := Lib.hid (Lib.index_room s.data.toList [58, 58])
  have HGE := Lib.hid (Lib.index_ge s.data.toList [58, 58])
  have HH0 := Lib.hid (hol_end s.data.toList (s.size - 1) (by omega))
  have HH1 := Lib.hid (hol_step s.data.toList)
  have HH2 := Lib.hid (hol_zero s.data.toList)
  have hsi : (s.size : Int) ≤ 1000 := by omega
  have hs1 : (1 : Int) ≤ (s.size : Int) := by omega
  clear hs hs0 hE hM hnl hsl
  unfold pC
  conv => arg 2; whnf
  go_wp2
  go_loopw [6, 7] (fun hv iv wr => ∃ i : Int, iv = .int .i64 i ∧ -1 ≤ i ∧ i + 2 ≤ (s.size : Int) ∧ hv = .int .i64 (hol s.data.toList (i + 1).toNat) ∧ wr = wc) (fun _ iv _ => (intOf iv + 1).toNat)
  case atStart => exact ⟨(s.size : Int) - 2, rfl, by omega, by omega, by rw [show ((s.size : Int) - 2 + 1).toNat = s.size - 1 by omega, HH0.out], rfl⟩
  case round =>
    obtain ⟨i, rfl, hi0, hi1, rfl, rfl⟩ := hrel
    by_cases hi : 0 ≤ i
    · obtain ⟨j, rfl⟩ : ∃ j : Nat, i = (j : Int) := ⟨i.toNat, by omega⟩
      have hj1 : j + 1 < s.size := by omega
      have hst := HH1.out j (by rw [HSL.out]; exact hj1)
      have hji : (j : Int) < (s.size : Int) := by omega
      have hj1i : (j : Int) + 1 < (s.size : Int) := by omega
      have e0 : s.data.toList[j]'(by rw [HSL.out]; omega) = s[j] := rfl
      have e1 : s.data.toList[j + 1]'(by rw [HSL.out]; omega) = s[j + 1] := rfl
      rw [e0, e1] at hst
      clear KN KP e0 e1
      by_cases hx : s[j] = 58
      · have hxb : ((s[j].toNat : Int) == 58) = true := by rw [hx]; rfl
        by_cases hy : s[j + 1] = 58
        · have hyb : ((s[j + 1].toNat : Int) == 58) = true := by rw [hy]; rfl
          have HS := Lib.hid (hst.trans (if_pos ⟨hx, hy⟩))
          clear hst hx hy
          go_wp2
          go_roundw
          case rel => exact ⟨(j : Int) - 1, by go_num, by omega, by omega, by rw [show ((j : Int) - 1 + 1).toNat = j by omega, HS.out], trivial⟩
          case measure => simp [intOf]
        · have hyb : ((s[j + 1].toNat : Int) == 58) = false := beq_eq_false_iff_ne.mpr (fun h => hy (UInt8.toNat_inj.1 (by have h3 : s[j + 1].toNat = 58 := (by omega); simpa using h3)))
          have HS := Lib.hid (hst.trans (if_neg (fun h => hy h.2)))
          clear hst hx hy
          go_wp2
          go_roundw
          case rel => exact ⟨(j : Int) - 1, by go_num, by omega, by omega, by rw [show ((j : Int) - 1 + 1).toNat = j by omega, HS.out], trivial⟩
          case measure => simp [intOf]
      · have hxb : ((s[j].toNat : Int) == 58) = false := beq_eq_false_iff_ne.mpr (fun h => hx (UInt8.toNat_inj.1 (by have h3 : s[j].toNat = 58 := (by omega); simpa using h3)))
        have HS := Lib.hid (hst.trans (if_neg (fun h => hx h.1)))
        clear hst hx
        go_wp2
        go_roundw
        case rel => exact ⟨(j : Int) - 1, by go_num, by omega, by omega, by rw [show ((j : Int) - 1 + 1).toNat = j by omega, HS.out, show ((j : Int) + 1).toNat = j + 1 by omega], trivial⟩
        case measure => simp [intOf]
    · obtain rfl : i = -1 := by omega
      rw [show ((-1 : Int) + 1).toNat = 0 from rfl, HH2.out]
      rcases Int.lt_or_le (Lib.index s.data.toList [58, 58]) 0 with hneg | hpos
      · have hx : Lib.index s.data.toList [58, 58] = -1 := by have := HGE.out; omega
        have hK := Lib.hid (KN.out hx)
        rw [hx]
        clear KN KP
        repeat (first | exact hK.out _ _ _ _ _ _ _ _ _ _ _ _ _ _ _ _ _ _ _ _ _ _ _ _ _ _ _ _ _ _ _ _ _ _ _ _ _ _ _ _ _ _ _ _ _ _ _ _ _ _ _ _ _ _ _ _ _ _ _ _ _ _ _ _ _ _ _ _ _ _ _ _ _ _ _ _ _ _ _ _ _ _ _ _ _ _ _ _ _ _ _ _ _ _ _ _ _ _ _ _ _ _ _ _ _ _ _ _ _ _ _ _ _ _ _ _ _ _ _ _ _ _ _ _ _ _ _ _ _ _ _ _ _ _ _ _ _ _ _ _ _ _ _ _ _ _ _ _ _ _ _ _ _ _ _ _ | go_values | go_skip | go_guarded | go_step | go_upon | go_back)
      · obtain ⟨n, hn⟩ : ∃ n : Nat, Lib.index s.data.toList [58, 58] = (n : Int) := ⟨(Lib.index s.data.toList [58, 58]).toNat, by omega⟩
        have hroom := HRM.out hpos
        rw [hn] at hroom
        have hK := Lib.hid (KP.out n hn)
        have hn1 : (n : Int) + 2 ≤ (s.size : Int) := by have := HSL.out; simp at hroom; omega
        rw [hn]
        clear KN KP hroom hpos
        go_upto_region 16 with (fail)
        go_region
        all_goals
          repeat (first | exact hK.out _ _ _ _ _ _ _ _ _ _ _ _ _ _ _ _ _ _ _ _ _ _ _ _ _ _ _ _ _ _ _ _ _ _ _ _ _ _ _ _ _ _ _ _ _ _ _ _ _ _ _ _ _ _ _ _ _ _ _ _ _ _ _ _ _ _ _ _ _ _ _ _ _ _ _ _ _ _ _ _ _ _ _ _ _ _ _ _ _ _ _ _ _ _ _ _ _ _ _ _ _ _ _ _ _ _ _ _ _ _ _ _ _ _ _ _ _ _ _ _ _ _ _ _ _ _ _ _ _ _ _ _ _ _ _ _ _ _ _ _ _ _ _ _ _ _ _ _ _ _ _ _ _ _ _ _ | go_values | go_skip | go_guarded | go_step | go_upon | go_back)
end Go.Proofs.YtmcgkknpkocgoaaGreatDoor.Ad

/- linkboyref02.Parse: the whole. -/
namespace Go.Proofs.YtmcgkknpkocgoaaGreatDoor.Ad
open Go.RowKit Go.Proofs.YtmcgkknpkocgoaaGreatDoor.Mem Go.Proofs.YtmcgkknpkocgoaaGreatDoor.Num Go.Proofs.YtmcgkknpkocgoaaGreatDoor.Err Go.Proofs.YtmcgkknpkocgoaaGreatDoor.AdP
open Go.Proofs.YtmcgkknpkocgoaaGreatDoor.Head (pad pad_len adCells_one adCells_len infoAd splice_ad)
open Go.Proofs.YtmcgkknpkocgoaaGreatDoor.Addr (adV adA adCells)
set_option linter.unusedVariables false
set_option linter.unusedSimpArgs false
set_option maxRecDepth 100000
attribute [-go_sem] Builtin.append_ loadCells loadCellsFrom storeCells
theorem has_one (l : List UInt8) : Lib.contains l [58] = decide (58 ∈ l) := by
  unfold Lib.contains
  rw [Bool.eq_iff_iff, decide_eq_true_iff, decide_eq_true_iff]
  have key : ∀ j, Lib.occAt l [58] j = true ↔ l[j]? = some 58 := by
    intro j
    unfold Lib.occAt
    cases hd : l.drop j with
    | nil =>
      have : l[j]? = none := List.getElem?_eq_none (by have := congrArg List.length hd; rw [List.length_drop] at this; simp at this; omega)
      rw [this]; simp [List.isPrefixOf]
    | cons b r =>
      have : l[j]? = some b := by
        have h := congrArg List.head? hd
        rw [List.head?_drop] at h
        exact h
      rw [this]
      show ((58 : UInt8) == b && true) = true ↔ _
      rw [Bool.and_true, beq_iff_eq]
      exact ⟨fun h => by rw [h], fun h => (Option.some.inj h).symm⟩
  rcases Lib.index_spec l [58] with ⟨h1, h2⟩ | ⟨i, h1, h2, h3, _⟩
  · rw [h1]
    constructor
    · intro h; omega
    · intro h
      obtain ⟨j, hj, he⟩ := List.getElem_of_mem h
      have := (key j).2 (by rw [List.getElem?_eq_getElem hj, he])
      rw [h2 j (by omega)] at this
      cases this
  · rw [h1]
    constructor
    · intro _
      exact List.mem_of_getElem? ((key i).1 h3)
    · intro _; omega
set_option maxHeartbeats 16000000 in
theorem rparse_calls (ea : Addr) (s : ByteArray) (w : World) (hE : Env ea w) (hs : s.size ≤ 1000) :
    Calls Tryz.prog 23 #[.string s] w fun e w' => RetR (parseA s.data.toList) e ∧ Below w.heap.size w w' := by
  have hsl : s.data.toList.length = s.size := Array.length_toList
  have HSL := Lib.hid hsl
  have hsi : (s.size : Int) ≤ 1000 := by omega
  have HF := Lib.hid (fun W hE => four_calls ea s W hE hs)
  have hM := Mid.start hE
  have HM := Lib.hid hM
  have hlen := dotted_len s.data.toList
  have KC : Hid (58 ∈ s.data.toList → ∀ (u1 u3 u4 u5 u6 u7 u8 u9 u10 u11 u12 u13 u14 u15 u16 u17 u18 u19 u20 u21 u22 u23 u24 u25 u26 u27 u28 u29 u30 u31 u32 u33 u34 u35 u36 u37 u38 u39 u40 u41 u42 u43 u44 u45 u46 u47 u48 u49 u50 u51 u52 u53 u54 u55 u56 u57 u58 u59 u60 u61 u62 u63 u64 u65 u66 u67 u68 u69 u70 u71 u72 u73 u74 u75 u76 u77 u78 u79 u80 u81 u82 u83 u84 u85 u86 u87 u88 u89 u90 u91 u92 u93 u94 u95 u96 u97 u98 u99 u100 u101 u102 u103 u104 u105 u106 u107 u108 u109 u110 u111 u112 u113 u114 u115 u116 u117 u118 u119 u120 u121 u122 u123 u124 u125 u126 u127 u128 u129 u130 u131 u132 u133 u134 u135 u136 u137 u138 u139 u140 u141 u142 u143 u144 u145 u146 u147 u148 u149 u150 u151 u152 u153 u154 u155 u156 u157 u158 u159 : Value), Code.wp Tryz.prog (pC 4) (bodyPost Tryz.prog Tryz.f23 fun e w' => RetR ((coloned s.data.toList).map (fun b => (true, b))) e ∧ Below w.heap.size w w') ⟨#[.string s, u1, .pointer (some ⟨w.heap.size, 0, none⟩), u3, u4, u5, u6, u7, u8, u9, u10, u11, u12, u13, u14, u15, u16, u17, u18, u19, u20, u21, u22, u23, u24, u25, u26, u27, u28, u29, u30, u31, u32, u33, u34, u35, u36, u37, u38, u39, u40, u41, u42, u43, u44, u45, u46, u47, u48, u49, u50, u51, u52, u53, u54, u55, u56, u57, u58, u59, u60, u61, u62, u63, u64, u65, u66, u67, u68, u69, u70, u71, u72, u73, u74, u75, u76, u77, u78, u79, u80, u81, u82, u83, u84, u85, u86, u87, u88, u89, u90, u91, u92, u93, u94, u95, u96, u97, u98, u99, u100, u101, u102, u103, u104, u105, u106, u107, u108, u109, u110, u111, u112, u113, u114, u115, u116, u117, u118, u119, u120, u121, u122, u123, u124, u125, u126, u127, u128, u129, u130, u131, u132, u133, u134, u135, u136, u137, u138, u139, u140, u141, u142, u143, u144, u145, u146, u147, u148, u149, u150, u151, u152, u153, u154, u155, u156, u157, u158, u159], []⟩ (w.alloc (.cells zeroCs.toArray 24))) := Lib.hid (fun h => parse4 ea s hs (fun h0 => by rw [List.eq_nil_of_length_eq_zero (hsl.trans h0)] at h; cases h) w _ hE hM)
  have HP : Hid (parseA s.data.toList = if 58 ∈ s.data.toList then (coloned s.data.toList).map (fun b => (true, b)) else (dotted s.data.toList).map (fun b => (false, b))) := Lib.hid (by unfold parseA; rw [has_one]; simp only [decide_eq_true_iff])
  clear hs hE hM hsl
  go_enter Tryz.func23, Tryz.ntmps23
  go_wp2
  go_loopw [4, 5] (fun cv iv wr => ∃ k : Nat, iv = .int .i64 (k : Int) ∧ k ≤ s.size ∧ cv = .bool (decide (58 ∈ s.data.toList.take k)) ∧ wr = w.alloc (.cells zeroCs.toArray 24)) (fun _ iv _ => s.size - (intOf iv).toNat)
  case atStart => exact ⟨0, rfl, Nat.zero_le _, by simp, rfl⟩
  case round =>
    obtain ⟨k, rfl, hk, rfl, rfl⟩ := hrel
    by_cases hlt : k < s.size
    · have hki : (k : Int) < (s.size : Int) := by omega
      have htk : s.data.toList.take (k + 1) = s.data.toList.take k ++ [s[k]] := List.take_succ_eq_append_getElem (by rw [HSL.out]; exact hlt)
      clear KC HF
      by_cases hin : 58 ∈ s.data.toList.take k
      · have hd1 : decide (58 ∈ s.data.toList.take k) = true := decide_eq_true hin
        have HD := Lib.hid (show decide (58 ∈ s.data.toList.take (k + 1)) = true from decide_eq_true (by rw [htk]; exact List.mem_append_left _ hin))
        rw [hd1]
        clear htk hin hd1
        go_wp2
        go_roundw
        case rel => exact ⟨k + 1, by go_num, by omega, by rw [HD.out], trivial⟩
        case measure => simp [intOf]; omega
      · have hd1 : decide (58 ∈ s.data.toList.take k) = false := decide_eq_false hin
        by_cases hx : s[k] = 58
        · have hxb : ((s[k].toNat : Int) == 58) = true := by rw [hx]; rfl
          have HD := Lib.hid (show decide (58 ∈ s.data.toList.take (k + 1)) = true from decide_eq_true (by rw [htk, hx]; simp))
          rw [hd1]
          clear htk hin hd1 hx
          go_wp2
          go_roundw
          case rel => exact ⟨k + 1, by go_num, by omega, by rw [HD.out], trivial⟩
          case measure => simp [intOf]; omega
        · have hxb : ((s[k].toNat : Int) == 58) = false := beq_eq_false_iff_ne.mpr (fun h => hx (UInt8.toNat_inj.1 (by have h3 : s[k].toNat = 58 := (by omega); simpa using h3)))
          have HD := Lib.hid (show decide (58 ∈ s.data.toList.take (k + 1)) = false from decide_eq_false (by rw [htk, List.mem_append]; rintro (h | h); exact hin h; exact hx (List.mem_singleton.1 h).symm))
          rw [hd1]
          clear htk hin hd1 hx
          go_wp2
          go_roundw
          case rel => exact ⟨k + 1, by go_num, by omega, by rw [HD.out], trivial⟩
          case measure => simp [intOf]; omega
    · obtain rfl : k = s.size := by omega
      rw [show s.data.toList.take s.size = s.data.toList by rw [← HSL.out, List.take_length]]
      by_cases hin : 58 ∈ s.data.toList
      · rw [decide_eq_true hin]
        have HQ := Lib.hid (HP.out.trans (if_pos hin))
        have KX := KC.out hin
        rw [← HQ.out] at KX
        have hK := Lib.hid KX
        clear KX KC HF HP hin
        repeat (first | exact hK.out _ _ _ _ _ _ _ _ _ _ _ _ _ _ _ _ _ _ _ _ _ _ _ _ _ _ _ _ _ _ _ _ _ _ _ _ _ _ _ _ _ _ _ _ _ _ _ _ _ _ _ _ _ _ _ _ _ _ _ _ _ _ _ _ _ _ _ _ _ _ _ _ _ _ _ _ _ _ _ _ _ _ _ _ _ _ _ _ _ _ _ _ _ _ _ _ _ _ _ _ _ _ _ _ _ _ _ _ _ _ _ _ _ _ _ _ _ _ _ _ _ _ _ _ _ _ _ _ _ _ _ _ _ _ _ _ _ _ _ _ _ _ _ _ _ _ _ _ _ _ _ _ _ _ _ _ _ _ | go_values | go_skip | go_guarded | go_step | go_upon | go_back)
      · rw [decide_eq_false hin]
        have HQ := Lib.hid (HP.out.trans (if_neg hin))
        have HLN := Lib.hid (dotted_len s.data.toList)
        clear KC HP hin
        cases hr : dotted s.data.toList with
        | none =>
          rw [hr] at HF HQ
          clear hr
          go_wp2_with (go_at_call 90; ((with_reducible refine (HF.out _ HM.out.env).mono ?_); rintro e w2 ⟨hq, hb2⟩; obtain rfl : e = .returned (.tuple #[.agg zeroCs.toArray, .bool false]) := hq; have HM2 := Lib.hid (HM.out.below hb2); have st := HM2.out.store0; have ld := HM2.out.load0; have HB2 := Lib.hid HM2.out.bel; clear hb2))
          exact bodyPost_ret (v := .tuple #[.agg zeroCs.toArray, .bool false]) (by simp [results, Tryz.results23, go_sem, ld]) rfl ⟨by rw [HQ.out]; exact retR_none, HB2.out⟩
        | some b =>
          have HLB := Lib.hid (HLN.out b hr)
          rw [hr] at HF HQ
          clear hr HLN
          go_wp2_with (first
            | (go_at_call 90; ((with_reducible refine (HF.out _ HM.out.env).mono ?_); rintro e w2 ⟨hq, hb2⟩; obtain rfl : e = .returned (.tuple #[adV false b, .bool true]) := hq; have HM2 := Lib.hid (HM.out.below hb2); clear hb2))
            | (refine wp_store_blk rfl 24 (.tmp 2) (.tmp 36) rfl w.heap.size 0 (adCells false zero16) (adCells false b) 24 _ rfl rfl rfl HM2.out.1 (by rw [adCells_len _ _ HLB.out]; decide) (by rw [adCells_len _ _ HLB.out]; exact infoAd) (adCells_one _ _) (by rw [adCells_len _ _ HLB.out]; decide) ?_; intro w7 hk7 ha7; have HK7 := Lib.hid hk7; have HB7 : Hid (Below w.heap.size w w7) := Lib.hid (below_alt HM2.out.bel ha7 HM2.out.bel.size (fun k hk => by omega)); clear hk7 ha7))
          have hk7 := HK7.out
          rw [splice_all _ _ (by rw [adCells_len _ _ HLB.out]; decide)] at hk7
          have hres : (loadCells ⟨w.heap.size, 0, none⟩ 17).run Tryz.prog w7 = .ok (adA false b) w7 := hk7.load 0 17 (adCells false b) (by rw [List.drop_zero, List.take_of_length_le (by rw [adCells_len _ _ HLB.out]; omega)]) (adCells_len _ _ HLB.out)
          exact bodyPost_ret (v := .tuple #[adV false b, .bool true]) (by simp [results, Tryz.results23, go_sem, hres]) rfl ⟨by rw [HQ.out]; rfl, HB7.out⟩
end Go.Proofs.YtmcgkknpkocgoaaGreatDoor.Ad

