/- addr.coloned: the address of eight groups. -/
import Derived.Test.YtmcgkknpkocgoaaGreatDoorAdB
import Derived.Test.YtmcgkknpkocgoaaGreatDoorHeadA
import Derived.Deep.RegionHeld3
namespace Go.Proofs.YtmcgkknpkocgoaaGreatDoor.Ad
open Go.RowKit Go.Proofs.YtmcgkknpkocgoaaGreatDoor.Mem Go.Proofs.YtmcgkknpkocgoaaGreatDoor.Num Go.Proofs.YtmcgkknpkocgoaaGreatDoor.Err Go.Proofs.YtmcgkknpkocgoaaGreatDoor.AdP
open Go.Proofs.YtmcgkknpkocgoaaGreatDoor.Head (pad pad_len adCells_one adCells_len infoAd splice_ad)
open Go.Proofs.YtmcgkknpkocgoaaGreatDoor.Addr (adV adA adCells)
set_option linter.unusedVariables false
set_option linter.unusedSimpArgs false
set_option maxRecDepth 100000
attribute [-go_sem] Builtin.append_ loadCells loadCellsFrom storeCells
def zero16 : List UInt8 := List.replicate 16 0
/-- The address of eight groups. -/
def coloned (s : List UInt8) : Option (List UInt8) := match row (Lib.cut s [58, 58]).1, row (Lib.cut s [58, 58]).2.1 with
  | some a, some b => if s = [] ∨ ((Lib.cut s [58, 58]).2.2 = true ∧ 14 < a.length + b.length) ∨ ((Lib.cut s [58, 58]).2.2 = false ∧ a.length + b.length ≠ 16) then none
    else some (a ++ List.replicate (16 - a.length - b.length) 0 ++ b)
  | _, _ => none
/-- What a parse of an address answers. -/
def RetAd (ea : Addr) (r : Option (Bool × List UInt8)) (e : Ending) : Prop := match r with
  | some (six, b) => e = .returned (.tuple #[adV six b, .nilIface])
  | none => e = .returned (.tuple #[adV false zero16, ev ea])
theorem setCell_same {b : Nat} {cs : List Value} {t : TypeId} {w : World} (h : Blk b cs t w) (i : Nat) (v : Value) (hv : cs[i]? = some v) : w.setCell ⟨b, i, none⟩ v = w := by
  have key : (w.setCell ⟨b, i, none⟩ v).heap = w.heap := by
    unfold World.setCell
    apply Array.ext_getElem?
    intro k
    simp only [Array.getElem?_modify]
    split
    · rename_i hk
      subst hk
      rw [show w.heap[b]? = _ from h]
      obtain ⟨hi1, hi2⟩ := List.getElem?_eq_some_iff.1 hv
      simp [← hi2]
    · rfl
  have e : w.setCell ⟨b, i, none⟩ v = { w with heap := (w.setCell ⟨b, i, none⟩ v).heap } := rfl
  rw [e, key]
theorem setCells_same {b : Nat} {cs : List Value} {t : TypeId} {w : World} (h : Blk b cs t w) (vs : List Value) (o : Nat) (hv : ∀ j u, vs[j]? = some u → cs[o + j]? = some u) : w.setCells b o vs = w := by
  induction vs generalizing o with
  | nil => rfl
  | cons v vs ih =>
    have e : w.setCells b o (v :: vs) = (w.setCell ⟨b, o, none⟩ v).setCells b (o + 1) vs := rfl
    rw [e, setCell_same h o v (by simpa using hv 0 v rfl)]
    exact ih (o + 1) (fun j u hu => by have := hv (j + 1) u (by simpa using hu); rw [← this]; congr 1; omega)
theorem store_same {P : Program} {b : Nat} {cs : List Value} {t : TypeId} {w : World} (hb : Blk b cs t w) (h1 : ∀ v ∈ cs, v.oneCell' = true) : (storeCells ⟨b, 0, none⟩ cs).run P w = .ok () w := by
  have hs := run_storeCells_cells (P := P) b 0 cs 0 w (fun j hj => by simpa using ((hb.there 0 cs.length (by omega)) j hj).1) (fun j hj => by simpa using ((hb.there 0 cs.length (by omega)) j hj).2) h1
  rw [Nat.add_zero, setCells_same hb cs 0 (fun j u hu => by simpa using hu)] at hs
  exact hs

theorem zero_one : ∀ v ∈ (adCells false zero16), v.oneCell' = true := adCells_one _ _
/-- The zero address's cells, written out. -/
abbrev zeroCs : List Value := [.bool false, .int .u8 0, .int .u8 0, .int .u8 0, .int .u8 0, .int .u8 0, .int .u8 0, .int .u8 0, .int .u8 0, .int .u8 0, .int .u8 0, .int .u8 0, .int .u8 0, .int .u8 0, .int .u8 0, .int .u8 0, .int .u8 0]
theorem zeroCs_eq : adCells false zero16 = zeroCs := rfl
theorem cut_calls (ea : Addr) (s : ByteArray) (sep : ByteArray) (w : World) (hE : Env ea w) (hs : s.size ≤ 4294967000) :
    Calls Tryz.prog 106 #[.string s, .string sep] w fun e w' => (e = .returned (.tuple #[.string (str (Lib.cut s.data.toList sep.data.toList).1), .string (str (Lib.cut s.data.toList sep.data.toList).2.1), .bool (Lib.cut s.data.toList sep.data.toList).2.2])) ∧ Below w.heap.size w w' := by
  obtain ⟨m, hm⟩ := hE.mx
  refine (Tryz.strings_Cut s sep m w (by omega) hm).mono ?_
  rintro e w' ⟨rfl, n, rfl⟩
  exact ⟨rfl, below_drewN (Below.refl _ _) n⟩
theorem cut_len (s sep : List UInt8) : (Lib.cut s sep).1.length ≤ s.length ∧ (Lib.cut s sep).2.1.length ≤ s.length := by
  unfold Lib.cut
  split <;> simp <;> omega
theorem ret_row_none {base : Nat} {w' : World} {e : Ending} {r : Option (List UInt8)} (h : RetRow base w' r e) (hr : r = none) : e = .returned (.tuple #[.slice none 0 0, .bool false]) := by subst hr; exact h
theorem ret_row_some {base : Nat} {w' : World} {e : Ending} {r : Option (List UInt8)} {b : List UInt8} (h : RetRow base w' r e) (hr : r = some b) : ∃ A c, e = .returned (.tuple #[.slice A b.length c, .bool true]) ∧ b.length ≤ c ∧ c ≤ 9223372036854775807 ∧ Hid (Row eU8 w' (.slice A b.length c) b) := by
  subst hr
  obtain ⟨v, rfl, ho⟩ := h
  obtain ⟨A, c, rfl, h1, h2, h3⟩ := ho.row.parts
  exact ⟨A, c, rfl, h1, h2, Lib.hid h3⟩
/-- The parameters' size. -/
theorem str_size (l : List UInt8) : (str l).size = l.length := by show l.toArray.size = l.length; simp
/-- What stands behind both rows: the result's cells are noughts yet. -/
def Mid (ea : Addr) (w : World) (W : World) : Prop := Blk w.heap.size (adCells false zero16) 24 W ∧ Env ea W ∧ Below w.heap.size w W
theorem Mid.env {ea : Addr} {w W : World} (h : Mid ea w W) : Env ea W := h.2.1
theorem Mid.bel {ea : Addr} {w W : World} (h : Mid ea w W) : Below w.heap.size w W := h.2.2
theorem Mid.below {ea : Addr} {w W W1 : World} (h : Mid ea w W) (hb : Below W.heap.size W W1) : Mid ea w W1 := ⟨h.1.below hb, h.2.1.below hb, h.2.2.trans (hb.mono h.2.2.size)⟩
theorem Mid.start {ea : Addr} {w : World} (h : Env ea w) : Mid ea w (w.alloc (.cells zeroCs.toArray 24)) := ⟨Blk.new w (adCells false zero16) _ _ _ rfl rfl, h.alloc _, (Below.refl _ _).alloc (Nat.le_refl _) _⟩
theorem Mid.store {ea : Addr} {w W : World} (h : Mid ea w W) (n : Nat) : (storeCells ⟨w.heap.size, 0, none⟩ zeroCs).run Tryz.prog (W.drewN n) = .ok () (W.drewN n) := store_same (h.1.drewN n) zero_one
theorem Mid.load {ea : Addr} {w W : World} (h : Mid ea w W) (n : Nat) : (loadCells ⟨w.heap.size, 0, none⟩ 17).run Tryz.prog (W.drewN n) = .ok zeroCs.toArray (W.drewN n) := (h.1.drewN n).load 0 17 zeroCs rfl rfl
theorem Mid.store1 {ea : Addr} {w W : World} (h : Mid ea w W) : (storeCells ⟨w.heap.size, 0, none⟩ zeroCs).run Tryz.prog W.drew = .ok () W.drew := h.store 1
theorem Mid.load1 {ea : Addr} {w W : World} (h : Mid ea w W) : (loadCells ⟨w.heap.size, 0, none⟩ 17).run Tryz.prog W.drew = .ok zeroCs.toArray W.drew := h.load 1
theorem ret_none (ea : Addr) : RetAd ea none (.returned (.tuple #[.agg zeroCs.toArray, ev ea])) := rfl
set_option maxHeartbeats 2000000 in
theorem coloned_b1 (ea : Addr) (s : ByteArray) (p1 p2 : List UInt8) (p3 : Bool) (w : World) (hE : Env ea w) (hs : s.size ≤ 1000) (hp : Lib.cut s.data.toList [58, 58] = (p1, p2, p3)) (h1 : row p1 = none) (h2 : row p2 = none) :
    Calls Tryz.prog 86 #[.string s] w fun e w' => RetAd ea none e ∧ Below w.heap.size w w' := by
  have hsl : s.data.toList.length = s.size := Array.length_toList
  have hcl := cut_len s.data.toList [58, 58]
  rw [hp] at hcl
  have KC : Hid (∀ W, Env ea W → Calls Tryz.prog 106 #[.string s, .string ⟨#[58, 58]⟩] W fun e w' => (e = .returned (.tuple #[.string (str p1), .string (str p2), .bool p3])) ∧ Below W.heap.size W w') := Lib.hid (fun W hE => by
    have := cut_calls ea s ⟨#[58, 58]⟩ W hE (by omega)
    rw [show ((⟨#[58, 58]⟩ : ByteArray).data.toList) = [58, 58] from rfl, hp] at this
    exact this)
  have KH : Hid (∀ W, Env ea W → Calls Tryz.prog 135 #[.string (str p1)] W fun e w' => RetRow W.heap.size w' (row p1) e ∧ Below W.heap.size W w') := Lib.hid (fun W hE => row_calls ea (str p1) W hE (by rw [str_size]; simp only at hcl; omega))
  have KT : Hid (∀ W, Env ea W → Calls Tryz.prog 135 #[.string (str p2)] W fun e w' => RetRow W.heap.size w' (row p2) e ∧ Below W.heap.size W w') := Lib.hid (fun W hE => row_calls ea (str p2) W hE (by rw [str_size]; simp only at hcl; omega))
  have HM := Lib.hid (Mid.start hE)
  have HR1 := Lib.hid h1
  have HR2 := Lib.hid h2
  clear h1 h2
  clear hsl hcl hp hs hE
  go_enter Tryz.func86, Tryz.ntmps86
  go_upto_region 6 with (first
    | (go_at_call 106; ((with_reducible refine (KC.out _ HM.out.env).mono ?_); rintro e w1 ⟨rfl, hb1⟩; have HM1 := Lib.hid (HM.out.below hb1); clear hb1))
    | (go_at_call 135; ((with_reducible refine (KH.out _ HM1.out.env).mono ?_); rintro e w2 ⟨hr, hb2⟩; obtain rfl := ret_row_none hr HR1.out; have HM2 := Lib.hid (HM1.out.below hb2); clear hb2 hr))
    | (go_at_call 135; ((with_reducible refine (KT.out _ HM2.out.env).mono ?_); rintro e w3 ⟨hr, hb3⟩; obtain rfl := ret_row_none hr HR2.out; have HM3 := Lib.hid (HM2.out.below hb3); clear hb3 hr)))
  have st := HM3.out.store1
  have ld := HM3.out.load1
  have cF := HM3.out.env.form.1
  have HB3 := Lib.hid HM3.out.bel
  unfold ev at cF
  clear HM HM1 HM2 HM3 KC KH KT
  go_region
  all_goals go_wp2
  all_goals exact bodyPost_ret (v := .tuple #[.agg zeroCs.toArray, .iface 226 (.pointer (some ea))]) (by simp [results, Tryz.results86, go_sem, ld]) rfl ⟨ret_none ea, below_drewN HB3.out 1⟩
set_option maxHeartbeats 2000000 in
theorem coloned_b2 (ea : Addr) (s : ByteArray) (p1 p2 : List UInt8) (p3 : Bool) (w : World) (hE : Env ea w) (hs : s.size ≤ 1000) (hp : Lib.cut s.data.toList [58, 58] = (p1, p2, p3)) (h1 : row p1 = none) (b : List UInt8) (h2 : row p2 = some b) (hbl : b.length ≤ 4096) :
    Calls Tryz.prog 86 #[.string s] w fun e w' => RetAd ea none e ∧ Below w.heap.size w w' := by
  have hsl : s.data.toList.length = s.size := Array.length_toList
  have hcl := cut_len s.data.toList [58, 58]
  rw [hp] at hcl
  have KC : Hid (∀ W, Env ea W → Calls Tryz.prog 106 #[.string s, .string ⟨#[58, 58]⟩] W fun e w' => (e = .returned (.tuple #[.string (str p1), .string (str p2), .bool p3])) ∧ Below W.heap.size W w') := Lib.hid (fun W hE => by
    have := cut_calls ea s ⟨#[58, 58]⟩ W hE (by omega)
    rw [show ((⟨#[58, 58]⟩ : ByteArray).data.toList) = [58, 58] from rfl, hp] at this
    exact this)
  have KH : Hid (∀ W, Env ea W → Calls Tryz.prog 135 #[.string (str p1)] W fun e w' => RetRow W.heap.size w' (row p1) e ∧ Below W.heap.size W w') := Lib.hid (fun W hE => row_calls ea (str p1) W hE (by rw [str_size]; simp only at hcl; omega))
  have KT : Hid (∀ W, Env ea W → Calls Tryz.prog 135 #[.string (str p2)] W fun e w' => RetRow W.heap.size w' (row p2) e ∧ Below W.heap.size W w') := Lib.hid (fun W hE => row_calls ea (str p2) W hE (by rw [str_size]; simp only at hcl; omega))
  have HM := Lib.hid (Mid.start hE)
  have HR1 := Lib.hid h1
  have HR2 := Lib.hid h2
  have hbi : (b.length : Int) ≤ 4096 := by omega
  clear h1 h2 hbl
  clear hsl hcl hp hs hE
  go_enter Tryz.func86, Tryz.ntmps86
  go_upto_region 6 with (first
    | (go_at_call 106; ((with_reducible refine (KC.out _ HM.out.env).mono ?_); rintro e w1 ⟨rfl, hb1⟩; have HM1 := Lib.hid (HM.out.below hb1); clear hb1))
    | (go_at_call 135; ((with_reducible refine (KH.out _ HM1.out.env).mono ?_); rintro e w2 ⟨hr, hb2⟩; obtain rfl := ret_row_none hr HR1.out; have HM2 := Lib.hid (HM1.out.below hb2); clear hb2 hr))
    | (go_at_call 135; ((with_reducible refine (KT.out _ HM2.out.env).mono ?_); rintro e w3 ⟨hr, hb3⟩; obtain ⟨A2, c2, rfl, hn2, hc2, HV2⟩ := ret_row_some hr HR2.out; have HM3 := Lib.hid (HM2.out.below hb3); clear hb3 hr)))
  have st := HM3.out.store1
  have ld := HM3.out.load1
  have cF := HM3.out.env.form.1
  have HB3 := Lib.hid HM3.out.bel
  unfold ev at cF
  clear HM HM1 HM2 HM3 KC KH KT
  go_region
  all_goals go_wp2
  all_goals exact bodyPost_ret (v := .tuple #[.agg zeroCs.toArray, .iface 226 (.pointer (some ea))]) (by simp [results, Tryz.results86, go_sem, ld]) rfl ⟨ret_none ea, below_drewN HB3.out 1⟩
set_option maxHeartbeats 2000000 in
theorem coloned_b3 (ea : Addr) (s : ByteArray) (p1 p2 : List UInt8) (p3 : Bool) (w : World) (hE : Env ea w) (hs : s.size ≤ 1000) (hp : Lib.cut s.data.toList [58, 58] = (p1, p2, p3)) (a : List UInt8) (h1 : row p1 = some a) (h2 : row p2 = none) (hal : a.length ≤ 4096) :
    Calls Tryz.prog 86 #[.string s] w fun e w' => RetAd ea none e ∧ Below w.heap.size w w' := by
  have hsl : s.data.toList.length = s.size := Array.length_toList
  have hcl := cut_len s.data.toList [58, 58]
  rw [hp] at hcl
  have KC : Hid (∀ W, Env ea W → Calls Tryz.prog 106 #[.string s, .string ⟨#[58, 58]⟩] W fun e w' => (e = .returned (.tuple #[.string (str p1), .string (str p2), .bool p3])) ∧ Below W.heap.size W w') := Lib.hid (fun W hE => by
    have := cut_calls ea s ⟨#[58, 58]⟩ W hE (by omega)
    rw [show ((⟨#[58, 58]⟩ : ByteArray).data.toList) = [58, 58] from rfl, hp] at this
    exact this)
  have KH : Hid (∀ W, Env ea W → Calls Tryz.prog 135 #[.string (str p1)] W fun e w' => RetRow W.heap.size w' (row p1) e ∧ Below W.heap.size W w') := Lib.hid (fun W hE => row_calls ea (str p1) W hE (by rw [str_size]; simp only at hcl; omega))
  have KT : Hid (∀ W, Env ea W → Calls Tryz.prog 135 #[.string (str p2)] W fun e w' => RetRow W.heap.size w' (row p2) e ∧ Below W.heap.size W w') := Lib.hid (fun W hE => row_calls ea (str p2) W hE (by rw [str_size]; simp only at hcl; omega))
  have HM := Lib.hid (Mid.start hE)
  have HR1 := Lib.hid h1
  have HR2 := Lib.hid h2
  have hai : (a.length : Int) ≤ 4096 := by omega
  clear h1 h2 hal
  clear hsl hcl hp hs hE
  go_enter Tryz.func86, Tryz.ntmps86
  go_upto_region 6 with (first
    | (go_at_call 106; ((with_reducible refine (KC.out _ HM.out.env).mono ?_); rintro e w1 ⟨rfl, hb1⟩; have HM1 := Lib.hid (HM.out.below hb1); clear hb1))
    | (go_at_call 135; ((with_reducible refine (KH.out _ HM1.out.env).mono ?_); rintro e w2 ⟨hr, hb2⟩; obtain ⟨A1, c1, rfl, hn1, hc1, HV1⟩ := ret_row_some hr HR1.out; have HM2 := Lib.hid (HM1.out.below hb2); clear hb2 hr))
    | (go_at_call 135; ((with_reducible refine (KT.out _ HM2.out.env).mono ?_); rintro e w3 ⟨hr, hb3⟩; obtain rfl := ret_row_none hr HR2.out; have HM3 := Lib.hid (HM2.out.below hb3); clear hb3 hr)))
  have st := HM3.out.store1
  have ld := HM3.out.load1
  have cF := HM3.out.env.form.1
  have HB3 := Lib.hid HM3.out.bel
  unfold ev at cF
  clear HM HM1 HM2 HM3 KC KH KT
  go_region
  all_goals go_wp2
  all_goals exact bodyPost_ret (v := .tuple #[.agg zeroCs.toArray, .iface 226 (.pointer (some ea))]) (by simp [results, Tryz.results86, go_sem, ld]) rfl ⟨ret_none ea, below_drewN HB3.out 1⟩
set_option maxHeartbeats 2000000 in
theorem coloned_b4 (ea : Addr) (s : ByteArray) (p1 p2 : List UInt8) (p3 : Bool) (w : World) (hE : Env ea w) (hs : s.size ≤ 1000) (hp : Lib.cut s.data.toList [58, 58] = (p1, p2, p3)) (hp3 : p3 = true) (h0 : s.size ≠ 0) (a b : List UInt8) (h1 : row p1 = some a) (h2 : row p2 = some b) (hal : a.length ≤ 4096) (hbl : b.length ≤ 4096) (hf : 14 < a.length + b.length) :
    Calls Tryz.prog 86 #[.string s] w fun e w' => RetAd ea none e ∧ Below w.heap.size w w' := by
  have hsl : s.data.toList.length = s.size := Array.length_toList
  have hcl := cut_len s.data.toList [58, 58]
  rw [hp] at hcl
  have KC : Hid (∀ W, Env ea W → Calls Tryz.prog 106 #[.string s, .string ⟨#[58, 58]⟩] W fun e w' => (e = .returned (.tuple #[.string (str p1), .string (str p2), .bool p3])) ∧ Below W.heap.size W w') := Lib.hid (fun W hE => by
    have := cut_calls ea s ⟨#[58, 58]⟩ W hE (by omega)
    rw [show ((⟨#[58, 58]⟩ : ByteArray).data.toList) = [58, 58] from rfl, hp] at this
    exact this)
  have KH : Hid (∀ W, Env ea W → Calls Tryz.prog 135 #[.string (str p1)] W fun e w' => RetRow W.heap.size w' (row p1) e ∧ Below W.heap.size W w') := Lib.hid (fun W hE => row_calls ea (str p1) W hE (by rw [str_size]; simp only at hcl; omega))
  have KT : Hid (∀ W, Env ea W → Calls Tryz.prog 135 #[.string (str p2)] W fun e w' => RetRow W.heap.size w' (row p2) e ∧ Below W.heap.size W w') := Lib.hid (fun W hE => row_calls ea (str p2) W hE (by rw [str_size]; simp only at hcl; omega))
  have HM := Lib.hid (Mid.start hE)
  subst hp3
  have HR1 := Lib.hid h1
  have HR2 := Lib.hid h2
  have hnl : s.data.toList ≠ [] := fun h => by rw [h] at hsl; simp at hsl; omega
  have hne : s.toList.isEmpty = false := by
    rw [ByteArray.toList_eq]
    cases h : s.data.toList with
    | nil => exact absurd h hnl
    | cons a l => rfl
  have hne2 : (s.toList = []) = False := by
    rw [eq_iff_iff, iff_false]; intro e; rw [e] at hne; simp at hne
  have hai : (a.length : Int) ≤ 4096 := by omega
  have hbi : (b.length : Int) ≤ 4096 := by omega
  have hff : decide (16 - (a.length : Int) - (b.length : Int) < 2) = true := decide_eq_true (by omega)
  clear h1 h2 hal hbl hf hnl h0
  clear hsl hcl hp hs hE
  go_enter Tryz.func86, Tryz.ntmps86
  go_upto_region 8 with (first
    | (go_at_call 106; ((with_reducible refine (KC.out _ HM.out.env).mono ?_); rintro e w1 ⟨rfl, hb1⟩; have HM1 := Lib.hid (HM.out.below hb1); clear hb1))
    | (go_at_call 135; ((with_reducible refine (KH.out _ HM1.out.env).mono ?_); rintro e w2 ⟨hr, hb2⟩; obtain ⟨A1, c1, rfl, hn1, hc1, HV1⟩ := ret_row_some hr HR1.out; have HM2 := Lib.hid (HM1.out.below hb2); clear hb2 hr))
    | (go_at_call 135; ((with_reducible refine (KT.out _ HM2.out.env).mono ?_); rintro e w3 ⟨hr, hb3⟩; obtain ⟨A2, c2, rfl, hn2, hc2, HV2⟩ := ret_row_some hr HR2.out; have HM3 := Lib.hid (HM2.out.below hb3); clear hb3 hr)))
  have st := HM3.out.store1
  have ld := HM3.out.load1
  have cF := HM3.out.env.form.1
  have HB3 := Lib.hid HM3.out.bel
  unfold ev at cF
  clear HM HM1 HM2 HM3 KC KH KT
  go_region
  all_goals go_wp2
  all_goals exact bodyPost_ret (v := .tuple #[.agg zeroCs.toArray, .iface 226 (.pointer (some ea))]) (by simp [results, Tryz.results86, go_sem, ld]) rfl ⟨ret_none ea, below_drewN HB3.out 1⟩
set_option maxHeartbeats 2000000 in
theorem coloned_b5 (ea : Addr) (s : ByteArray) (p1 p2 : List UInt8) (p3 : Bool) (w : World) (hE : Env ea w) (hs : s.size ≤ 1000) (hp : Lib.cut s.data.toList [58, 58] = (p1, p2, p3)) (hp3 : p3 = false) (h0 : s.size ≠ 0) (a b : List UInt8) (h1 : row p1 = some a) (h2 : row p2 = some b) (hal : a.length ≤ 4096) (hbl : b.length ≤ 4096) (hf : a.length + b.length ≠ 16) :
    Calls Tryz.prog 86 #[.string s] w fun e w' => RetAd ea none e ∧ Below w.heap.size w w' := by
  have hsl : s.data.toList.length = s.size := Array.length_toList
  have hcl := cut_len s.data.toList [58, 58]
  rw [hp] at hcl
  have KC : Hid (∀ W, Env ea W → Calls Tryz.prog 106 #[.string s, .string ⟨#[58, 58]⟩] W fun e w' => (e = .returned (.tuple #[.string (str p1), .string (str p2), .bool p3])) ∧ Below W.heap.size W w') := Lib.hid (fun W hE => by
    have := cut_calls ea s ⟨#[58, 58]⟩ W hE (by omega)
    rw [show ((⟨#[58, 58]⟩ : ByteArray).data.toList) = [58, 58] from rfl, hp] at this
    exact this)
  have KH : Hid (∀ W, Env ea W → Calls Tryz.prog 135 #[.string (str p1)] W fun e w' => RetRow W.heap.size w' (row p1) e ∧ Below W.heap.size W w') := Lib.hid (fun W hE => row_calls ea (str p1) W hE (by rw [str_size]; simp only at hcl; omega))
  have KT : Hid (∀ W, Env ea W → Calls Tryz.prog 135 #[.string (str p2)] W fun e w' => RetRow W.heap.size w' (row p2) e ∧ Below W.heap.size W w') := Lib.hid (fun W hE => row_calls ea (str p2) W hE (by rw [str_size]; simp only at hcl; omega))
  have HM := Lib.hid (Mid.start hE)
  subst hp3
  have HR1 := Lib.hid h1
  have HR2 := Lib.hid h2
  have hnl : s.data.toList ≠ [] := fun h => by rw [h] at hsl; simp at hsl; omega
  have hne : s.toList.isEmpty = false := by
    rw [ByteArray.toList_eq]
    cases h : s.data.toList with
    | nil => exact absurd h hnl
    | cons a l => rfl
  have hne2 : (s.toList = []) = False := by
    rw [eq_iff_iff, iff_false]; intro e; rw [e] at hne; simp at hne
  have hai : (a.length : Int) ≤ 4096 := by omega
  have hbi : (b.length : Int) ≤ 4096 := by omega
  have hff : (16 - (a.length : Int) - (b.length : Int) == 0) = false := beq_eq_false_iff_ne.mpr (by omega)
  have hff2 : (16 - (a.length : Int) - (b.length : Int) != 0) = true := bne_iff_ne.mpr (by omega)
  have hff3 : ¬ (16 - (a.length : Int) - (b.length : Int) = 0) := by omega
  clear h1 h2 hal hbl hf hnl h0
  clear hsl hcl hp hs hE
  go_enter Tryz.func86, Tryz.ntmps86
  go_upto_region 8 with (first
    | (go_at_call 106; ((with_reducible refine (KC.out _ HM.out.env).mono ?_); rintro e w1 ⟨rfl, hb1⟩; have HM1 := Lib.hid (HM.out.below hb1); clear hb1))
    | (go_at_call 135; ((with_reducible refine (KH.out _ HM1.out.env).mono ?_); rintro e w2 ⟨hr, hb2⟩; obtain ⟨A1, c1, rfl, hn1, hc1, HV1⟩ := ret_row_some hr HR1.out; have HM2 := Lib.hid (HM1.out.below hb2); clear hb2 hr))
    | (go_at_call 135; ((with_reducible refine (KT.out _ HM2.out.env).mono ?_); rintro e w3 ⟨hr, hb3⟩; obtain ⟨A2, c2, rfl, hn2, hc2, HV2⟩ := ret_row_some hr HR2.out; have HM3 := Lib.hid (HM2.out.below hb3); clear hb3 hr)))
  have st := HM3.out.store1
  have ld := HM3.out.load1
  have cF := HM3.out.env.form.1
  have HB3 := Lib.hid HM3.out.bel
  unfold ev at cF
  clear HM HM1 HM2 HM3 KC KH KT
  go_region
  all_goals go_wp2
  all_goals exact bodyPost_ret (v := .tuple #[.agg zeroCs.toArray, .iface 226 (.pointer (some ea))]) (by simp [results, Tryz.results86, go_sem, ld]) rfl ⟨ret_none ea, below_drewN HB3.out 1⟩
end Go.Proofs.YtmcgkknpkocgoaaGreatDoor.Ad
