/- '==' of cidrs; the chapter's example. -/
import Derived.Test.YtmcgkknpkocgoaaGreatDoorPc2
import Derived.Test.YtmcgkknpkocgoaaGreatDoorCg9
import Derived.Test.YtmcgkknpkocgoaaGreatDoorErrNum
import Derived.Test.YtmcgkknpkocgoaaGreatDoorCg8
import Derived.Test.YtmcgkknpkocgoaaGreatDoorEndsO
namespace Go.Proofs.YtmcgkknpkocgoaaGreatDoor.Ad
open Go.RowKit Go.Proofs.YtmcgkknpkocgoaaGreatDoor.Mem Go.Proofs.YtmcgkknpkocgoaaGreatDoor.Num Go.Proofs.YtmcgkknpkocgoaaGreatDoor.Err Go.Proofs.YtmcgkknpkocgoaaGreatDoor.AdP
open Go.Proofs.YtmcgkknpkocgoaaGreatDoor.Key (eql_deep key_addr key_int adL u8L InI64)
open Go.Proofs.YtmcgkknpkocgoaaGreatDoor.Head (pad pad_len adCells_one adCells_len infoAd splice_ad)
open Go.Proofs.YtmcgkknpkocgoaaGreatDoor.Addr (adV adA adCells adA_size cell_box load_box cell_six ptA ptV pt_loads)
set_option linter.unusedVariables false
set_option linter.unusedSimpArgs false
set_option maxRecDepth 100000
attribute [-go_sem] Builtin.append_ loadCells loadCellsFrom storeCells run_eql_struct
def cdL (six : Bool) (b : List UInt8) (n : Int) : List Lit := adL six b ++ [.int .i64 n]
theorem key_cidr (d : Nat) (six : Bool) (b : List UInt8) (hb : b.length = 16) (n : Int) (hn : InI64 n) : Tryz.prog.keyLits (d + 4) 74 (adCells six b ++ [.int .i64 n]) = some (cdL six b n) := by
  have hc : Tryz.prog.cellsOf 74 = 18 := by kernel_rfl
  have hc1 : Tryz.prog.cellsOf 24 = 17 := by kernel_rfl
  have hc2 : Tryz.prog.cellsOf 3 = 1 := by kernel_rfl
  rw [show d + 4 = (d + 3) + 1 from rfl]
  unfold Program.keyLits
  rw [Tryz.underlying74]
  dsimp only
  rw [if_pos ⟨by rw [ptC_len _ _ _ hb, hc], by kernel_rfl⟩]
  have e1 := key_addr d six b hb
  have e2 := key_int (d + 2) n hn
  have t1 : (adCells six b ++ [Value.int .i64 n]).take 17 = adCells six b := by rw [List.take_append_of_le_length (by rw [adCells_len _ _ hb]; decide), List.take_of_length_le (by rw [adCells_len _ _ hb]; decide)]
  have t2 : ((adCells six b ++ [Value.int .i64 n]).drop 17).take 1 = [.int .i64 n] := by
    rw [List.drop_append_of_le_length (by rw [adCells_len _ _ hb]; decide), List.drop_of_length_le (by rw [adCells_len _ _ hb]; decide)]
    rfl
  simp only [List.mapM_cons, List.mapM_nil, hc1, hc2, List.drop_zero, t1, t2, e1, e2, Option.bind_eq_bind, Option.bind_some, Option.pure_def, Option.map_some]
  simp [cdL]
theorem eq_cidr (s1 s2 : Bool) (b c : List UInt8) (n m : Int) (hb : b.length = 16) (hc : c.length = 16) (hn : InI64 n) (hm : InI64 m) (W : World) :
    (binOp .eql 74 (.agg (ptA s1 b n)) (.agg (ptA s2 c m))).run Tryz.prog W = .ok (.bool (decide (s1 = s2 ∧ b = c ∧ n = m))) W ∧ (binOp .neq 74 (.agg (ptA s1 b n)) (.agg (ptA s2 c m))).run Tryz.prog W = .ok (.bool (!decide (s1 = s2 ∧ b = c ∧ n = m))) W := by
  have hf : ∀ (s : Bool) (b : List UInt8) (n : Int), b.length = 16 → (Value.agg (ptA s b n)).formed Tryz.prog 74 = true := by
    intro s b n hb
    have hc : Tryz.prog.cellsOf 74 = 18 := by kernel_rfl
    unfold Value.formed ptA
    rw [Tryz.underlying74]
    simp only [hc]
    rw [List.size_toArray, ptC_len _ _ _ hb]
    rfl
  refine eql_deep (by kernel_rfl) (decide (s1 = s2 ∧ b = c ∧ n = m)) ?_ (hf s1 b n hb) (hf s2 c m hc) (key_cidr 0 s1 b hb n hn) (key_cidr 0 s2 c hc m hm) W
  rw [decide_eq_true_iff]
  constructor
  · rintro ⟨rfl, rfl, rfl⟩; rfl
  · intro h
    unfold cdL adL at h
    injection h with h1 h2
    injection h1 with h1
    have hl : (u8L b).length = (u8L c).length := by unfold u8L; rw [List.length_map, List.length_map, hb, hc]
    obtain ⟨h3, h4⟩ := List.append_inj h2 hl
    injection h4 with h5 _
    injection h5 with _ h6
    exact ⟨h1, u8L_inj _ _ h3, h6⟩
theorem numk (W : World) (es : List Addr) (h : Errs W es) (k : Nat) (hk : k < 18) (ep : Addr) (hp : es[k]? = some ep) : Calls Tryz.prog 24 #[.iface 226 (.pointer (some ep))] W fun e w' => e = .returned (.int .i64 ((k : Int) + 1)) ∧ Below W.heap.size W w' := by
  have hl := h.1
  have := num_calls W es h k (by omega)
  obtain ⟨h1, h2⟩ := List.getElem?_eq_some_iff.1 hp
  rw [h2] at this
  exact this
abbrev b10 : List UInt8 := [10, 0, 0, 0, 0, 0, 0, 0, 0, 0, 0, 0, 0, 0, 0, 0]
abbrev b1123 : List UInt8 := [10, 1, 2, 3, 0, 0, 0, 0, 0, 0, 0, 0, 0, 0, 0, 0]
abbrev s10 : ByteArray := ⟨#[49, 48, 46, 48, 46, 48, 46, 48, 47, 56]⟩
theorem cut10 : Lib.cut s10.data.toList [47] = (txtA false b10, [56], true) := by decide
theorem atoi8 : Lib.atoiAll [56] = .ok 8 := by decide
theorem right10 : rightC false b10 8 = true := by decide
theorem txt10 : str (txtC false b10 8) = s10 := by
  unfold txtC
  rw [if_pos right10, show (8 : Int).toNat = 8 from rfl, dec1 8 (by omega)]
  exact ByteArray.ext (by decide)
theorem contains10 : containsC false b10 8 false b1123 = true := by
  unfold containsC
  rw [right10]
  decide
set_option maxHeartbeats 4000000 in
theorem alive3_calls (ea : Addr) (w : World) (hE : Env ea w) : Calls Tryz.prog 55 #[] w fun e w' => e = .returned (.bool true) ∧ Below w.heap.size w w' := by
  have HE := Lib.hid hE
  have KP : Hid (∀ W, Env ea W → Calls Tryz.prog 56 #[.string ⟨#[49, 48, 46, 48, 46, 48, 46, 48, 47, 56]⟩] W fun e w' => e = .returned (.tuple #[.agg (ptA false b10 8), .nilIface]) ∧ Below W.heap.size W w') := Lib.hid (fun W hE =>
    cparse_ok ea s10 W hE (by decide) (by rw [cut10]) false b10 (by rw [cut10]; exact parse_txt false b10 rfl (by decide)) rfl 8 (by rw [cut10]; exact atoi8) (by omega) (by omega) (by rw [cut10]; exact dec1 8 (by omega)) (by decide) (by decide) ea)
  have KC : Hid (∀ W, Calls Tryz.prog 62 #[.agg (ptA false b10 8), .agg (adA false b1123)] W fun e w' => e = .returned (.bool true) ∧ Below W.heap.size W w') := Lib.hid (fun W => by
    have h := ccontains_calls false b10 rfl 8 false b1123 rfl W
    rw [contains10] at h
    exact h)
  have KF : Hid (∀ W, Env ea W → Calls Tryz.prog 60 #[.agg (ptA false b10 8)] W fun e w' => e = .returned (.string ⟨#[49, 48, 46, 48, 46, 48, 46, 48, 47, 56]⟩) ∧ Below W.heap.size W w') := Lib.hid (fun W hE => by
    have h := cformat_calls ea false b10 rfl 8 W hE
    rw [txt10] at h
    exact h)
  have HV : Hid (ptA false b10 8 = (adCells false b10 ++ [Value.int .i64 8]).toArray) := Lib.hid rfl
  have hpz := ptA_size false b10 8 rfl
  have HAV : Hid (adA false b1123 = #[.bool false, .int .u8 10, .int .u8 1, .int .u8 2, .int .u8 3, .int .u8 0, .int .u8 0, .int .u8 0, .int .u8 0, .int .u8 0, .int .u8 0, .int .u8 0, .int .u8 0, .int .u8 0, .int .u8 0, .int .u8 0, .int .u8 0]) := Lib.hid rfl
  rw [HAV.out] at KC
  clear hE HAV
  generalize ptA false b10 8 = pa at *
  go_enter Tryz.func55, Tryz.ntmps55
  go_wp2_with (first
    | (go_at_call 56; ((with_reducible refine (KP.out _ HE.out).mono ?_); rintro e w1 ⟨rfl, hb1⟩; have HB1 := Lib.hid hb1; clear hb1))
    | (refine wp_store_blk rfl 74 (.tmp 1) (.tmp 5) rfl w1.heap.size 0 zeroCd (adCells false b10 ++ [Value.int .i64 8]) 74 _ rfl rfl (by rw [HV.out]; rfl) (Blk.new _ _ _ _ _ rfl rfl) (by decide) infoCd (ptC_one _ _ _) (by decide) ?_; intro w2 hk2 ha2; have hb2 := below_alt (below_own_alloc w1 _) ha2 (by simp) (fun k hk => by omega); have HK2 : Hid (Blk w1.heap.size (adCells false b10 ++ [Value.int .i64 8]) 74 w2) := Lib.hid (by rw [splice_all _ _ (by decide)] at hk2; exact hk2); have HB2 : Hid (Below w.heap.size w w2) := Lib.hid (HB1.out.trans (hb2.mono HB1.out.size)); have l2 : (loadCells ⟨w1.heap.size, 0, none⟩ 18).run Tryz.prog w2 = .ok pa w2 := (by rw [HV.out]; exact HK2.out.load 0 18 _ rfl rfl); clear hk2 ha2 hb2)
    | (go_at_call 62; ((with_reducible refine (KC.out _).mono ?_); rintro e w3 ⟨rfl, hb3⟩; have HB3 := Lib.hid (HB2.out.trans (hb3.mono HB2.out.size)); have HK3 := Lib.hid (HK2.out.below hb3); have l3 : (loadCells ⟨w1.heap.size, 0, none⟩ 18).run Tryz.prog w3 = .ok pa w3 := (by rw [HV.out]; exact HK3.out.load 0 18 _ rfl rfl); clear hb3))
    | (go_at_call 60; ((with_reducible refine (KF.out _ (HE.out.below HB3.out)).mono ?_); rintro e w4 ⟨rfl, hb4⟩; have HB4 := Lib.hid (HB3.out.trans (hb4.mono HB3.out.size)); clear hb4)))
  go_ret
  exact ⟨rfl, HB4.out⟩
end Go.Proofs.YtmcgkknpkocgoaaGreatDoor.Ad

/- The law CidrContains: the walk; its row's contract. -/
namespace Go.Proofs.YtmcgkknpkocgoaaGreatDoor.Ad
open Go.RowKit Go.Proofs.YtmcgkknpkocgoaaGreatDoor.Mem Go.Proofs.YtmcgkknpkocgoaaGreatDoor.Num Go.Proofs.YtmcgkknpkocgoaaGreatDoor.Err Go.Proofs.YtmcgkknpkocgoaaGreatDoor.AdP
open Go.Proofs.YtmcgkknpkocgoaaGreatDoor.Key (InI64)
open Go.Proofs.YtmcgkknpkocgoaaGreatDoor.Open Go.WideShapes
open Go.Proofs.YtmcgkknpkocgoaaGreatDoor.Head (pad pad_len adCells_one adCells_len infoAd splice_ad)
open Go.Proofs.YtmcgkknpkocgoaaGreatDoor.Addr (adV adA adCells adA_size cell_box load_box cell_six ptA ptV pt_loads open_addr)
set_option linter.unusedVariables false
set_option linter.unusedSimpArgs false
set_option maxRecDepth 100000
attribute [-go_sem] Builtin.append_ loadCells loadCellsFrom storeCells run_eql_struct
theorem contains_cut (s3 : Bool) (a : List UInt8) (ha : a.length = 16) (n : Int) (hr : rightA s3 a = true) (h0 : 0 ≤ n) (h1 : n ≤ (widthA s3 : Int)) : containsC s3 (cutL a n.toNat) n s3 a = true := by
  unfold containsC rightC
  rw [right_cut s3 a n.toNat hr, cutL_idem, hr]
  simp [h0, h1]
def Ld3 (g : Nat) (pa qa aa : Array Value) (n : Int) (W : World) : Prop := (loadCells ⟨g, 0, none⟩ 18).run Tryz.prog W = .ok pa W ∧ (loadCells ⟨g + 1, 0, none⟩ 18).run Tryz.prog W = .ok qa W ∧ (loadCells ⟨g + 1 + 1, 0, none⟩ 17).run Tryz.prog W = .ok aa W ∧ W.cell? ⟨g, 17, none⟩ = some (.int .i64 n)
theorem ld3_of (six : Bool) (b : List UInt8) (n : Int) (hb : b.length = 16) (s2 : Bool) (c : List UInt8) (m : Int) (hc : c.length = 16) (s3 : Bool) (a : List UInt8) (ha : a.length = 16) (w W : World)
    (h : Below (((w.alloc (.cells (ptA six b n) 74)).alloc (.cells (ptA s2 c m) 74)).alloc (.cells (adA s3 a) 24)).heap.size (((w.alloc (.cells (ptA six b n) 74)).alloc (.cells (ptA s2 c m) 74)).alloc (.cells (adA s3 a) 24)) W) :
    Ld3 w.heap.size (ptA six b n) (ptA s2 c m) (adA s3 a) n W := by
  have h1 := below_allocd h
  obtain ⟨⟨x0, x1, x2⟩, x3, x4, x5⟩ := cd22_of six b n hb s2 c m hc w W h1
  have l := load_ad s3 a ha ((w.alloc (.cells (ptA six b n) 74)).alloc (.cells (ptA s2 c m) 74)) W h
  rw [World.size_alloc, World.size_alloc] at l
  exact ⟨x1, x4, l, x2⟩
set_option maxHeartbeats 8000000 in
theorem contains_bad (ea eR eA : Addr) (es : List Addr) (six : Bool) (b : List UInt8) (hb : b.length = 16) (n : Int) (hn : InI64 n) (s2 : Bool) (c : List UInt8) (hc : c.length = 16) (m : Int) (s3 : Bool) (a : List UInt8) (ha : a.length = 16) (w : World) (hE : Env ea w) (he : Errs w es) (hpR : es[0]? = some eR) (hpA : es[7]? = some eA) (hR : Holds w 0 eR) (hA : Holds w 7 eA) (hr : rightA s3 a = false) :
    Calls Tryz.prog 11 #[ptV six b n, ptV s2 c m, adV s3 a] w fun e w' => e = .returned (.bool true) ∧ Below w.heap.size w w' := by
  obtain ⟨W0, hW0⟩ : ∃ W0, W0 = (((w.alloc (.cells (ptA six b n) 74)).alloc (.cells (ptA s2 c m) 74)).alloc (.cells (adA s3 a) 24)) := ⟨_, rfl⟩
  have hB0 : Below w.heap.size w W0 := by rw [hW0]; exact (((Below.refl _ _).alloc (Nat.le_refl _) _).alloc (by simp) _).alloc (by simp; omega) _
  have HLD : Hid (∀ W, Below W0.heap.size W0 W → Ld3 w.heap.size (ptA six b n) (ptA s2 c m) (adA s3 a) n W) := Lib.hid (by rw [hW0]; exact fun W h => ld3_of six b n hb s2 c m hc s3 a ha w W h)
  have HW0 := Lib.hid hW0
  have HB0 := Lib.hid hB0
  have HE := Lib.hid hE
  have KA := Lib.hid (fun W hE => alive3_calls ea W hE)
  have K1 : Hid (∀ W, Calls Tryz.prog 62 #[.agg (ptA six b n), .agg (adA s3 a)] W fun e w' => e = .returned (.bool (containsC six b n s3 a)) ∧ Below W.heap.size W w') := Lib.hid (fun W => ccontains_calls six b hb n s3 a ha W)
  have K2 : Hid (∀ W, Calls Tryz.prog 63 #[.agg (ptA six b n), .agg (adA s3 a)] W fun e w' => e = .returned (.bool (containsC six b n s3 a)) ∧ Below W.heap.size W w') := Lib.hid (fun W => rcontains_calls six b hb n s3 a ha W)
  have K3 : Hid (∀ W, Calls Tryz.prog 64 #[.agg (ptA six b n), .agg (ptA s2 c m)] W fun e w' => e = .returned (.bool (coversC six b n s2 c m)) ∧ Below W.heap.size W w') := Lib.hid (fun W => covers_calls six b hb n s2 c hc m W)
  have K4 : Hid (∀ W, Calls Tryz.prog 65 #[.agg (ptA six b n), .agg (ptA s2 c m)] W fun e w' => e = .returned (.bool (coversC six b n s2 c m)) ∧ Below W.heap.size W w') := Lib.hid (fun W => rcovers_calls six b hb n s2 c hc m W)
  have K5 : Hid (∀ W, Calls Tryz.prog 66 #[.agg (ptA six b n), .agg (ptA s2 c m)] W fun e w' => e = .returned (.int .i64 (cmpC six b n s2 c m)) ∧ Below W.heap.size W w') := Lib.hid (fun W => ccompare_calls six b hb n s2 c hc m W)
  have K6 : Hid (∀ W, Calls Tryz.prog 67 #[.agg (ptA six b n), .agg (ptA s2 c m)] W fun e w' => e = .returned (.int .i64 (cmpC six b n s2 c m)) ∧ Below W.heap.size W w') := Lib.hid (fun W => rccompare_calls six b hb n s2 c hc m W)
  have hz1 := ptA_size six b n hb
  have hz2 := ptA_size s2 c m hc
  have hz3 := adA_size s3 a ha
  have KO : Hid (∀ W, Below W0.heap.size W0 W → Calls Tryz.prog 68 #[.agg (adA s3 a), .int .i64 n] W fun e w' => RetCd eA none e ∧ Below W.heap.size W w') := Lib.hid (fun W h => of_bad s3 a ha n W hr eA ((hA.below hB0).below h))
  have KR : Hid (∀ W, Calls Tryz.prog 17 #[.agg (adA s3 a)] W fun e w' => e = .returned (.bool false) ∧ Below W.heap.size W w') := Lib.hid (fun W => by have h := rright_calls' s3 a ha W; rw [hr] at h; exact h)
  have KN : Hid (∀ W, Below W0.heap.size W0 W → Calls Tryz.prog 24 #[.iface 226 (.pointer (some eA))] W fun e w' => e = .returned (.int .i64 8) ∧ Below W.heap.size W w') := Lib.hid (fun W h => numk W es ((he.below hB0).below h) 7 (by omega) eA hpA)
  have HQ : Hid (∀ W, (binOp .eql 74 (.agg zeroCd.toArray) (.agg zeroCd.toArray)).run Tryz.prog W = .ok (.bool true) W) := Lib.hid (fun W => (eq_cidr false false zero16 zero16 0 0 rfl rfl ⟨by decide, by decide⟩ ⟨by decide, by decide⟩ W).1)
  show Calls Tryz.prog 11 #[.agg (ptA six b n), .agg (ptA s2 c m), .agg (adA s3 a)] w fun e w' => e = .returned (.bool true) ∧ Below w.heap.size w w'
  clear hW0 hB0 hE he hpR hpA hR hA hr
  generalize adA s3 a = aa at *
  generalize ptA six b n = pa at *
  generalize ptA s2 c m = qa at *
  generalize containsC six b n s3 a = r1 at *
  generalize coversC six b n s2 c m = r2 at *
  generalize cmpC six b n s2 c m = r3 at *
  have HL3 : Hid (∀ W, Below W0.heap.size W0 W → (loadCells ⟨w.heap.size, 0, none⟩ 18).run Tryz.prog W = .ok pa W ∧ (loadCells ⟨w.heap.size + 1, 0, none⟩ 18).run Tryz.prog W = .ok qa W ∧ (loadCells ⟨w.heap.size + 1 + 1, 0, none⟩ 17).run Tryz.prog W = .ok aa W) := Lib.hid (fun W h => ⟨(HLD.out W h).1, (HLD.out W h).2.1, (HLD.out W h).2.2.1⟩)
  go_enter Tryz.func11, Tryz.ntmps11
  go_upto_region 1 with (fail)
  rw [← HW0.out]
  go_upto_region 3 with (go_at_call 55; ((with_reducible refine (KA.out _ (HE.out.below HB0.out)).mono ?_); rintro e w1 ⟨rfl, hb1⟩; have HB1 := Lib.hid hb1; clear hb1))
  have HW := Lib.hid (fun W (h : Below w1.heap.size w1 W) => HB1.out.trans (h.mono HB1.out.size))
  go_region_held3 (fun W : World => (loadCells ⟨w.heap.size, 0, none⟩ 18).run Tryz.prog W = .ok pa W ∧ (loadCells ⟨w.heap.size + 1, 0, none⟩ 18).run Tryz.prog W = .ok qa W ∧ (loadCells ⟨w.heap.size + 1 + 1, 0, none⟩ 17).run Tryz.prog W = .ok aa W) (first | exact HL3.out _ (HW.out _ (below_own_drew _)) | exact HL3.out _ HB8.out | exact HL3.out _ HB7.out | exact HL3.out _ HB6.out | exact HL3.out _ HB5.out | exact HL3.out _ HB4.out | exact HL3.out _ HB3.out | go_keep) (first
    | (go_at_call 62; ((with_reducible refine (K1.out _).mono ?_); rintro e w9 ⟨rfl, hb9⟩; (first | (have HB4 := Lib.hid (HB3.out.trans (hb9.mono HB3.out.size))) | (have HB3 := Lib.hid (HW.out _ (below_drewd hb9)))); clear hb9))
    | (go_at_call 63; ((with_reducible refine (K2.out _).mono ?_); rintro e w9 ⟨rfl, hb9⟩; (first | (have HB4 := Lib.hid (HB3.out.trans (hb9.mono HB3.out.size))) | (have HB3 := Lib.hid (HW.out _ (below_drewd hb9)))); clear hb9))
    | (go_at_call 64; ((with_reducible refine (K3.out _).mono ?_); rintro e w9 ⟨rfl, hb9⟩; (first | (have HB6 := Lib.hid (HB5.out.trans (hb9.mono HB5.out.size))) | (have HB5 := Lib.hid (HB4.out.trans (hb9.mono HB4.out.size)))); clear hb9))
    | (go_at_call 65; ((with_reducible refine (K4.out _).mono ?_); rintro e w9 ⟨rfl, hb9⟩; (first | (have HB6 := Lib.hid (HB5.out.trans (hb9.mono HB5.out.size))) | (have HB5 := Lib.hid (HB4.out.trans (hb9.mono HB4.out.size)))); clear hb9))
    | (go_at_call 66; ((with_reducible refine (K5.out _).mono ?_); rintro e w9 ⟨rfl, hb9⟩; (first | (have HB8 := Lib.hid (HB7.out.trans (hb9.mono HB7.out.size))) | (have HB7 := Lib.hid (HB6.out.trans (hb9.mono HB6.out.size)))); clear hb9))
    | (go_at_call 67; ((with_reducible refine (K6.out _).mono ?_); rintro e w9 ⟨rfl, hb9⟩; (first | (have HB8 := Lib.hid (HB7.out.trans (hb9.mono HB7.out.size))) | (have HB7 := Lib.hid (HB6.out.trans (hb9.mono HB6.out.size)))); clear hb9)))
  all_goals
    obtain ⟨la8, lb8, lc8, ld8⟩ := HLD.out _ HB8.out
    go_wp2_with (first
      | (go_at_call 68; ((with_reducible refine (KO.out _ HB8.out).mono ?_); rintro e w10 ⟨hq, hb10⟩; obtain rfl : e = .returned (.tuple #[.agg zeroCd.toArray, .iface 226 (.pointer (some eA))]) := hq; have HB10 := Lib.hid (HB8.out.trans (hb10.mono HB8.out.size)); clear hb10))
      | (refine wp_store_blk rfl 74 (.tmp 7) (.tmp 41) rfl w10.heap.size 0 zeroCd (zeroCd) 74 _ rfl rfl rfl (Blk.new _ _ _ _ _ rfl rfl) (by decide) infoCd (ptC_one false zero16 0) (by decide) ?_; intro w11 hk11 ha11; have hb11 := below_alt (below_own_alloc w10 _) ha11 (by simp) (fun k hk => by omega); have HK11 : Hid (Blk w10.heap.size (zeroCd) 74 w11) := Lib.hid (by rw [splice_all _ _ (by decide)] at hk11; exact hk11); have HB11 : Hid (Below W0.heap.size W0 w11) := Lib.hid (HB10.out.trans (hb11.mono HB10.out.size)); obtain ⟨la, lb, lc, ld⟩ := HLD.out _ HB11.out; clear hk11 ha11 hb11)
      | (go_at_call 17; ((with_reducible refine (KR.out _).mono ?_); rintro e w12 ⟨rfl, hb12⟩; have HB12 := Lib.hid (HB11.out.trans (hb12.mono HB11.out.size)); have HK12 := Lib.hid (HK11.out.below hb12); have l12 : (loadCells ⟨w10.heap.size, 0, none⟩ 18).run Tryz.prog w12 = .ok zeroCd.toArray w12 := HK12.out.load 0 18 zeroCd rfl rfl; have q12 := HQ.out w12; clear hb12))
      | (go_at_call 24; ((with_reducible refine (KN.out _ HB12.out).mono ?_); rintro e w15 ⟨rfl, hb15⟩; have HB15 := Lib.hid (HB12.out.trans (hb15.mono HB12.out.size)); clear hb15)))
    go_ret
    exact ⟨by (first | rfl | simp), HB0.out.trans (HB15.out.mono HB0.out.size)⟩
set_option maxHeartbeats 8000000 in
theorem contains_neg (ea eR eA : Addr) (es : List Addr) (six : Bool) (b : List UInt8) (hb : b.length = 16) (n : Int) (hn : InI64 n) (s2 : Bool) (c : List UInt8) (hc : c.length = 16) (m : Int) (s3 : Bool) (a : List UInt8) (ha : a.length = 16) (w : World) (hE : Env ea w) (he : Errs w es) (hpR : es[0]? = some eR) (hpA : es[7]? = some eA) (hR : Holds w 0 eR) (hA : Holds w 7 eA) (hr : rightA s3 a = true) (h0 : n < 0) :
    Calls Tryz.prog 11 #[ptV six b n, ptV s2 c m, adV s3 a] w fun e w' => e = .returned (.bool true) ∧ Below w.heap.size w w' := by
  obtain ⟨W0, hW0⟩ : ∃ W0, W0 = (((w.alloc (.cells (ptA six b n) 74)).alloc (.cells (ptA s2 c m) 74)).alloc (.cells (adA s3 a) 24)) := ⟨_, rfl⟩
  have hB0 : Below w.heap.size w W0 := by rw [hW0]; exact (((Below.refl _ _).alloc (Nat.le_refl _) _).alloc (by simp) _).alloc (by simp; omega) _
  have HLD : Hid (∀ W, Below W0.heap.size W0 W → Ld3 w.heap.size (ptA six b n) (ptA s2 c m) (adA s3 a) n W) := Lib.hid (by rw [hW0]; exact fun W h => ld3_of six b n hb s2 c m hc s3 a ha w W h)
  have HW0 := Lib.hid hW0
  have HB0 := Lib.hid hB0
  have HE := Lib.hid hE
  have KA := Lib.hid (fun W hE => alive3_calls ea W hE)
  have K1 : Hid (∀ W, Calls Tryz.prog 62 #[.agg (ptA six b n), .agg (adA s3 a)] W fun e w' => e = .returned (.bool (containsC six b n s3 a)) ∧ Below W.heap.size W w') := Lib.hid (fun W => ccontains_calls six b hb n s3 a ha W)
  have K2 : Hid (∀ W, Calls Tryz.prog 63 #[.agg (ptA six b n), .agg (adA s3 a)] W fun e w' => e = .returned (.bool (containsC six b n s3 a)) ∧ Below W.heap.size W w') := Lib.hid (fun W => rcontains_calls six b hb n s3 a ha W)
  have K3 : Hid (∀ W, Calls Tryz.prog 64 #[.agg (ptA six b n), .agg (ptA s2 c m)] W fun e w' => e = .returned (.bool (coversC six b n s2 c m)) ∧ Below W.heap.size W w') := Lib.hid (fun W => covers_calls six b hb n s2 c hc m W)
  have K4 : Hid (∀ W, Calls Tryz.prog 65 #[.agg (ptA six b n), .agg (ptA s2 c m)] W fun e w' => e = .returned (.bool (coversC six b n s2 c m)) ∧ Below W.heap.size W w') := Lib.hid (fun W => rcovers_calls six b hb n s2 c hc m W)
  have K5 : Hid (∀ W, Calls Tryz.prog 66 #[.agg (ptA six b n), .agg (ptA s2 c m)] W fun e w' => e = .returned (.int .i64 (cmpC six b n s2 c m)) ∧ Below W.heap.size W w') := Lib.hid (fun W => ccompare_calls six b hb n s2 c hc m W)
  have K6 : Hid (∀ W, Calls Tryz.prog 67 #[.agg (ptA six b n), .agg (ptA s2 c m)] W fun e w' => e = .returned (.int .i64 (cmpC six b n s2 c m)) ∧ Below W.heap.size W w') := Lib.hid (fun W => rccompare_calls six b hb n s2 c hc m W)
  have hz1 := ptA_size six b n hb
  have hz2 := ptA_size s2 c m hc
  have hz3 := adA_size s3 a ha
  have KO : Hid (∀ W, Below W0.heap.size W0 W → Calls Tryz.prog 68 #[.agg (adA s3 a), .int .i64 n] W fun e w' => RetCd eR none e ∧ Below W.heap.size W w') := Lib.hid (fun W h => of_range s3 a ha n W hr (by simp; omega) eR ((hR.below hB0).below h))
  have KR : Hid (∀ W, Calls Tryz.prog 17 #[.agg (adA s3 a)] W fun e w' => e = .returned (.bool true) ∧ Below W.heap.size W w') := Lib.hid (fun W => by have h := rright_calls' s3 a ha W; rw [hr] at h; exact h)
  have KN : Hid (∀ W, Below W0.heap.size W0 W → Calls Tryz.prog 24 #[.iface 226 (.pointer (some eR))] W fun e w' => e = .returned (.int .i64 1) ∧ Below W.heap.size W w') := Lib.hid (fun W h => numk W es ((he.below hB0).below h) 0 (by omega) eR hpR)
  have KW : Hid (∀ W, Calls Tryz.prog 69 #[.agg (adA s3 a)] W fun e w' => e = .returned (.int .i64 (widthA s3 : Int)) ∧ Below W.heap.size W w') := Lib.hid (fun W => width_calls s3 a ha W)
  have HQ : Hid (∀ W, (binOp .eql 74 (.agg zeroCd.toArray) (.agg zeroCd.toArray)).run Tryz.prog W = .ok (.bool true) W) := Lib.hid (fun W => (eq_cidr false false zero16 zero16 0 0 rfl rfl ⟨by decide, by decide⟩ ⟨by decide, by decide⟩ W).1)
  have dn : decide (n < 0) = true := decide_eq_true h0
  show Calls Tryz.prog 11 #[.agg (ptA six b n), .agg (ptA s2 c m), .agg (adA s3 a)] w fun e w' => e = .returned (.bool true) ∧ Below w.heap.size w w'
  clear hW0 hB0 hE he hpR hpA hR hA hr
  generalize adA s3 a = aa at *
  generalize (widthA s3 : Int) = WD at *
  generalize ptA six b n = pa at *
  generalize ptA s2 c m = qa at *
  generalize containsC six b n s3 a = r1 at *
  generalize coversC six b n s2 c m = r2 at *
  generalize cmpC six b n s2 c m = r3 at *
  have HL3 : Hid (∀ W, Below W0.heap.size W0 W → (loadCells ⟨w.heap.size, 0, none⟩ 18).run Tryz.prog W = .ok pa W ∧ (loadCells ⟨w.heap.size + 1, 0, none⟩ 18).run Tryz.prog W = .ok qa W ∧ (loadCells ⟨w.heap.size + 1 + 1, 0, none⟩ 17).run Tryz.prog W = .ok aa W) := Lib.hid (fun W h => ⟨(HLD.out W h).1, (HLD.out W h).2.1, (HLD.out W h).2.2.1⟩)
  go_enter Tryz.func11, Tryz.ntmps11
  go_upto_region 1 with (fail)
  rw [← HW0.out]
  go_upto_region 3 with (go_at_call 55; ((with_reducible refine (KA.out _ (HE.out.below HB0.out)).mono ?_); rintro e w1 ⟨rfl, hb1⟩; have HB1 := Lib.hid hb1; clear hb1))
  have HW := Lib.hid (fun W (h : Below w1.heap.size w1 W) => HB1.out.trans (h.mono HB1.out.size))
  go_region_held3 (fun W : World => (loadCells ⟨w.heap.size, 0, none⟩ 18).run Tryz.prog W = .ok pa W ∧ (loadCells ⟨w.heap.size + 1, 0, none⟩ 18).run Tryz.prog W = .ok qa W ∧ (loadCells ⟨w.heap.size + 1 + 1, 0, none⟩ 17).run Tryz.prog W = .ok aa W) (first | exact HL3.out _ (HW.out _ (below_own_drew _)) | exact HL3.out _ HB8.out | exact HL3.out _ HB7.out | exact HL3.out _ HB6.out | exact HL3.out _ HB5.out | exact HL3.out _ HB4.out | exact HL3.out _ HB3.out | go_keep) (first
    | (go_at_call 62; ((with_reducible refine (K1.out _).mono ?_); rintro e w9 ⟨rfl, hb9⟩; (first | (have HB4 := Lib.hid (HB3.out.trans (hb9.mono HB3.out.size))) | (have HB3 := Lib.hid (HW.out _ (below_drewd hb9)))); clear hb9))
    | (go_at_call 63; ((with_reducible refine (K2.out _).mono ?_); rintro e w9 ⟨rfl, hb9⟩; (first | (have HB4 := Lib.hid (HB3.out.trans (hb9.mono HB3.out.size))) | (have HB3 := Lib.hid (HW.out _ (below_drewd hb9)))); clear hb9))
    | (go_at_call 64; ((with_reducible refine (K3.out _).mono ?_); rintro e w9 ⟨rfl, hb9⟩; (first | (have HB6 := Lib.hid (HB5.out.trans (hb9.mono HB5.out.size))) | (have HB5 := Lib.hid (HB4.out.trans (hb9.mono HB4.out.size)))); clear hb9))
    | (go_at_call 65; ((with_reducible refine (K4.out _).mono ?_); rintro e w9 ⟨rfl, hb9⟩; (first | (have HB6 := Lib.hid (HB5.out.trans (hb9.mono HB5.out.size))) | (have HB5 := Lib.hid (HB4.out.trans (hb9.mono HB4.out.size)))); clear hb9))
    | (go_at_call 66; ((with_reducible refine (K5.out _).mono ?_); rintro e w9 ⟨rfl, hb9⟩; (first | (have HB8 := Lib.hid (HB7.out.trans (hb9.mono HB7.out.size))) | (have HB7 := Lib.hid (HB6.out.trans (hb9.mono HB6.out.size)))); clear hb9))
    | (go_at_call 67; ((with_reducible refine (K6.out _).mono ?_); rintro e w9 ⟨rfl, hb9⟩; (first | (have HB8 := Lib.hid (HB7.out.trans (hb9.mono HB7.out.size))) | (have HB7 := Lib.hid (HB6.out.trans (hb9.mono HB6.out.size)))); clear hb9)))
  all_goals
    obtain ⟨la8, lb8, lc8, ld8⟩ := HLD.out _ HB8.out
    go_upto_region 8 with (first
      | (go_at_call 68; ((with_reducible refine (KO.out _ HB8.out).mono ?_); rintro e w10 ⟨hq, hb10⟩; obtain rfl : e = .returned (.tuple #[.agg zeroCd.toArray, .iface 226 (.pointer (some eR))]) := hq; have HB10 := Lib.hid (HB8.out.trans (hb10.mono HB8.out.size)); clear hb10))
      | (refine wp_store_blk rfl 74 (.tmp 7) (.tmp 41) rfl w10.heap.size 0 zeroCd (zeroCd) 74 _ rfl rfl rfl (Blk.new _ _ _ _ _ rfl rfl) (by decide) infoCd (ptC_one false zero16 0) (by decide) ?_; intro w11 hk11 ha11; have hb11 := below_alt (below_own_alloc w10 _) ha11 (by simp) (fun k hk => by omega); have HK11 : Hid (Blk w10.heap.size (zeroCd) 74 w11) := Lib.hid (by rw [splice_all _ _ (by decide)] at hk11; exact hk11); have HB11 : Hid (Below W0.heap.size W0 w11) := Lib.hid (HB10.out.trans (hb11.mono HB10.out.size)); obtain ⟨la, lb, lc, ld⟩ := HLD.out _ HB11.out; clear hk11 ha11 hb11)
      | (go_at_call 17; ((with_reducible refine (KR.out _).mono ?_); rintro e w12 ⟨rfl, hb12⟩; have HB12 := Lib.hid (HB11.out.trans (hb12.mono HB11.out.size)); have HK12 := Lib.hid (HK11.out.below hb12); clear hb12)))
    have HS8 : Hid (∀ W, Below W0.heap.size W0 W → W.cell? ⟨w.heap.size, 17, none⟩ = some (.int .i64 n) ∧ (loadCells ⟨w.heap.size + 1 + 1, 0, none⟩ 17).run Tryz.prog W = .ok aa W) := Lib.hid (fun W h => ⟨(HLD.out W h).2.2.2, (HLD.out W h).2.2.1⟩)
    have HD12 := Lib.hid (HB12.out.trans ((below_own_drew w12).mono HB12.out.size))
    refine wp_region_held_drew (S := (fun W : World => W.cell? ⟨w.heap.size, 17, none⟩ = some (.int .i64 n) ∧ (loadCells ⟨w.heap.size + 1 + 1, 0, none⟩ 17).run Tryz.prog W = .ok aa W)) (by kernel_rfl) ?_ (fun hHeld => ?_)
    · (first | exact HS8.out _ HD12.out)
    refine Gw.gw_take (i := 0) (v := ?v1) (d := (some 54)) rfl rfl (by kernel_rfl) (by kernel_rfl) (by kernel_rfl) (fun _ _ _ h => h) (Or.inl ⟨by rfl, ?hy1⟩) hHeld ?rest1
    case hy1 => (intro w hSw; (try dsimp only at hSw); go_simp; (try with_reducible rfl))
    try simp only [Act.put, List.setIfInBounds_toArray, List.set_cons_zero, List.set_cons_succ]
    refine Gw.gw_take (i := 1) (v := ?v2) (d := (some 55)) rfl rfl (by kernel_rfl) (by kernel_rfl) (by kernel_rfl) (fun _ _ _ h => h) (Or.inl ⟨by rfl, ?hy2⟩) hHeld ?rest2
    case hy2 => (intro w hSw; (try dsimp only at hSw); go_simp; (try with_reducible rfl))
    try simp only [Act.put, List.setIfInBounds_toArray, List.set_cons_zero, List.set_cons_succ]
    refine Gw.gw_take (i := 2) (v := ?v3) (d := (some 56)) rfl rfl (by kernel_rfl) (by kernel_rfl) (by kernel_rfl) (fun _ _ _ h => h) (Or.inl ⟨by rfl, ?hy3⟩) hHeld ?rest3
    case hy3 => (intro w hSw; (try dsimp only at hSw); go_simp; (try with_reducible rfl))
    try simp only [Act.put, List.setIfInBounds_toArray, List.set_cons_zero, List.set_cons_succ]
    refine Gw.gw_take (i := 3) (v := ?v4) (d := (some 57)) rfl rfl (by kernel_rfl) (by kernel_rfl) (by kernel_rfl) (fun _ _ _ h => h) (Or.inl ⟨by rfl, ?hy4⟩) hHeld ?rest4
    case hy4 => (intro w hSw; (try dsimp only at hSw); go_simp; (try with_reducible rfl))
    try simp only [Act.put, List.setIfInBounds_toArray, List.set_cons_zero, List.set_cons_succ]
    refine Gw.gw_take (i := 4) (v := undef) (d := (some 58)) rfl rfl (by kernel_rfl) (by kernel_rfl) (by kernel_rfl) (fun _ _ _ h => h) (Or.inr ⟨by rfl, rfl⟩) hHeld ?_
    try simp only [Act.put, List.setIfInBounds_toArray, List.set_cons_zero, List.set_cons_succ]
    refine Gw.gw_take (i := 5) (v := undef) (d := (some 59)) rfl rfl (by kernel_rfl) (by kernel_rfl) (by kernel_rfl) (fun _ _ _ h => h) (Or.inr ⟨by rfl, rfl⟩) hHeld ?_
    try simp only [Act.put, List.setIfInBounds_toArray, List.set_cons_zero, List.set_cons_succ]
    refine Gw.gw_take (i := 6) (v := undef) (d := (some 60)) rfl rfl (by kernel_rfl) (by kernel_rfl) (by kernel_rfl) (fun _ _ _ h => h) (Or.inr ⟨by rfl, rfl⟩) hHeld ?_
    try simp only [Act.put, List.setIfInBounds_toArray, List.set_cons_zero, List.set_cons_succ]
    refine Gw.gw_take (i := 7) (v := undef) (d := (some 61)) rfl rfl (by kernel_rfl) (by kernel_rfl) (by kernel_rfl) (fun _ _ _ h => h) (Or.inr ⟨by rfl, rfl⟩) hHeld ?_
    try simp only [Act.put, List.setIfInBounds_toArray, List.set_cons_zero, List.set_cons_succ]
    refine Gw.gw_take (i := 8) (v := undef) (d := (some 62)) rfl rfl (by kernel_rfl) (by kernel_rfl) (by kernel_rfl) (fun _ _ _ h => h) (Or.inr ⟨by rfl, rfl⟩) hHeld ?_
    try simp only [Act.put, List.setIfInBounds_toArray, List.set_cons_zero, List.set_cons_succ]
    refine Gw.gw_take (i := 9) (v := ?v5) (d := (some 63)) rfl rfl (by kernel_rfl) (by kernel_rfl) (by kernel_rfl) (fun _ _ _ h => h) (Or.inl ⟨by rfl, ?hy5⟩) hHeld ?rest5
    case hy5 => (intro w hSw; (try dsimp only at hSw); go_simp; (try with_reducible rfl))
    try simp only [Act.put, List.setIfInBounds_toArray, List.set_cons_zero, List.set_cons_succ]
    refine wpAnyH_done (by kernel_rfl) ?_ _
    have l13 : (loadCells ⟨w10.heap.size, 0, none⟩ 18).run Tryz.prog w12.drew = .ok zeroCd.toArray w12.drew := (HK12.out.drewN 1).load 0 18 zeroCd rfl rfl
    have q13 := HQ.out w12.drew
    go_wp2_with (go_at_call 24; ((with_reducible refine (KN.out _ HD12.out).mono ?_); rintro e w15 ⟨rfl, hb15⟩; have HB15 := Lib.hid (HD12.out.trans (hb15.mono HD12.out.size)); clear hb15))
    go_ret
    exact ⟨by (first | rfl | simp), HB0.out.trans (HB15.out.mono HB0.out.size)⟩
set_option maxHeartbeats 8000000 in
theorem contains_big (ea eR eA : Addr) (es : List Addr) (six : Bool) (b : List UInt8) (hb : b.length = 16) (n : Int) (hn : InI64 n) (s2 : Bool) (c : List UInt8) (hc : c.length = 16) (m : Int) (s3 : Bool) (a : List UInt8) (ha : a.length = 16) (w : World) (hE : Env ea w) (he : Errs w es) (hpR : es[0]? = some eR) (hpA : es[7]? = some eA) (hR : Holds w 0 eR) (hA : Holds w 7 eA) (hr : rightA s3 a = true) (h0 : (widthA s3 : Int) < n) :
    Calls Tryz.prog 11 #[ptV six b n, ptV s2 c m, adV s3 a] w fun e w' => e = .returned (.bool true) ∧ Below w.heap.size w w' := by
  obtain ⟨W0, hW0⟩ : ∃ W0, W0 = (((w.alloc (.cells (ptA six b n) 74)).alloc (.cells (ptA s2 c m) 74)).alloc (.cells (adA s3 a) 24)) := ⟨_, rfl⟩
  have hB0 : Below w.heap.size w W0 := by rw [hW0]; exact (((Below.refl _ _).alloc (Nat.le_refl _) _).alloc (by simp) _).alloc (by simp; omega) _
  have HLD : Hid (∀ W, Below W0.heap.size W0 W → Ld3 w.heap.size (ptA six b n) (ptA s2 c m) (adA s3 a) n W) := Lib.hid (by rw [hW0]; exact fun W h => ld3_of six b n hb s2 c m hc s3 a ha w W h)
  have HW0 := Lib.hid hW0
  have HB0 := Lib.hid hB0
  have HE := Lib.hid hE
  have KA := Lib.hid (fun W hE => alive3_calls ea W hE)
  have K1 : Hid (∀ W, Calls Tryz.prog 62 #[.agg (ptA six b n), .agg (adA s3 a)] W fun e w' => e = .returned (.bool (containsC six b n s3 a)) ∧ Below W.heap.size W w') := Lib.hid (fun W => ccontains_calls six b hb n s3 a ha W)
  have K2 : Hid (∀ W, Calls Tryz.prog 63 #[.agg (ptA six b n), .agg (adA s3 a)] W fun e w' => e = .returned (.bool (containsC six b n s3 a)) ∧ Below W.heap.size W w') := Lib.hid (fun W => rcontains_calls six b hb n s3 a ha W)
  have K3 : Hid (∀ W, Calls Tryz.prog 64 #[.agg (ptA six b n), .agg (ptA s2 c m)] W fun e w' => e = .returned (.bool (coversC six b n s2 c m)) ∧ Below W.heap.size W w') := Lib.hid (fun W => covers_calls six b hb n s2 c hc m W)
  have K4 : Hid (∀ W, Calls Tryz.prog 65 #[.agg (ptA six b n), .agg (ptA s2 c m)] W fun e w' => e = .returned (.bool (coversC six b n s2 c m)) ∧ Below W.heap.size W w') := Lib.hid (fun W => rcovers_calls six b hb n s2 c hc m W)
  have K5 : Hid (∀ W, Calls Tryz.prog 66 #[.agg (ptA six b n), .agg (ptA s2 c m)] W fun e w' => e = .returned (.int .i64 (cmpC six b n s2 c m)) ∧ Below W.heap.size W w') := Lib.hid (fun W => ccompare_calls six b hb n s2 c hc m W)
  have K6 : Hid (∀ W, Calls Tryz.prog 67 #[.agg (ptA six b n), .agg (ptA s2 c m)] W fun e w' => e = .returned (.int .i64 (cmpC six b n s2 c m)) ∧ Below W.heap.size W w') := Lib.hid (fun W => rccompare_calls six b hb n s2 c hc m W)
  have hz1 := ptA_size six b n hb
  have hz2 := ptA_size s2 c m hc
  have hz3 := adA_size s3 a ha
  have KO : Hid (∀ W, Below W0.heap.size W0 W → Calls Tryz.prog 68 #[.agg (adA s3 a), .int .i64 n] W fun e w' => RetCd eR none e ∧ Below W.heap.size W w') := Lib.hid (fun W h => of_range s3 a ha n W hr (by simp; omega) eR ((hR.below hB0).below h))
  have KR : Hid (∀ W, Calls Tryz.prog 17 #[.agg (adA s3 a)] W fun e w' => e = .returned (.bool true) ∧ Below W.heap.size W w') := Lib.hid (fun W => by have h := rright_calls' s3 a ha W; rw [hr] at h; exact h)
  have KN : Hid (∀ W, Below W0.heap.size W0 W → Calls Tryz.prog 24 #[.iface 226 (.pointer (some eR))] W fun e w' => e = .returned (.int .i64 1) ∧ Below W.heap.size W w') := Lib.hid (fun W h => numk W es ((he.below hB0).below h) 0 (by omega) eR hpR)
  have KW : Hid (∀ W, Calls Tryz.prog 69 #[.agg (adA s3 a)] W fun e w' => e = .returned (.int .i64 (widthA s3 : Int)) ∧ Below W.heap.size W w') := Lib.hid (fun W => width_calls s3 a ha W)
  have HQ : Hid (∀ W, (binOp .eql 74 (.agg zeroCd.toArray) (.agg zeroCd.toArray)).run Tryz.prog W = .ok (.bool true) W) := Lib.hid (fun W => (eq_cidr false false zero16 zero16 0 0 rfl rfl ⟨by decide, by decide⟩ ⟨by decide, by decide⟩ W).1)
  have hwd0 : (0 : Int) ≤ (widthA s3 : Int) := by omega
  have hn0 : 0 ≤ n := by omega
  have dn : decide (n < 0) = false := decide_eq_false (by omega)
  have dw : decide ((widthA s3 : Int) < n) = true := decide_eq_true h0
  show Calls Tryz.prog 11 #[.agg (ptA six b n), .agg (ptA s2 c m), .agg (adA s3 a)] w fun e w' => e = .returned (.bool true) ∧ Below w.heap.size w w'
  clear hW0 hB0 hE he hpR hpA hR hA hr
  generalize adA s3 a = aa at *
  generalize (widthA s3 : Int) = WD at *
  generalize ptA six b n = pa at *
  generalize ptA s2 c m = qa at *
  generalize containsC six b n s3 a = r1 at *
  generalize coversC six b n s2 c m = r2 at *
  generalize cmpC six b n s2 c m = r3 at *
  have HL3 : Hid (∀ W, Below W0.heap.size W0 W → (loadCells ⟨w.heap.size, 0, none⟩ 18).run Tryz.prog W = .ok pa W ∧ (loadCells ⟨w.heap.size + 1, 0, none⟩ 18).run Tryz.prog W = .ok qa W ∧ (loadCells ⟨w.heap.size + 1 + 1, 0, none⟩ 17).run Tryz.prog W = .ok aa W) := Lib.hid (fun W h => ⟨(HLD.out W h).1, (HLD.out W h).2.1, (HLD.out W h).2.2.1⟩)
  go_enter Tryz.func11, Tryz.ntmps11
  go_upto_region 1 with (fail)
  rw [← HW0.out]
  go_upto_region 3 with (go_at_call 55; ((with_reducible refine (KA.out _ (HE.out.below HB0.out)).mono ?_); rintro e w1 ⟨rfl, hb1⟩; have HB1 := Lib.hid hb1; clear hb1))
  have HW := Lib.hid (fun W (h : Below w1.heap.size w1 W) => HB1.out.trans (h.mono HB1.out.size))
  go_region_held3 (fun W : World => (loadCells ⟨w.heap.size, 0, none⟩ 18).run Tryz.prog W = .ok pa W ∧ (loadCells ⟨w.heap.size + 1, 0, none⟩ 18).run Tryz.prog W = .ok qa W ∧ (loadCells ⟨w.heap.size + 1 + 1, 0, none⟩ 17).run Tryz.prog W = .ok aa W) (first | exact HL3.out _ (HW.out _ (below_own_drew _)) | exact HL3.out _ HB8.out | exact HL3.out _ HB7.out | exact HL3.out _ HB6.out | exact HL3.out _ HB5.out | exact HL3.out _ HB4.out | exact HL3.out _ HB3.out | go_keep) (first
    | (go_at_call 62; ((with_reducible refine (K1.out _).mono ?_); rintro e w9 ⟨rfl, hb9⟩; (first | (have HB4 := Lib.hid (HB3.out.trans (hb9.mono HB3.out.size))) | (have HB3 := Lib.hid (HW.out _ (below_drewd hb9)))); clear hb9))
    | (go_at_call 63; ((with_reducible refine (K2.out _).mono ?_); rintro e w9 ⟨rfl, hb9⟩; (first | (have HB4 := Lib.hid (HB3.out.trans (hb9.mono HB3.out.size))) | (have HB3 := Lib.hid (HW.out _ (below_drewd hb9)))); clear hb9))
    | (go_at_call 64; ((with_reducible refine (K3.out _).mono ?_); rintro e w9 ⟨rfl, hb9⟩; (first | (have HB6 := Lib.hid (HB5.out.trans (hb9.mono HB5.out.size))) | (have HB5 := Lib.hid (HB4.out.trans (hb9.mono HB4.out.size)))); clear hb9))
    | (go_at_call 65; ((with_reducible refine (K4.out _).mono ?_); rintro e w9 ⟨rfl, hb9⟩; (first | (have HB6 := Lib.hid (HB5.out.trans (hb9.mono HB5.out.size))) | (have HB5 := Lib.hid (HB4.out.trans (hb9.mono HB4.out.size)))); clear hb9))
    | (go_at_call 66; ((with_reducible refine (K5.out _).mono ?_); rintro e w9 ⟨rfl, hb9⟩; (first | (have HB8 := Lib.hid (HB7.out.trans (hb9.mono HB7.out.size))) | (have HB7 := Lib.hid (HB6.out.trans (hb9.mono HB6.out.size)))); clear hb9))
    | (go_at_call 67; ((with_reducible refine (K6.out _).mono ?_); rintro e w9 ⟨rfl, hb9⟩; (first | (have HB8 := Lib.hid (HB7.out.trans (hb9.mono HB7.out.size))) | (have HB7 := Lib.hid (HB6.out.trans (hb9.mono HB6.out.size)))); clear hb9)))
  all_goals
    obtain ⟨la8, lb8, lc8, ld8⟩ := HLD.out _ HB8.out
    go_upto_region 8 with (first
      | (go_at_call 68; ((with_reducible refine (KO.out _ HB8.out).mono ?_); rintro e w10 ⟨hq, hb10⟩; obtain rfl : e = .returned (.tuple #[.agg zeroCd.toArray, .iface 226 (.pointer (some eR))]) := hq; have HB10 := Lib.hid (HB8.out.trans (hb10.mono HB8.out.size)); clear hb10))
      | (refine wp_store_blk rfl 74 (.tmp 7) (.tmp 41) rfl w10.heap.size 0 zeroCd (zeroCd) 74 _ rfl rfl rfl (Blk.new _ _ _ _ _ rfl rfl) (by decide) infoCd (ptC_one false zero16 0) (by decide) ?_; intro w11 hk11 ha11; have hb11 := below_alt (below_own_alloc w10 _) ha11 (by simp) (fun k hk => by omega); have HK11 : Hid (Blk w10.heap.size (zeroCd) 74 w11) := Lib.hid (by rw [splice_all _ _ (by decide)] at hk11; exact hk11); have HB11 : Hid (Below W0.heap.size W0 w11) := Lib.hid (HB10.out.trans (hb11.mono HB10.out.size)); obtain ⟨la, lb, lc, ld⟩ := HLD.out _ HB11.out; clear hk11 ha11 hb11)
      | (go_at_call 17; ((with_reducible refine (KR.out _).mono ?_); rintro e w12 ⟨rfl, hb12⟩; have HB12 := Lib.hid (HB11.out.trans (hb12.mono HB11.out.size)); have HK12 := Lib.hid (HK11.out.below hb12); clear hb12)))
    have HS8 : Hid (∀ W, Below W0.heap.size W0 W → W.cell? ⟨w.heap.size, 17, none⟩ = some (.int .i64 n) ∧ (loadCells ⟨w.heap.size + 1 + 1, 0, none⟩ 17).run Tryz.prog W = .ok aa W) := Lib.hid (fun W h => ⟨(HLD.out W h).2.2.2, (HLD.out W h).2.2.1⟩)
    have HD12 := Lib.hid (HB12.out.trans ((below_own_drew w12).mono HB12.out.size))
    refine wp_region_held_drew (S := (fun W : World => W.cell? ⟨w.heap.size, 17, none⟩ = some (.int .i64 n) ∧ (loadCells ⟨w.heap.size + 1 + 1, 0, none⟩ 17).run Tryz.prog W = .ok aa W)) (by kernel_rfl) ?_ (fun hHeld => ?_)
    · (first | exact HS8.out _ HD12.out | exact HS8.out _ HB13.out)
    refine Gw.gw_take (i := 0) (v := ?v6) (d := (some 54)) rfl rfl (by kernel_rfl) (by kernel_rfl) (by kernel_rfl) (fun _ _ _ h => h) (Or.inl ⟨by rfl, ?hy6⟩) hHeld ?rest6
    case hy6 => (intro w hSw; (try dsimp only at hSw); go_simp; (try with_reducible rfl))
    try simp only [Act.put, List.setIfInBounds_toArray, List.set_cons_zero, List.set_cons_succ]
    refine Gw.gw_take (i := 1) (v := ?v7) (d := (some 55)) rfl rfl (by kernel_rfl) (by kernel_rfl) (by kernel_rfl) (fun _ _ _ h => h) (Or.inl ⟨by rfl, ?hy7⟩) hHeld ?rest7
    case hy7 => (intro w hSw; (try dsimp only at hSw); go_simp; (try with_reducible rfl))
    try simp only [Act.put, List.setIfInBounds_toArray, List.set_cons_zero, List.set_cons_succ]
    refine Gw.gw_take (i := 2) (v := ?v8) (d := (some 56)) rfl rfl (by kernel_rfl) (by kernel_rfl) (by kernel_rfl) (fun _ _ _ h => h) (Or.inl ⟨by rfl, ?hy8⟩) hHeld ?rest8
    case hy8 => (intro w hSw; (try dsimp only at hSw); go_simp; (try with_reducible rfl))
    try simp only [Act.put, List.setIfInBounds_toArray, List.set_cons_zero, List.set_cons_succ]
    refine Gw.gw_take (i := 3) (v := ?v9) (d := (some 57)) rfl rfl (by kernel_rfl) (by kernel_rfl) (by kernel_rfl) (fun _ _ _ h => h) (Or.inl ⟨by rfl, ?hy9⟩) hHeld ?rest9
    case hy9 => (intro w hSw; (try dsimp only at hSw); go_simp; (try with_reducible rfl))
    try simp only [Act.put, List.setIfInBounds_toArray, List.set_cons_zero, List.set_cons_succ]
    refine Gw.gw_take (i := 4) (v := ?v10) (d := (some 58)) rfl rfl (by kernel_rfl) (by kernel_rfl) (by kernel_rfl) (fun _ _ _ h => h) (Or.inl ⟨by rfl, ?hy10⟩) hHeld ?rest10
    case hy10 => (intro w hSw; (try dsimp only at hSw); go_simp; (try with_reducible rfl))
    try simp only [Act.put, List.setIfInBounds_toArray, List.set_cons_zero, List.set_cons_succ]
    refine Gw.gw_take (i := 5) (v := ?v11) (d := (some 59)) rfl rfl (by kernel_rfl) (by kernel_rfl) (by kernel_rfl) (fun _ _ _ h => h) (Or.inl ⟨by rfl, ?hy11⟩) hHeld ?rest11
    case hy11 => (intro w hSw; (try dsimp only at hSw); go_simp; (try with_reducible rfl))
    try simp only [Act.put, List.setIfInBounds_toArray, List.set_cons_zero, List.set_cons_succ]
    refine Gw.gw_take (i := 6) (v := ?v12) (d := (some 60)) rfl rfl (by kernel_rfl) (by kernel_rfl) (by kernel_rfl) (fun _ _ _ h => h) (Or.inl ⟨by rfl, ?hy12⟩) hHeld ?rest12
    case hy12 => (intro w hSw; (try dsimp only at hSw); go_simp; (try with_reducible rfl))
    try simp only [Act.put, List.setIfInBounds_toArray, List.set_cons_zero, List.set_cons_succ]
    refine wpAnyH_ready (rs := [7]) (by kernel_rfl) (by simp) ?_
    refine AllReadyH.cons rfl (fun K hK => ?_) AllReadyH.nil
    go_simp
    (go_at_call 69; ((with_reducible refine (KW.out _).mono ?_); rintro e w13 ⟨rfl, hb13⟩; have HB13 := Lib.hid (HB12.out.trans ((below_drewd hb13).mono HB12.out.size)); have HK13 := Lib.hid ((HK12.out.drewN 1).below hb13); clear hb13))
    refine hK.out _ _ ?_ (fun hHeld => ?_)
    · (first | exact HS8.out _ HD12.out | exact HS8.out _ HB13.out)
    clear hK K
    try simp only [Act.put, List.setIfInBounds_toArray, List.set_cons_zero, List.set_cons_succ]
    refine Gw.gw_take (i := 8) (v := ?v13) (d := (some 62)) rfl rfl (by kernel_rfl) (by kernel_rfl) (by kernel_rfl) (fun _ _ _ h => h) (Or.inl ⟨by rfl, ?hy13⟩) hHeld ?rest13
    case hy13 => (intro w hSw; (try dsimp only at hSw); go_simp; (try with_reducible rfl))
    try simp only [Act.put, List.setIfInBounds_toArray, List.set_cons_zero, List.set_cons_succ]
    refine Gw.gw_take (i := 9) (v := ?v14) (d := (some 63)) rfl rfl (by kernel_rfl) (by kernel_rfl) (by kernel_rfl) (fun _ _ _ h => h) (Or.inl ⟨by rfl, ?hy14⟩) hHeld ?rest14
    case hy14 => (intro w hSw; (try dsimp only at hSw); go_simp; (try with_reducible rfl))
    try simp only [Act.put, List.setIfInBounds_toArray, List.set_cons_zero, List.set_cons_succ]
    refine wpAnyH_done (by kernel_rfl) ?_ _
    have l13 : (loadCells ⟨w10.heap.size, 0, none⟩ 18).run Tryz.prog w13 = .ok zeroCd.toArray w13 := HK13.out.load 0 18 zeroCd rfl rfl
    have q13 := HQ.out w13
    go_wp2_with (go_at_call 24; ((with_reducible refine (KN.out _ HB13.out).mono ?_); rintro e w15 ⟨rfl, hb15⟩; have HB15 := Lib.hid (HB13.out.trans (hb15.mono HB13.out.size)); clear hb15))
    go_ret
    exact ⟨by (first | rfl | simp), HB0.out.trans (HB15.out.mono HB0.out.size)⟩
set_option maxHeartbeats 8000000 in
theorem contains_ok (ea eR eA : Addr) (es : List Addr) (six : Bool) (b : List UInt8) (hb : b.length = 16) (n : Int) (hn : InI64 n) (s2 : Bool) (c : List UInt8) (hc : c.length = 16) (m : Int) (s3 : Bool) (a : List UInt8) (ha : a.length = 16) (w : World) (hE : Env ea w) (he : Errs w es) (hpR : es[0]? = some eR) (hpA : es[7]? = some eA) (hR : Holds w 0 eR) (hA : Holds w 7 eA) (hr : rightA s3 a = true) (h0 : 0 ≤ n) (h1 : n ≤ (widthA s3 : Int)) :
    Calls Tryz.prog 11 #[ptV six b n, ptV s2 c m, adV s3 a] w fun e w' => e = .returned (.bool true) ∧ Below w.heap.size w w' := by
  obtain ⟨W0, hW0⟩ : ∃ W0, W0 = (((w.alloc (.cells (ptA six b n) 74)).alloc (.cells (ptA s2 c m) 74)).alloc (.cells (adA s3 a) 24)) := ⟨_, rfl⟩
  have hB0 : Below w.heap.size w W0 := by rw [hW0]; exact (((Below.refl _ _).alloc (Nat.le_refl _) _).alloc (by simp) _).alloc (by simp; omega) _
  have HLD : Hid (∀ W, Below W0.heap.size W0 W → Ld3 w.heap.size (ptA six b n) (ptA s2 c m) (adA s3 a) n W) := Lib.hid (by rw [hW0]; exact fun W h => ld3_of six b n hb s2 c m hc s3 a ha w W h)
  have HW0 := Lib.hid hW0
  have HB0 := Lib.hid hB0
  have HE := Lib.hid hE
  have KA := Lib.hid (fun W hE => alive3_calls ea W hE)
  have K1 : Hid (∀ W, Calls Tryz.prog 62 #[.agg (ptA six b n), .agg (adA s3 a)] W fun e w' => e = .returned (.bool (containsC six b n s3 a)) ∧ Below W.heap.size W w') := Lib.hid (fun W => ccontains_calls six b hb n s3 a ha W)
  have K2 : Hid (∀ W, Calls Tryz.prog 63 #[.agg (ptA six b n), .agg (adA s3 a)] W fun e w' => e = .returned (.bool (containsC six b n s3 a)) ∧ Below W.heap.size W w') := Lib.hid (fun W => rcontains_calls six b hb n s3 a ha W)
  have K3 : Hid (∀ W, Calls Tryz.prog 64 #[.agg (ptA six b n), .agg (ptA s2 c m)] W fun e w' => e = .returned (.bool (coversC six b n s2 c m)) ∧ Below W.heap.size W w') := Lib.hid (fun W => covers_calls six b hb n s2 c hc m W)
  have K4 : Hid (∀ W, Calls Tryz.prog 65 #[.agg (ptA six b n), .agg (ptA s2 c m)] W fun e w' => e = .returned (.bool (coversC six b n s2 c m)) ∧ Below W.heap.size W w') := Lib.hid (fun W => rcovers_calls six b hb n s2 c hc m W)
  have K5 : Hid (∀ W, Calls Tryz.prog 66 #[.agg (ptA six b n), .agg (ptA s2 c m)] W fun e w' => e = .returned (.int .i64 (cmpC six b n s2 c m)) ∧ Below W.heap.size W w') := Lib.hid (fun W => ccompare_calls six b hb n s2 c hc m W)
  have K6 : Hid (∀ W, Calls Tryz.prog 67 #[.agg (ptA six b n), .agg (ptA s2 c m)] W fun e w' => e = .returned (.int .i64 (cmpC six b n s2 c m)) ∧ Below W.heap.size W w') := Lib.hid (fun W => rccompare_calls six b hb n s2 c hc m W)
  have hz1 := ptA_size six b n hb
  have hz2 := ptA_size s2 c m hc
  have hz3 := adA_size s3 a ha
  have hw128 := width_le s3
  have hk : (cutL a n.toNat).length = 16 := by rw [cutL_len]; exact ha
  have KO : Hid (∀ W, Below W0.heap.size W0 W → Calls Tryz.prog 68 #[.agg (adA s3 a), .int .i64 n] W fun e w' => e = .returned (.tuple #[.agg (ptA s3 (cutL a n.toNat) n), .nilIface]) ∧ Below W.heap.size W w') := Lib.hid (fun W h => of_ok s3 a ha n W hr (by simp; omega) eR)
  have KR : Hid (∀ W, Calls Tryz.prog 17 #[.agg (adA s3 a)] W fun e w' => e = .returned (.bool true) ∧ Below W.heap.size W w') := Lib.hid (fun W => by have h := rright_calls' s3 a ha W; rw [hr] at h; exact h)
  have KW : Hid (∀ W, Calls Tryz.prog 69 #[.agg (adA s3 a)] W fun e w' => e = .returned (.int .i64 (widthA s3 : Int)) ∧ Below W.heap.size W w') := Lib.hid (fun W => width_calls s3 a ha W)
  have KX : Hid (∀ W, Calls Tryz.prog 70 #[.agg (adA s3 a), .int .i64 n] W fun e w' => e = .returned (.agg (adA s3 (cutL a n.toNat))) ∧ Below W.heap.size W w') := Lib.hid (fun W => by
    have h := rcut_calls s3 a ha n.toNat (by omega) W
    rw [show ((n.toNat : Nat) : Int) = n by omega] at h
    exact h)
  have KC : Hid (∀ W, Calls Tryz.prog 62 #[.agg (ptA s3 (cutL a n.toNat) n), .agg (adA s3 a)] W fun e w' => e = .returned (.bool true) ∧ Below W.heap.size W w') := Lib.hid (fun W => by
    have h := ccontains_calls s3 (cutL a n.toNat) hk n s3 a ha W
    rw [contains_cut s3 a ha n hr h0 h1] at h
    exact h)
  have hq : ∀ W, (binOp .eql 74 (.agg (ptA s3 (cutL a n.toNat) n)) (.agg (ptA s3 (cutL a n.toNat) n))).run Tryz.prog W = .ok (.bool true) W := fun W => by
    rw [(eq_cidr s3 s3 (cutL a n.toNat) (cutL a n.toNat) n n hk hk hn hn W).1]
    simp
  have dn : decide (n < 0) = false := decide_eq_false (by omega)
  have dw : decide ((widthA s3 : Int) < n) = false := decide_eq_false (by omega)
  have hf := cidr_fold s3 (cutL a n.toNat) hk
  have hs17 := cidr_set s3 (cutL a n.toNat) hk n
  have hp0 := ptA_size s3 (cutL a n.toNat) 0 hk
  have hp1 := ptA_size s3 (cutL a n.toNat) n hk
  have hp2 := adA_size s3 (cutL a n.toNat) hk
  have HCL := Lib.hid hk
  have HV : Hid (ptA s3 (cutL a n.toNat) n = (adCells s3 (cutL a n.toNat) ++ [Value.int .i64 n]).toArray) := Lib.hid rfl
  show Calls Tryz.prog 11 #[.agg (ptA six b n), .agg (ptA s2 c m), .agg (adA s3 a)] w fun e w' => e = .returned (.bool true) ∧ Below w.heap.size w w'
  clear hW0 hB0 hE he hpR hpA hR hA hr hw128 hk
  generalize cutL a n.toNat = k at *
  generalize ptA s3 k 0 = za at *
  generalize ptA s3 k n = xa at *
  generalize adA s3 k = ka at *
  generalize adA s3 a = aa at *
  have hW1 : (0 : Int) ≤ (widthA s3 : Int) := by omega
  generalize (widthA s3 : Int) = WD at *
  generalize ptA six b n = pa at *
  generalize ptA s2 c m = qa at *
  generalize containsC six b n s3 a = r1 at *
  generalize coversC six b n s2 c m = r2 at *
  generalize cmpC six b n s2 c m = r3 at *
  have HL3 : Hid (∀ W, Below W0.heap.size W0 W → (loadCells ⟨w.heap.size, 0, none⟩ 18).run Tryz.prog W = .ok pa W ∧ (loadCells ⟨w.heap.size + 1, 0, none⟩ 18).run Tryz.prog W = .ok qa W ∧ (loadCells ⟨w.heap.size + 1 + 1, 0, none⟩ 17).run Tryz.prog W = .ok aa W) := Lib.hid (fun W h => ⟨(HLD.out W h).1, (HLD.out W h).2.1, (HLD.out W h).2.2.1⟩)
  go_enter Tryz.func11, Tryz.ntmps11
  go_upto_region 1 with (fail)
  rw [← HW0.out]
  go_upto_region 3 with (go_at_call 55; ((with_reducible refine (KA.out _ (HE.out.below HB0.out)).mono ?_); rintro e w1 ⟨rfl, hb1⟩; have HB1 := Lib.hid hb1; clear hb1))
  have HW := Lib.hid (fun W (h : Below w1.heap.size w1 W) => HB1.out.trans (h.mono HB1.out.size))
  go_region_held3 (fun W : World => (loadCells ⟨w.heap.size, 0, none⟩ 18).run Tryz.prog W = .ok pa W ∧ (loadCells ⟨w.heap.size + 1, 0, none⟩ 18).run Tryz.prog W = .ok qa W ∧ (loadCells ⟨w.heap.size + 1 + 1, 0, none⟩ 17).run Tryz.prog W = .ok aa W) (first | exact HL3.out _ (HW.out _ (below_own_drew _)) | exact HL3.out _ HB8.out | exact HL3.out _ HB7.out | exact HL3.out _ HB6.out | exact HL3.out _ HB5.out | exact HL3.out _ HB4.out | exact HL3.out _ HB3.out | go_keep) (first
    | (go_at_call 62; ((with_reducible refine (K1.out _).mono ?_); rintro e w9 ⟨rfl, hb9⟩; (first | (have HB4 := Lib.hid (HB3.out.trans (hb9.mono HB3.out.size))) | (have HB3 := Lib.hid (HW.out _ (below_drewd hb9)))); clear hb9))
    | (go_at_call 63; ((with_reducible refine (K2.out _).mono ?_); rintro e w9 ⟨rfl, hb9⟩; (first | (have HB4 := Lib.hid (HB3.out.trans (hb9.mono HB3.out.size))) | (have HB3 := Lib.hid (HW.out _ (below_drewd hb9)))); clear hb9))
    | (go_at_call 64; ((with_reducible refine (K3.out _).mono ?_); rintro e w9 ⟨rfl, hb9⟩; (first | (have HB6 := Lib.hid (HB5.out.trans (hb9.mono HB5.out.size))) | (have HB5 := Lib.hid (HB4.out.trans (hb9.mono HB4.out.size)))); clear hb9))
    | (go_at_call 65; ((with_reducible refine (K4.out _).mono ?_); rintro e w9 ⟨rfl, hb9⟩; (first | (have HB6 := Lib.hid (HB5.out.trans (hb9.mono HB5.out.size))) | (have HB5 := Lib.hid (HB4.out.trans (hb9.mono HB4.out.size)))); clear hb9))
    | (go_at_call 66; ((with_reducible refine (K5.out _).mono ?_); rintro e w9 ⟨rfl, hb9⟩; (first | (have HB8 := Lib.hid (HB7.out.trans (hb9.mono HB7.out.size))) | (have HB7 := Lib.hid (HB6.out.trans (hb9.mono HB6.out.size)))); clear hb9))
    | (go_at_call 67; ((with_reducible refine (K6.out _).mono ?_); rintro e w9 ⟨rfl, hb9⟩; (first | (have HB8 := Lib.hid (HB7.out.trans (hb9.mono HB7.out.size))) | (have HB7 := Lib.hid (HB6.out.trans (hb9.mono HB6.out.size)))); clear hb9)))
  all_goals
    obtain ⟨la8, lb8, lc8, ld8⟩ := HLD.out _ HB8.out
    go_upto_region 8 with (first
      | (go_at_call 68; ((with_reducible refine (KO.out _ HB8.out).mono ?_); rintro e w10 ⟨hq, hb10⟩; obtain rfl : e = .returned (.tuple #[.agg xa, .nilIface]) := hq; have HB10 := Lib.hid (HB8.out.trans (hb10.mono HB8.out.size)); clear hb10))
      | (refine wp_store_blk rfl 74 (.tmp 7) (.tmp 41) rfl w10.heap.size 0 zeroCd (adCells s3 k ++ [Value.int .i64 n]) 74 _ rfl rfl (by rw [HV.out]; rfl) (Blk.new _ _ _ _ _ rfl rfl) (by rw [ptC_len _ _ _ HCL.out]; decide) (by rw [ptC_len _ _ _ HCL.out]; exact infoCd) (ptC_one _ _ _) (by rw [ptC_len _ _ _ HCL.out]; decide) ?_; intro w11 hk11 ha11; have hb11 := below_alt (below_own_alloc w10 _) ha11 (by simp) (fun k hk => by omega); have HK11 : Hid (Blk w10.heap.size (adCells s3 k ++ [Value.int .i64 n]) 74 w11) := Lib.hid (by rw [splice_all _ _ (by rw [ptC_len _ _ _ HCL.out]; decide)] at hk11; exact hk11); have HB11 : Hid (Below W0.heap.size W0 w11) := Lib.hid (HB10.out.trans (hb11.mono HB10.out.size)); obtain ⟨la, lb, lc, ld⟩ := HLD.out _ HB11.out; clear hk11 ha11 hb11)
      | (go_at_call 17; ((with_reducible refine (KR.out _).mono ?_); rintro e w12 ⟨rfl, hb12⟩; have HB12 := Lib.hid (HB11.out.trans (hb12.mono HB11.out.size)); have HK12 := Lib.hid (HK11.out.below hb12); clear hb12)))
    have HS8 : Hid (∀ W, Below W0.heap.size W0 W → W.cell? ⟨w.heap.size, 17, none⟩ = some (.int .i64 n) ∧ (loadCells ⟨w.heap.size + 1 + 1, 0, none⟩ 17).run Tryz.prog W = .ok aa W) := Lib.hid (fun W h => ⟨(HLD.out W h).2.2.2, (HLD.out W h).2.2.1⟩)
    have HD12 := Lib.hid (HB12.out.trans ((below_own_drew w12).mono HB12.out.size))
    refine wp_region_held_drew (S := (fun W : World => W.cell? ⟨w.heap.size, 17, none⟩ = some (.int .i64 n) ∧ (loadCells ⟨w.heap.size + 1 + 1, 0, none⟩ 17).run Tryz.prog W = .ok aa W)) (by kernel_rfl) ?_ (fun hHeld => ?_)
    · (first | exact HS8.out _ HD12.out | exact HS8.out _ HB13.out)
    refine Gw.gw_take (i := 0) (v := ?v15) (d := (some 54)) rfl rfl (by kernel_rfl) (by kernel_rfl) (by kernel_rfl) (fun _ _ _ h => h) (Or.inl ⟨by rfl, ?hy15⟩) hHeld ?rest15
    case hy15 => (intro w hSw; (try dsimp only at hSw); go_simp; (try with_reducible rfl))
    try simp only [Act.put, List.setIfInBounds_toArray, List.set_cons_zero, List.set_cons_succ]
    refine Gw.gw_take (i := 1) (v := ?v16) (d := (some 55)) rfl rfl (by kernel_rfl) (by kernel_rfl) (by kernel_rfl) (fun _ _ _ h => h) (Or.inl ⟨by rfl, ?hy16⟩) hHeld ?rest16
    case hy16 => (intro w hSw; (try dsimp only at hSw); go_simp; (try with_reducible rfl))
    try simp only [Act.put, List.setIfInBounds_toArray, List.set_cons_zero, List.set_cons_succ]
    refine Gw.gw_take (i := 2) (v := ?v17) (d := (some 56)) rfl rfl (by kernel_rfl) (by kernel_rfl) (by kernel_rfl) (fun _ _ _ h => h) (Or.inl ⟨by rfl, ?hy17⟩) hHeld ?rest17
    case hy17 => (intro w hSw; (try dsimp only at hSw); go_simp; (try with_reducible rfl))
    try simp only [Act.put, List.setIfInBounds_toArray, List.set_cons_zero, List.set_cons_succ]
    refine Gw.gw_take (i := 3) (v := ?v18) (d := (some 57)) rfl rfl (by kernel_rfl) (by kernel_rfl) (by kernel_rfl) (fun _ _ _ h => h) (Or.inl ⟨by rfl, ?hy18⟩) hHeld ?rest18
    case hy18 => (intro w hSw; (try dsimp only at hSw); go_simp; (try with_reducible rfl))
    try simp only [Act.put, List.setIfInBounds_toArray, List.set_cons_zero, List.set_cons_succ]
    refine Gw.gw_take (i := 4) (v := ?v19) (d := (some 58)) rfl rfl (by kernel_rfl) (by kernel_rfl) (by kernel_rfl) (fun _ _ _ h => h) (Or.inl ⟨by rfl, ?hy19⟩) hHeld ?rest19
    case hy19 => (intro w hSw; (try dsimp only at hSw); go_simp; (try with_reducible rfl))
    try simp only [Act.put, List.setIfInBounds_toArray, List.set_cons_zero, List.set_cons_succ]
    refine Gw.gw_take (i := 5) (v := ?v20) (d := (some 59)) rfl rfl (by kernel_rfl) (by kernel_rfl) (by kernel_rfl) (fun _ _ _ h => h) (Or.inl ⟨by rfl, ?hy20⟩) hHeld ?rest20
    case hy20 => (intro w hSw; (try dsimp only at hSw); go_simp; (try with_reducible rfl))
    try simp only [Act.put, List.setIfInBounds_toArray, List.set_cons_zero, List.set_cons_succ]
    refine Gw.gw_take (i := 6) (v := ?v21) (d := (some 60)) rfl rfl (by kernel_rfl) (by kernel_rfl) (by kernel_rfl) (fun _ _ _ h => h) (Or.inl ⟨by rfl, ?hy21⟩) hHeld ?rest21
    case hy21 => (intro w hSw; (try dsimp only at hSw); go_simp; (try with_reducible rfl))
    try simp only [Act.put, List.setIfInBounds_toArray, List.set_cons_zero, List.set_cons_succ]
    refine wpAnyH_ready (rs := [7]) (by kernel_rfl) (by simp) ?_
    refine AllReadyH.cons rfl (fun K hK => ?_) AllReadyH.nil
    go_simp
    (go_at_call 69; ((with_reducible refine (KW.out _).mono ?_); rintro e w13 ⟨rfl, hb13⟩; have HB13 := Lib.hid (HB12.out.trans ((below_drewd hb13).mono HB12.out.size)); have HK13 := Lib.hid ((HK12.out.drewN 1).below hb13); clear hb13))
    refine hK.out _ _ ?_ (fun hHeld => ?_)
    · (first | exact HS8.out _ HD12.out | exact HS8.out _ HB13.out)
    clear hK K
    try simp only [Act.put, List.setIfInBounds_toArray, List.set_cons_zero, List.set_cons_succ]
    refine Gw.gw_take (i := 8) (v := ?v22) (d := (some 62)) rfl rfl (by kernel_rfl) (by kernel_rfl) (by kernel_rfl) (fun _ _ _ h => h) (Or.inl ⟨by rfl, ?hy22⟩) hHeld ?rest22
    case hy22 => (intro w hSw; (try dsimp only at hSw); go_simp; (try with_reducible rfl))
    try simp only [Act.put, List.setIfInBounds_toArray, List.set_cons_zero, List.set_cons_succ]
    refine Gw.gw_take (i := 9) (v := ?v23) (d := (some 63)) rfl rfl (by kernel_rfl) (by kernel_rfl) (by kernel_rfl) (fun _ _ _ h => h) (Or.inl ⟨by rfl, ?hy23⟩) hHeld ?rest23
    case hy23 => (intro w hSw; (try dsimp only at hSw); go_simp; (try with_reducible rfl))
    try simp only [Act.put, List.setIfInBounds_toArray, List.set_cons_zero, List.set_cons_succ]
    refine wpAnyH_done (by kernel_rfl) ?_ _
    go_upto_region 10 with (fail)
    have HS9 : Hid (∀ W, Below w13.heap.size w13 W → (loadCells ⟨w10.heap.size, 0, none⟩ 18).run Tryz.prog W = .ok xa W ∧ (loadCells ⟨w.heap.size + 1 + 1, 0, none⟩ 17).run Tryz.prog W = .ok aa W ∧ W.cell? ⟨w.heap.size, 17, none⟩ = some (.int .i64 n)) := Lib.hid (fun W h => ⟨by rw [HV.out]; exact (HK13.out.below h).load (P := Tryz.prog) 0 18 (adCells s3 k ++ [Value.int .i64 n]) (by rw [List.drop_zero, List.take_of_length_le (by rw [ptC_len _ _ _ HCL.out]; omega)]) (ptC_len _ _ _ HCL.out), (HLD.out W (HB13.out.trans (h.mono HB13.out.size))).2.2.1, (HLD.out W (HB13.out.trans (h.mono HB13.out.size))).2.2.2⟩)
    refine wp_region_held_drew (S := (fun W : World => (loadCells ⟨w10.heap.size, 0, none⟩ 18).run Tryz.prog W = .ok xa W ∧ (loadCells ⟨w.heap.size + 1 + 1, 0, none⟩ 17).run Tryz.prog W = .ok aa W ∧ W.cell? ⟨w.heap.size, 17, none⟩ = some (.int .i64 n))) (by kernel_rfl) ?_ (fun hHeld => ?_)
    · (first | exact HS9.out _ (below_own_drew _) | exact HS9.out _ HB15.out | exact HS9.out _ HB14.out)
    refine Gw.gw_take (i := 0) (v := ?v24) (d := (some 72)) rfl rfl (by kernel_rfl) (by kernel_rfl) (by kernel_rfl) (fun _ _ _ h => h) (Or.inl ⟨by rfl, ?hy24⟩) hHeld ?rest24
    case hy24 => (intro w hSw; (try dsimp only at hSw); go_simp; (try with_reducible rfl))
    try simp only [Act.put, List.setIfInBounds_toArray, List.set_cons_zero, List.set_cons_succ]
    refine Gw.gw_take (i := 1) (v := ?v25) (d := (some 73)) rfl rfl (by kernel_rfl) (by kernel_rfl) (by kernel_rfl) (fun _ _ _ h => h) (Or.inl ⟨by rfl, ?hy25⟩) hHeld ?rest25
    case hy25 => (intro w hSw; (try dsimp only at hSw); go_simp; (try with_reducible rfl))
    try simp only [Act.put, List.setIfInBounds_toArray, List.set_cons_zero, List.set_cons_succ]
    refine Gw.gw_take (i := 2) (v := ?v26) (d := (some 74)) rfl rfl (by kernel_rfl) (by kernel_rfl) (by kernel_rfl) (fun _ _ _ h => h) (Or.inl ⟨by rfl, ?hy26⟩) hHeld ?rest26
    case hy26 => (intro w hSw; (try dsimp only at hSw); go_simp; (try with_reducible rfl))
    try simp only [Act.put, List.setIfInBounds_toArray, List.set_cons_zero, List.set_cons_succ]
    refine Gw.gw_take (i := 3) (v := ?v27) (d := (some 75)) rfl rfl (by kernel_rfl) (by kernel_rfl) (by kernel_rfl) (fun _ _ _ h => h) (Or.inl ⟨by rfl, ?hy27⟩) hHeld ?rest27
    case hy27 => (intro w hSw; (try dsimp only at hSw); go_simp; (try with_reducible rfl))
    try simp only [Act.put, List.setIfInBounds_toArray, List.set_cons_zero, List.set_cons_succ]
    refine Gw.gw_take (i := 4) (v := ?v28) (d := (some 76)) rfl rfl (by kernel_rfl) (by kernel_rfl) (by kernel_rfl) (fun _ _ _ h => h) (Or.inl ⟨by rfl, ?hy28⟩) hHeld ?rest28
    case hy28 => (intro w hSw; (try dsimp only at hSw); go_simp; (try with_reducible rfl))
    try simp only [Act.put, List.setIfInBounds_toArray, List.set_cons_zero, List.set_cons_succ]
    refine Gw.gw_take (i := 5) (v := ?v29) (d := (some 77)) rfl rfl (by kernel_rfl) (by kernel_rfl) (by kernel_rfl) (fun _ _ _ h => h) (Or.inl ⟨by rfl, ?hy29⟩) hHeld ?rest29
    case hy29 => (intro w hSw; (try dsimp only at hSw); go_simp; (try with_reducible rfl))
    try simp only [Act.put, List.setIfInBounds_toArray, List.set_cons_zero, List.set_cons_succ]
    refine Gw.gw_take (i := 6) (v := ?v30) (d := (some 78)) rfl rfl (by kernel_rfl) (by kernel_rfl) (by kernel_rfl) (fun _ _ _ h => h) (Or.inl ⟨by rfl, ?hy30⟩) hHeld ?rest30
    case hy30 => (intro w hSw; (try dsimp only at hSw); go_simp; (try with_reducible rfl))
    try simp only [Act.put, List.setIfInBounds_toArray, List.set_cons_zero, List.set_cons_succ]
    refine Gw.gw_take (i := 8) (v := ?v31) (d := (some 80)) rfl rfl (by kernel_rfl) (by kernel_rfl) (by kernel_rfl) (fun _ _ _ h => h) (Or.inl ⟨by rfl, ?hy31⟩) hHeld ?rest31
    case hy31 => (intro w hSw; (try dsimp only at hSw); go_simp; (try with_reducible rfl))
    try simp only [Act.put, List.setIfInBounds_toArray, List.set_cons_zero, List.set_cons_succ]
    refine Gw.gw_take (i := 9) (v := ?v32) (d := (some 81)) rfl rfl (by kernel_rfl) (by kernel_rfl) (by kernel_rfl) (fun _ _ _ h => h) (Or.inl ⟨by rfl, ?hy32⟩) hHeld ?rest32
    case hy32 => (intro w hSw; (try dsimp only at hSw); go_simp; (try with_reducible rfl))
    try simp only [Act.put, List.setIfInBounds_toArray, List.set_cons_zero, List.set_cons_succ]
    refine wpAnyH_ready (rs := [7]) (by kernel_rfl) (by simp) ?_
    refine AllReadyH.cons rfl (fun K hK => ?_) AllReadyH.nil
    go_simp
    (go_at_call 70; ((with_reducible refine (KX.out _).mono ?_); rintro e w14 ⟨rfl, hb14⟩; have HB14 := Lib.hid (below_drewd hb14); clear hb14))
    refine hK.out _ _ ?_ (fun hHeld => ?_)
    · (first | exact HS9.out _ (below_own_drew _) | exact HS9.out _ HB15.out | exact HS9.out _ HB14.out)
    clear hK K
    try simp only [Act.put, List.setIfInBounds_toArray, List.set_cons_zero, List.set_cons_succ]
    refine Gw.gw_take (i := 10) (v := ?v33) (d := (some 82)) rfl rfl (by kernel_rfl) (by kernel_rfl) (by kernel_rfl) (fun _ _ _ h => h) (Or.inl ⟨by rfl, ?hy33⟩) hHeld ?rest33
    case hy33 => (intro w hSw; (try dsimp only at hSw); go_simp; (try with_reducible rfl))
    try simp only [Act.put, List.setIfInBounds_toArray, List.set_cons_zero, List.set_cons_succ]
    refine Gw.gw_take (i := 11) (v := ?v34) (d := (some 83)) rfl rfl (by kernel_rfl) (by kernel_rfl) (by kernel_rfl) (fun _ _ _ h => h) (Or.inl ⟨by rfl, ?hy34⟩) hHeld ?rest34
    case hy34 => (intro w hSw; (try dsimp only at hSw); go_simp; (try with_reducible rfl))
    try simp only [Act.put, List.setIfInBounds_toArray, List.set_cons_zero, List.set_cons_succ]
    refine Gw.gw_take (i := 12) (v := ?v35) (d := (some 84)) rfl rfl (by kernel_rfl) (by kernel_rfl) (by kernel_rfl) (fun _ _ _ h => h) (Or.inl ⟨by rfl, ?hy35⟩) hHeld ?rest35
    case hy35 => (intro w hSw; (try dsimp only at hSw); go_simp; (try with_reducible rfl))
    try simp only [Act.put, List.setIfInBounds_toArray, List.set_cons_zero, List.set_cons_succ]
    refine Gw.gw_take (i := 13) (v := ?v36) (d := (some 85)) rfl rfl (by kernel_rfl) (by kernel_rfl) (by kernel_rfl) (fun _ _ _ h => h) (Or.inl ⟨by rfl, ?hy36⟩) hHeld ?rest36
    case hy36 => (intro w hSw; (try dsimp only at hSw); go_simp; (try with_reducible rfl))
    try simp only [Act.put, List.setIfInBounds_toArray, List.set_cons_zero, List.set_cons_succ]
    refine Gw.gw_take (i := 14) (v := ?v37) (d := (some 86)) rfl rfl (by kernel_rfl) (by kernel_rfl) (by kernel_rfl) (fun _ _ _ h => h) (Or.inl ⟨by rfl, ?hy37⟩) hHeld ?rest37
    case hy37 => (intro w hSw; (try dsimp only at hSw); go_simp; (try with_reducible rfl))
    try simp only [Act.put, List.setIfInBounds_toArray, List.set_cons_zero, List.set_cons_succ]
    refine Gw.gw_take (i := 15) (v := ?v38) (d := (some 87)) rfl rfl (by kernel_rfl) (by kernel_rfl) (by kernel_rfl) (fun _ _ _ h => h) (Or.inl ⟨by rfl, ?hy38⟩) hHeld ?rest38
    case hy38 => (intro w hSw; (try dsimp only at hSw); go_simp; (try with_reducible rfl))
    try simp only [Act.put, List.setIfInBounds_toArray, List.set_cons_zero, List.set_cons_succ]
    refine wpAnyH_ready (rs := [16]) (by kernel_rfl) (by simp) ?_
    refine AllReadyH.cons rfl (fun K hK => ?_) AllReadyH.nil
    go_simp
    (go_at_call 62; ((with_reducible refine (KC.out _).mono ?_); rintro e w15 ⟨rfl, hb15⟩; have HB15 := Lib.hid (HB14.out.trans (hb15.mono HB14.out.size)); clear hb15))
    refine hK.out _ _ ?_ (fun hHeld => ?_)
    · (first | exact HS9.out _ (below_own_drew _) | exact HS9.out _ HB15.out | exact HS9.out _ HB14.out)
    clear hK K
    try simp only [Act.put, List.setIfInBounds_toArray, List.set_cons_zero, List.set_cons_succ]
    refine Gw.gw_take (i := 17) (v := ?v39) (d := (some 89)) rfl rfl (by kernel_rfl) (by kernel_rfl) (by kernel_rfl) (fun _ _ _ h => h) (Or.inl ⟨by rfl, ?hy39⟩) hHeld ?rest39
    case hy39 => (intro w hSw; (try dsimp only at hSw); go_simp; (try with_reducible rfl))
    try simp only [Act.put, List.setIfInBounds_toArray, List.set_cons_zero, List.set_cons_succ]
    refine Gw.gw_take (i := 18) (v := ?v40) (d := (some 6)) rfl rfl (by kernel_rfl) (by kernel_rfl) (by kernel_rfl) (fun _ _ _ h => h) (Or.inl ⟨by rfl, ?hy40⟩) hHeld ?rest40
    case hy40 => (intro w hSw; (try dsimp only at hSw); go_simp; (try with_reducible rfl))
    try simp only [Act.put, List.setIfInBounds_toArray, List.set_cons_zero, List.set_cons_succ]
    refine wpAnyH_done (by kernel_rfl) ?_ _
    go_wp2
    go_ret
    exact ⟨by (first | rfl | simp), HB0.out.trans ((HB13.out.trans (HB15.out.mono HB13.out.size)).mono HB0.out.size)⟩
/-- v is an address. -/
def IsAddr (v : Value) : Prop := ∃ (six : Bool) (b : List UInt8), b.length = 16 ∧ v = adV six b
theorem isAddr {H : Type} {enc : TypeId × Value → H} {W : World} {base : Nat} {sp : Nat → Bool} {held : Bool} {v : Value} {d : DataW H} {ps : List MemPlace} (hv : Value.okWide Tryz.prog W .any base 24 v) (h : DataW.Trod enc Tryz.prog W 0 sp held 24 v d ps) : IsAddr v := by
  obtain ⟨⟨cs⟩, rfl, _⟩ := okWide_struct Tryz.underlying24 hv
  obtain ⟨six, b, hb, he⟩ := open_addr _ (Rd.of h)
  exact ⟨six, b, hb, by rw [show cs = adCells six b from he]; rfl⟩
theorem errs20 (W : World) (es : List Addr) (el : es.length = 20) (en : es.Nodup) (eh : ∀ (k g : Nat) (a : Addr), (gl ++ [20, 19])[k]? = some g → es[k]? = some a → Holds W g a) : Errs W (es.take 18) := by
  refine errs_of W (es.take 18) (by rw [List.length_take, el]; rfl) (List.Nodup.sublist (List.take_sublist _ _) en) (fun k g a hg ha => ?_)
  have hk : k < 18 := (List.getElem?_eq_some_iff.1 hg).1
  refine eh k g a ?_ ?_
  · rw [List.getElem?_append_left hk]; exact hg
  · rw [List.getElem?_take, if_pos hk] at ha; exact ha
/-- What an argument of type Cidr is. -/
def IsCidr (v : Value) : Prop := ∃ (six : Bool) (b : List UInt8) (n : Int), b.length = 16 ∧ InI64 n ∧ v = ptV six b n
theorem isCidr {H : Type} {enc : TypeId × Value → H} {W : World} {base : Nat} {sp : Nat → Bool} {held : Bool} {v : Value} {d : DataW H} {ps : List MemPlace} (hv : Value.okWide Tryz.prog W .any base 74 v) (h : DataW.Trod enc Tryz.prog W 0 sp held 74 v d ps) : IsCidr v := by
  obtain ⟨⟨cs⟩, rfl, _⟩ := okWide_struct Tryz.underlying74 hv
  have hs := (Rd.of h).struct Tryz.underlying74
  have hc : Tryz.prog.cellsOf 74 = 18 := by kernel_rfl
  have hca : Tryz.prog.cellsOf 24 = 17 := by kernel_rfl
  have hci : Tryz.prog.cellsOf 3 = 1 := by kernel_rfl
  have h0 : Rd enc Tryz.prog W 24 ((cs.drop 0).take (Tryz.prog.cellsOf 24)) := hs.2 0 _ rfl
  have h1 : Rd enc Tryz.prog W 3 ((cs.drop 17).take (Tryz.prog.cellsOf 3)) := hs.2 1 _ rfl
  have hl := hs.1
  change cs.length = _ at hl
  rw [hca] at h0
  rw [hci] at h1
  rw [hc] at hl
  obtain ⟨six, b, hb, h6⟩ := open_addr _ h0
  obtain ⟨n, hn, hw⟩ := h1.int Tryz.underlying3
  refine ⟨six, b, n, hb, ?_, ?_⟩
  · have e1 : IntKind.i64.min = -9223372036854775808 := rfl
    have e2 : IntKind.i64.max = 9223372036854775807 := rfl
    simp only [Lit.wf, e1, e2, Bool.and_eq_true, decide_eq_true_eq] at hw
    exact hw
  · show Value.agg cs.toArray = .agg (ptA six b n)
    unfold ptA
    rw [← h6, ← hn, List.drop_zero, List.take_of_length_le (l := cs.drop 17) (by rw [List.length_drop]; omega), List.take_append_drop]
theorem contains_row (W : World) (es : List Addr) (el : es.length = 20) (en : es.Nodup) (eh : ∀ (k g : Nat) (a : Addr), (gl ++ [20, 19])[k]? = some g → es[k]? = some a → Holds W g a)
    (ea : Addr) (hE : Env ea W) (v1 : Value) (h1 : IsCidr v1) (v2 : Value) (h2 : IsCidr v2) (v3 : Value) (h3 : IsAddr v3) :
    Calls Tryz.prog 11 #[v1, v2, v3] W fun e W' => e = .returned (.bool true) ∧ Below W.heap.size W W' := by
  obtain ⟨six, b, n, hb, hn, rfl⟩ := h1
  obtain ⟨s2, c, m, hc, hm, rfl⟩ := h2
  obtain ⟨s3, a, ha, rfl⟩ := h3
  have he := errs20 W es el en eh
  have g0 : es[0]? = some es[0] := List.getElem?_eq_getElem (by omega)
  have g7 : es[7]? = some es[7] := List.getElem?_eq_getElem (by omega)
  have hR := eh 0 0 _ (by decide) g0
  have hA := eh 7 7 _ (by decide) g7
  have p0 : (es.take 18)[0]? = some es[0] := by rw [List.getElem?_take, if_pos (by decide)]; exact g0
  have p7 : (es.take 18)[7]? = some es[7] := by rw [List.getElem?_take, if_pos (by decide)]; exact g7
  by_cases hr : rightA s3 a = true
  · by_cases k0 : 0 ≤ n
    · by_cases k1 : n ≤ (widthA s3 : Int)
      · exact contains_ok ea _ _ _ six b hb n hn s2 c hc m s3 a ha W hE he p0 p7 hR hA hr k0 k1
      · exact contains_big ea _ _ _ six b hb n hn s2 c hc m s3 a ha W hE he p0 p7 hR hA hr (by omega)
    · exact contains_neg ea _ _ _ six b hb n hn s2 c hc m s3 a ha W hE he p0 p7 hR hA hr (by omega)
  · exact contains_bad ea _ _ _ six b hb n hn s2 c hc m s3 a ha W hE he p0 p7 hR hA (by simpa using hr)
end Go.Proofs.YtmcgkknpkocgoaaGreatDoor.Ad

