/- The row of CidrParses, and its card: for every input it returns true, and its arguments read as they read. -/
import Derived.Test.YtmcgkknpkocgoaaGreatDoorCards
import Derived.Test.YtmcgkknpkocgoaaGreatDoorTie
import Derived.Test.YtmcgkknpkocgoaaGreatDoorLaid
import Derived.Test.YtmcgkknpkocgoaaGreatDoorAdZ
import Derived.Test.YtmcgkknpkocgoaaGreatDoorPp1
import Derived.WalkKit
import Derived.ProofKit
import Derived.OpenShut
import Derived.ShutString
import Derived.ChangeOld
import Derived.Below
import Derived.SizedLaws
import Derived.Deep.DeepHandedRow
import Derived.Deep.DeepWitnessRowRef
import Derived.LaidLaws
import Derived.Stop.Joined
import Derived.LaidSub
import Derived.Lay
import Derived.JoinedOf
namespace Go.Proofs.YtmcgkknpkocgoaaGreatDoor.cidrParses
open Go.ChangeShapes Go.WideShapes Go.ChangeAt Go.RowKit Go.Proofs.YtmcgkknpkocgoaaGreatDoor.Mem
open Go.ChangeMaps (open_string shut_string)
set_option linter.unusedVariables false
set_option maxRecDepth 100000
theorem own : ownKnob Tryz.prog.godebug = none := by kernel_rfl
theorem laidOut : laidOutB Tryz.prog = true := by kernel_rfl
def texts : List (String × List UInt8) := [("linkboy/api.ErrRange", [97, 32, 110, 117, 109, 98, 101, 114, 32, 105, 115, 32, 111, 117, 116, 32, 111, 102, 32, 105, 116, 115, 32, 114, 97, 110, 103, 101]), ("linkboy/api.ErrShort", [115, 111, 109, 101, 116, 104, 105, 110, 103, 32, 105, 115, 32, 109, 105, 115, 115, 105, 110, 103, 32, 97, 116, 32, 116, 104, 101, 32, 101, 110, 100]), ("linkboy/api.ErrLong", [116, 104, 101, 114, 101, 32, 105, 115, 32, 109, 111, 114, 101, 32, 116, 104, 97, 110, 32, 109, 97, 121, 32, 98, 101]), ("linkboy/api.ErrForm", [105, 116, 32, 105, 115, 32, 110, 111, 116, 32, 111, 102, 32, 105, 116, 115, 32, 102, 111, 114, 109]), ("linkboy/api.ErrSum", [116, 104, 101, 32, 99, 104, 101, 99, 107, 115, 117, 109, 32, 105, 115, 32, 110, 111, 116, 32, 114, 105, 103, 104, 116]), ("linkboy/api.ErrName", [105, 116, 32, 105, 115, 32, 110, 111, 32, 114, 105, 103, 104, 116, 32, 110, 97, 109, 101]), ("linkboy/api.ErrKind", [105, 116, 32, 105, 115, 32, 111, 102, 32, 97, 110, 111, 116, 104, 101, 114, 32, 107, 105, 110, 100]), ("linkboy/api.ErrAddress", [105, 116, 32, 105, 115, 32, 110, 111, 32, 114, 105, 103, 104, 116, 32, 97, 100, 100, 114, 101, 115, 115]), ("linkboy/api.ErrVersion", [116, 104, 101, 32, 118, 101, 114, 115, 105, 111, 110, 32, 105, 115, 32, 110, 111, 116, 32, 111, 110, 101]), ("linkboy/api.ErrStale", [105, 116, 32, 105, 115, 32, 111, 108, 100, 101, 114, 32, 116, 104, 97, 110, 32, 119, 104, 97, 116, 32, 105, 115, 32, 107, 110, 111, 119, 110]), ("linkboy/api.ErrNone", [116, 104, 101, 114, 101, 32, 105, 115, 32, 110, 111, 110, 101]), ("linkboy/api.ErrDup", [105, 116, 32, 105, 115, 32, 116, 104, 101, 114, 101, 32, 97, 108, 114, 101, 97, 100, 121]), ("linkboy/api.ErrFull", [116, 104, 101, 114, 101, 32, 97, 114, 101, 32, 97, 115, 32, 109, 97, 110, 121, 32, 97, 115, 32, 109, 97, 121, 32, 98, 101]), ("linkboy/api.ErrFail", [105, 116, 32, 102, 97, 105, 108, 101, 100, 32, 111, 110, 32, 116, 104, 101, 32, 119, 97, 121]), ("linkboy/api.ErrState", [105, 116, 32, 99, 97, 110, 32, 110, 111, 116, 32, 98, 101, 32, 100, 111, 110, 101, 32, 105, 110, 32, 116, 104, 105, 115, 32, 115, 116, 97, 116, 101]), ("linkboy/api.ErrDown", [105, 116, 32, 105, 115, 32, 100, 111, 119, 110]), ("linkboy/api.ErrProto", [105, 116, 32, 105, 115, 32, 111, 102, 32, 97, 110, 111, 116, 104, 101, 114, 32, 112, 114, 111, 116, 111, 99, 111, 108]), ("linkboy/api.ErrIndex", [97, 32, 112, 108, 97, 99, 101, 32, 105, 115, 32, 110, 111, 116, 32, 105, 110, 32, 116, 104, 101, 32, 108, 105, 115, 116]), ("strconv.ErrRange", [118, 97, 108, 117, 101, 32, 111, 117, 116, 32, 111, 102, 32, 114, 97, 110, 103, 101]), ("strconv.ErrSyntax", [105, 110, 118, 97, 108, 105, 100, 32, 115, 121, 110, 116, 97, 120])]
theorem contract (H : Type) (enc : TypeId × Value → H) (W : World) (base : Nat) (args : Array Value) (ds gs : List (DataW H)) (before : List MemPlace)
    (hval : ∀ (j : Nat) t v, Tryz.f10.params[j]? = some t → args[j]? = some v → Value.okWide Tryz.prog W .any base t v)
    (hW : DataW.Whole enc Tryz.prog Tryz.f10.params.toList Rows.cidrParsesSpec.vars false W args.toList ds gs before)
    (hsz : (DataW.weightsEach Tryz.prog (Tryz.f10.params.toList ++ Rows.cidrParsesSpec.plain.varTypes Tryz.prog) (ds ++ gs)).all (· ≤ reachBytes) = true)
    (hL : laidMetH Tryz.prog Rows.cidrParsesRow.laid W) (hsh : W.ShapedOpen Tryz.prog) :
    Calls Tryz.prog 10 args W fun e W' => ∃ v, e = .returned v ∧ Rows.cidrParsesSpec.post enc Tryz.prog Tryz.f10 false true false false W args v W' := by
  have hF : laidMet Tryz.prog Rows.cidrParsesRow.laid W := hL
  have hE : laidMet Tryz.prog (texts.map fun x => (x.1, Laid.datum x.2)) W := hF.filter (fun x => match x.2 with | .iface _ _ => true | _ => false)
  obtain ⟨es, el, en, eh⟩ := Laid.laid_all (W := W) texts [0, 1, 2, 3, 4, 5, 6, 7, 8, 9, 10, 11, 12, 13, 14, 15, 16, 17, 20, 19] hE (by kernel_rfl) (by intro g hg; simp only [List.mem_cons, List.not_mem_nil, or_false] at hg; rcases hg with rfl | rfl | rfl | rfl | rfl | rfl | rfl | rfl | rfl | rfl | rfl | rfl | rfl | rfl | rfl | rfl | rfl | rfl | rfl | rfl <;> kernel_rfl)
  have r1 : Lib.VarReads Tryz.prog W "internal/strconv.uint64pow10" (Lib.tabData .u64 Lib.pow10Tab) := by
    have h := Lib.laidMet.reads hF (n := "internal/strconv.uint64pow10") (d := Rows.laid_internal_strconv_uint64pow10) (by simp [Rows.cidrParsesRow])
    have e : (Rows.laid_internal_strconv_uint64pow10 : DataW Unit) = Lib.tabData .u64 Lib.pow10Tab := by kernel_rfl
    rw [← e]; exact h
  have r2 : Lib.VarReads Tryz.prog W "unicode/utf8.first" (Lib.firstData) := by
    have h := Lib.laidMet.reads hF (n := "unicode/utf8.first") (d := Rows.laid_unicode_utf8_first) (by simp [Rows.cidrParsesRow])
    have e : (Rows.laid_unicode_utf8_first : DataW Unit) = Lib.firstData := Go.Pinned.utf8First_eq
    rw [← e]; exact h
  have r3 : Lib.VarReads Tryz.prog W "unicode/utf8.acceptRanges" (Lib.acceptData) := by
    have h := Lib.laidMet.reads hF (n := "unicode/utf8.acceptRanges") (d := Rows.laid_unicode_utf8_acceptRanges) (by simp [Rows.cidrParsesRow])
    have e : (Rows.laid_unicode_utf8_acceptRanges : DataW Unit) = Lib.acceptData := by kernel_rfl
    rw [← e]; exact h
  have r4 : Lib.VarReads Tryz.prog W "unicode.CaseRanges" (Lib.caseData) := by
    have h := Lib.laidMet.reads hF (n := "unicode.CaseRanges") (d := Rows.laid_unicode_CaseRanges) (by simp [Rows.cidrParsesRow])
    have e : (Rows.laid_unicode_CaseRanges : DataW Unit) = Lib.caseData := Go.Pinned.caseRanges_eq
    rw [← e]; exact h
  have r5 : Lib.VarReads Tryz.prog W "math/bits.deBruijn64tab" (Lib.tabData .u8 Ad.dbTab) := by
    have h := Lib.laidMet.reads hF (n := "math/bits.deBruijn64tab") (d := Rows.laid_math_bits_deBruijn64tab) (by simp [Rows.cidrParsesRow])
    have e : (Rows.laid_math_bits_deBruijn64tab : DataW Unit) = Lib.tabData .u8 Ad.dbTab := by kernel_rfl
    rw [← e]; exact h
  have hEnv : Ad.Env (es[3]'(by rw [el]; decide)) W := Ad.env_of (eh 3 3 _ rfl (List.getElem?_eq_getElem (by rw [el]; decide))) (eh 18 20 _ rfl (List.getElem?_eq_getElem (by rw [el]; decide))) (eh 19 19 _ rfl (List.getElem?_eq_getElem (by rw [el]; decide))) hsh r1 r2 r3 r4 r5
  clear r1 r2 r3 r4 r5
  have hW' := hW
  obtain ⟨p, q, hA0, hV, rfl, hfz, hnd⟩ := hW
  have hA : DataW.TrodAll enc Tryz.prog W 0 (fun _ => true) true Tryz.f10.params.toList args.toList ds p := hA0
  rw [Tryz.params10] at hA hval hsz
  obtain ⟨v0, vs0, d0, ds0, p0, q0, hargs, rfl, rfl, h0, r0⟩ := trodAll_cons hA
  obtain ⟨v1, vs1, d1, ds1, p1, q1, rfl, rfl, rfl, h1, r1⟩ := trodAll_cons r0
  obtain ⟨rfl, rfl, rfl⟩ := trodAll_nil r1
  obtain rfl : args = #[v0, v1] := by cases args; simp_all
  obtain ⟨rfl, rfl⟩ := trodVars_none hV
  obtain ⟨a0, rfl, rfl, rfl, y0⟩ := open_string Tryz.underlying9 (hval 0 9 v0 rfl rfl) h0
  have w0 : a0.size ≤ 140737488351232 := by
    have z := sized_string hsz (j := 0) (t := 9) rfl rfl
    rw [Array.length_toList] at z
    exact z
  have o1 := Ad.isCidr (hval 1 74 v1 rfl rfl) h1
  have k1 := h1
  have lt1 : ∀ x ∈ p1, x.block < W.heap.size := by obtain ⟨m, hm⟩ := k1; exact DataW.trod_lt m _ _ _ hm
  clear hA0 hsz
  refine (Ad.cidr_parses_row W es el en eh _ hEnv a0 w0 _ o1).mono fun e W' ⟨he, bel⟩ => ?_
  subst he
  exact ⟨_, rfl, _, _, _, [], _, [], hW', trodAll_mk1 (shut_bool Tryz.underlying4 _), (trodAll_cons_mk (shut_string Tryz.underlying9 y0) (trodAll_cons_mk (Below.trod laidOut (by kernel_rfl) (of_decide_eq_true (by kernel_rfl)) k1 bel lt1) trodAll_mk0)), rfl, bel.frame _, fun h => by cases h⟩
noncomputable def laidWorld (os : Os) : World := World.laidAll Tryz.prog os Rows.cidrParsesRow.laid
theorem laid_met (os : Os) : laidMet Tryz.prog Rows.cidrParsesRow.laid ((laidWorld os).forCall (fun _ _ => 0) ⟨#[], #[.string ByteArray.empty, .agg #[.bool false, .int .u8 0, .int .u8 0, .int .u8 0, .int .u8 0, .int .u8 0, .int .u8 0, .int .u8 0, .int .u8 0, .int .u8 0, .int .u8 0, .int .u8 0, .int .u8 0, .int .u8 0, .int .u8 0, .int .u8 0, .int .u8 0, .int .i64 0]], []⟩).memory :=
  laidMet_laidAll _ (by kernel_rfl) (by kernel_rfl)
theorem lifted (os : Os) (started : os.Started) (H : Type) (enc : TypeId × Value → H) (F : Stop.Interp) :
    ReturnsInHanded {} Tryz.checked os 10 .any ((OpenSpec.ofChange Rows.cidrParsesSpec).preRow enc Tryz.prog Tryz.f10 Rows.cidrParsesRow.domain false Rows.cidrParsesRow.laid) (((OpenSpec.ofChange Rows.cidrParsesSpec).at F).post enc Tryz.prog Tryz.f10 false true false false) := by
  refine returnsInHanded_of_row (C := Tryz.checked) (s := OpenSpec.ofChange Rows.cidrParsesSpec) own started (by kernel_rfl) Tryz.func10
    (witness_row_atRef (enc := enc) (C := Tryz.checked) false (laidWorld os) #[.string ByteArray.empty, .agg #[.bool false, .int .u8 0, .int .u8 0, .int .u8 0, .int .u8 0, .int .u8 0, .int .u8 0, .int .u8 0, .int .u8 0, .int .u8 0, .int .u8 0, .int .u8 0, .int .u8 0, .int .u8 0, .int .u8 0, .int .u8 0, .int .u8 0, .int .i64 0]] (World.laidAll_os _ _ _) (by kernel_rfl) (by kernel_rfl) (by kernel_rfl)
      (OpenSpec.preRow_of_B rfl 8 (by kernel_rfl) (by kernel_rfl) (laid_met os))) ?_
  intro W base args ds gs before hval hW _ _ hsz hL hsh _
  exact contract H enc W base args ds gs before hval hW hsz hL hsh
theorem band {a b : Bool} (ha : a = true) (hb : b = true) : (a && b) = true := by rw [ha, hb]; rfl
theorem l0 : (Rows.cidrParsesRow.wf (OpenSpec.ofChange (OpenSpec.ofChange Rows.cidrParsesSpec).bare)) = true := by kernel_rfl
theorem l1 : (laidOutB Tryz.prog) = true := by kernel_rfl
theorem l2 : (mapsRowed Tryz.prog) = true := by kernel_rfl
theorem l3 : (Tryz.f10.params.all (Tryz.prog.readableRec ·)) = true := by kernel_rfl
theorem l4 : (namedTie Tryz.prog Rows.cidrParsesRow.named (OpenSpec.ofChange Rows.cidrParsesSpec).bare.vars) = true := by kernel_rfl
theorem l5 : ((Rows.cidrParsesRow.stops == [])) = true := by kernel_rfl
theorem l6 : ((Tryz.prog.stops == [])) = true := by kernel_rfl
theorem l7 : ((Rows.cidrParsesRow.knobs == [])) = true := by kernel_rfl
theorem l8 : ((Tryz.prog.stopKnobs == [])) = true := by kernel_rfl
theorem l9 : ((Rows.cidrParsesRow.inPlace == Tryz.prog.inPlace 10)) = true := by kernel_rfl
theorem l10 : ((Rows.cidrParsesRow.unfollowed == Tryz.prog.unfollowed 10)) = true := by kernel_rfl
theorem l11 : ((Rows.cidrParsesRow.recurses == Tryz.prog.recurses 10)) = true := by kernel_rfl
theorem l12 : ((Rows.cidrParsesRow.named == Tryz.prog.varsNamed 10)) = true := by kernel_rfl
theorem l13 : ((Rows.cidrParsesRow.maps == (Tryz.f10.params.toList ++ (OpenSpec.ofChange Rows.cidrParsesSpec).bare.plain.varTypes Tryz.prog).any (Tryz.prog.mapsRec ·))) = true := by kernel_rfl
theorem l14 : ((Rows.cidrParsesRow.ifaces == (Tryz.f10.params.toList ++ (OpenSpec.ofChange Rows.cidrParsesSpec).bare.plain.varTypes Tryz.prog).any (Tryz.prog.ifacesRec ·))) = true := by kernel_rfl
theorem l15 : ((Rows.cidrParsesRow.mapsOut == Tryz.prog.mapsAmong Tryz.f10.resultTypes.toList)) = true := by kernel_rfl
theorem l16 : ((Rows.cidrParsesRow.loops == (Tryz.f10.params.toList ++ (OpenSpec.ofChange Rows.cidrParsesSpec).bare.plain.varTypes Tryz.prog).any (Tryz.prog.loopsFrom ·))) = true := by kernel_rfl
theorem l17 : ((Rows.cidrParsesRow.wideKeys == (Tryz.f10.params.toList ++ (OpenSpec.ofChange Rows.cidrParsesSpec).bare.plain.varTypes Tryz.prog ++ Tryz.f10.resultTypes.toList).any (Tryz.prog.wideKeysFrom ·))) = true := by kernel_rfl
theorem l18 : ((OpenSpec.ofChange Rows.cidrParsesSpec).bare.vars.all (Tryz.prog.varReadable ·)) = true := by kernel_rfl
theorem l19 : (Tryz.f10.resultTypes.all (fun t => Tryz.prog.readableRec t && decide (t < Tryz.prog.types.size))) = true := by kernel_rfl
theorem l20 : ((Rows.cidrParsesRow.ifacesOut == Tryz.f10.resultTypes.toList.any (Tryz.prog.ifacesRec ·))) = true := by kernel_rfl
theorem l21 : ((Rows.cidrParsesRow.loopsOut == Tryz.f10.resultTypes.toList.any (Tryz.prog.loopsFrom ·))) = true := by kernel_rfl
theorem l22 : ((Rows.cidrParsesRow.plainKeys == Tryz.prog.plainKeys)) = true := by kernel_rfl
theorem l23 : (Rows.cidrParsesRow.shortTexts.isNone) = true := by kernel_rfl
theorem l24 : (Tryz.prog.stopsHeard) = true := by kernel_rfl
theorem l25 : (Tryz.prog.mayEnter) = true := by kernel_rfl
theorem l26 : ((Rows.cidrParsesRow.lifted == Tryz.prog.liftsFinal)) = true := by kernel_rfl
theorem l27 : ((Tryz.prog.make == some Rows.cidrParsesRow.make)) = true := by kernel_rfl
theorem l28 : ((Rows.cidrParsesRow.kinds == (if Rows.cidrParsesRow.domain.isEmpty then [] else Tryz.f10.params.toList.map fun t => match Tryz.prog.underlying t with | some (.int k) => some k | _ => none))) = true := by kernel_rfl
theorem l29 : ((Rows.cidrParsesRow.pinned == Rows.cidrParsesRow.pinnedBy)) = true := by kernel_rfl
theorem l30 : ((Rows.cidrParsesRow.veiled == (Tryz.f10.params.toList ++ (OpenSpec.ofChange Rows.cidrParsesSpec).bare.plain.varTypes Tryz.prog ++ Tryz.f10.resultTypes.toList).any (Tryz.prog.veiledRec ·))) = true := by kernel_rfl
theorem l31 : (Rows.cidrParsesRow.veiledFits Tryz.prog Tryz.f10.params.toList (Tryz.f10.params.toList ++ (OpenSpec.ofChange Rows.cidrParsesSpec).bare.plain.varTypes Tryz.prog ++ Tryz.f10.resultTypes.toList)) = true := by kernel_rfl
theorem closed : joinedFacts Tryz.prog 10 Tryz.f10 (OpenSpec.ofChange Rows.cidrParsesSpec).bare Rows.cidrParsesRow = true := by
  unfold joinedFacts
  exact band (band (band (band (band (band (band (band (band (band (band (band (band (band (band (band (band (band (band (band (band (band (band (band (band (band (band (band (band (band (band (l0) l1) l2) l3) l4) l5) l6) l7) l8) l9) l10) l11) l12) l13) l14) l15) l16) l17) l18) l19) l20) l21) l22) l23) l24) l25) l26) l27) l28) l29) l30) l31
theorem hnamed : Tryz.pinned.checked.prog.funcNamed Rows.cidrParsesRow.func = some 10 := by kernel_rfl
theorem hinst : Tryz.f10.isInstance Tryz.pinned.checked.prog Rows.cidrParsesRow.origin Rows.cidrParsesRow.targs := of_decide_eq_true (by kernel_rfl)
theorem hwrap : Tryz.f10.isWrapper Tryz.pinned.checked.prog Rows.cidrParsesRow.wrapper Rows.cidrParsesRow.mainSum := by unfold Func.isWrapper; first | (rw [if_pos (by decide +kernel)]; kernel_rfl) | (rw [if_neg (by decide +kernel)]; exact ⟨rfl, rfl⟩)
theorem said : Rows.CidrParsesSaid :=
  OpenClaim.holds_of_cond 10 Tryz.f10 rfl rfl rfl rfl rfl rfl rfl ⟨rfl, rfl, rfl, rfl, rfl⟩ rfl rfl rfl rfl rfl hnamed Tryz.func10 closed hinst hwrap
    (fun os started H enc _ F => by rw [OpenClaim.pre_eq_preRow]; exact lifted os started H enc F)
theorem plain (f : FuncId) (fn : Func) (hf : Tryz.pinned.checked.prog.funcNamed "linkboy/linkboylaw03.CidrParses" = some f) (hfn : Tryz.pinned.checked.prog.funcs[f]? = some fn) :
    true = Tryz.pinned.checked.prog.looks [] ∧ ∀ (j : Nat) t, fn.params[j]? = some t → Tryz.pinned.checked.prog.wantsStandIn t = false := by
  obtain rfl : f = 10 := Option.some.inj ((show Tryz.prog.funcNamed "linkboy/linkboylaw03.CidrParses" = some 10 by kernel_rfl).symm.trans hf) |>.symm
  obtain rfl : fn = Tryz.f10 := (Option.some.inj (Tryz.func10.symm.trans hfn)).symm
  refine ⟨by kernel_rfl, fun j t ht => ?_⟩
  rw [Tryz.params10] at ht
  have hm := Array.mem_of_getElem? ht
  simp only [List.mem_toArray, List.mem_cons, List.not_mem_nil, or_false] at hm
  rcases hm with rfl | rfl <;> first | exact (show Tryz.prog.wantsStandIn 9 = false by kernel_rfl) | exact (show Tryz.prog.wantsStandIn 74 = false by kernel_rfl)
theorem card : Rows.CidrParsesCardSaid :=
  Claim7.holds_tied_plain_at .later [] _ _ _ _ said (fun _ h => by cases h) (by kernel_rfl) (fun _ h => by cases h) cidrParses_row_tie rfl ⟨rfl, rfl⟩ (by kernel_rfl) rfl plain (by kernel_rfl)
#print axioms card
end Go.Proofs.YtmcgkknpkocgoaaGreatDoor.cidrParses
namespace Go.Proofs.YtmcgkknpkocgoaaGreatDoor
/-- The card, under a short name, for the claim. -/
theorem cidrParses_card_holds : Rows.CidrParsesCardSaid := cidrParses.card
end Go.Proofs.YtmcgkknpkocgoaaGreatDoor
