/- The row of AddrFormats, and its card: for every input it returns true, and its arguments read as they read. -/
import Derived.Test.YtmcgkknpkocgoaaGreatDoorCards
import Derived.Test.YtmcgkknpkocgoaaGreatDoorTie
import Derived.Test.YtmcgkknpkocgoaaGreatDoorLaid
import Derived.Test.YtmcgkknpkocgoaaGreatDoorAdZ
import Derived.Test.YtmcgkknpkocgoaaGreatDoorAf9
import Derived.WalkKit
import Derived.ProofKit
import Derived.OpenShut
import Derived.ShutString
import Derived.ChangeOld
import Derived.Below
import Derived.SizedLaws
import Derived.Deep.DeepHandedRow
import Derived.Deep.DeepWitnessRowRef
import Derived.LaidLaws
import Derived.Stop.Joined
import Derived.LaidSub
import Derived.Lay
import Derived.JoinedOf
namespace Go.Proofs.YtmcgkknpkocgoaaGreatDoor.addrFormats
open Go.ChangeShapes Go.WideShapes Go.ChangeAt Go.RowKit Go.Proofs.YtmcgkknpkocgoaaGreatDoor.Mem
open Go.ChangeMaps (open_string shut_string)
set_option linter.unusedVariables false
set_option maxRecDepth 100000
theorem own : ownKnob Tryz.prog.godebug = none := by kernel_rfl
theorem laidOut : laidOutB Tryz.prog = true := by kernel_rfl
def texts : List (String × List UInt8) := [("linkboy/api.ErrForm", [105, 116, 32, 105, 115, 32, 110, 111, 116, 32, 111, 102, 32, 105, 116, 115, 32, 102, 111, 114, 109]), ("strconv.ErrRange", [118, 97, 108, 117, 101, 32, 111, 117, 116, 32, 111, 102, 32, 114, 97, 110, 103, 101]), ("strconv.ErrSyntax", [105, 110, 118, 97, 108, 105, 100, 32, 115, 121, 110, 116, 97, 120])]
theorem contract (H : Type) (enc : TypeId × Value → H) (W : World) (base : Nat) (args : Array Value) (ds gs : List (DataW H)) (before : List MemPlace)
    (hval : ∀ (j : Nat) t v, Tryz.f3.params[j]? = some t → args[j]? = some v → Value.okWide Tryz.prog W .any base t v)
    (hW : DataW.Whole enc Tryz.prog Tryz.f3.params.toList Rows.addrFormatsSpec.vars false W args.toList ds gs before)
    (hsz : (DataW.weightsEach Tryz.prog (Tryz.f3.params.toList ++ Rows.addrFormatsSpec.plain.varTypes Tryz.prog) (ds ++ gs)).all (· ≤ reachBytes) = true)
    (hL : laidMetH Tryz.prog Rows.addrFormatsRow.laid W) (hsh : W.ShapedOpen Tryz.prog) :
    Calls Tryz.prog 3 args W fun e W' => ∃ v, e = .returned v ∧ Rows.addrFormatsSpec.post enc Tryz.prog Tryz.f3 false true false false W args v W' := by
  have hF : laidMet Tryz.prog Rows.addrFormatsRow.laid W := hL
  have hE : laidMet Tryz.prog (texts.map fun x => (x.1, Laid.datum x.2)) W := hF.filter (fun x => match x.2 with | .iface _ _ => true | _ => false)
  obtain ⟨es, el, en, eh⟩ := Laid.laid_all (W := W) texts [3, 20, 19] hE (by kernel_rfl) (by intro g hg; simp only [List.mem_cons, List.not_mem_nil, or_false] at hg; rcases hg with rfl | rfl | rfl <;> kernel_rfl)
  have r1 : Lib.VarReads Tryz.prog W "internal/strconv.uint64pow10" (Lib.tabData .u64 Lib.pow10Tab) := by
    have h := Lib.laidMet.reads hF (n := "internal/strconv.uint64pow10") (d := Rows.laid_internal_strconv_uint64pow10) (by simp [Rows.addrFormatsRow])
    have e : (Rows.laid_internal_strconv_uint64pow10 : DataW Unit) = Lib.tabData .u64 Lib.pow10Tab := by kernel_rfl
    rw [← e]; exact h
  have r2 : Lib.VarReads Tryz.prog W "unicode/utf8.first" (Lib.firstData) := by
    have h := Lib.laidMet.reads hF (n := "unicode/utf8.first") (d := Rows.laid_unicode_utf8_first) (by simp [Rows.addrFormatsRow])
    have e : (Rows.laid_unicode_utf8_first : DataW Unit) = Lib.firstData := Go.Pinned.utf8First_eq
    rw [← e]; exact h
  have r3 : Lib.VarReads Tryz.prog W "unicode/utf8.acceptRanges" (Lib.acceptData) := by
    have h := Lib.laidMet.reads hF (n := "unicode/utf8.acceptRanges") (d := Rows.laid_unicode_utf8_acceptRanges) (by simp [Rows.addrFormatsRow])
    have e : (Rows.laid_unicode_utf8_acceptRanges : DataW Unit) = Lib.acceptData := by kernel_rfl
    rw [← e]; exact h
  have r4 : Lib.VarReads Tryz.prog W "unicode.CaseRanges" (Lib.caseData) := by
    have h := Lib.laidMet.reads hF (n := "unicode.CaseRanges") (d := Rows.laid_unicode_CaseRanges) (by simp [Rows.addrFormatsRow])
    have e : (Rows.laid_unicode_CaseRanges : DataW Unit) = Lib.caseData := Go.Pinned.caseRanges_eq
    rw [← e]; exact h
  have r5 : Lib.VarReads Tryz.prog W "math/bits.deBruijn64tab" (Lib.tabData .u8 Ad.dbTab) := by
    have h := Lib.laidMet.reads hF (n := "math/bits.deBruijn64tab") (d := Rows.laid_math_bits_deBruijn64tab) (by simp [Rows.addrFormatsRow])
    have e : (Rows.laid_math_bits_deBruijn64tab : DataW Unit) = Lib.tabData .u8 Ad.dbTab := by kernel_rfl
    rw [← e]; exact h
  have hEnv : Ad.Env (es[0]'(by rw [el]; decide)) W := Ad.env_of (eh 0 3 _ rfl (List.getElem?_eq_getElem (by rw [el]; decide))) (eh 1 20 _ rfl (List.getElem?_eq_getElem (by rw [el]; decide))) (eh 2 19 _ rfl (List.getElem?_eq_getElem (by rw [el]; decide))) hsh r1 r2 r3 r4 r5
  clear r1 r2 r3 r4 r5
  have hW' := hW
  obtain ⟨p, q, hA0, hV, rfl, hfz, hnd⟩ := hW
  have hA : DataW.TrodAll enc Tryz.prog W 0 (fun _ => true) true Tryz.f3.params.toList args.toList ds p := hA0
  rw [Tryz.params3] at hA hval hsz
  obtain ⟨v0, vs0, d0, ds0, p0, q0, hargs, rfl, rfl, h0, r0⟩ := trodAll_cons hA
  obtain ⟨rfl, rfl, rfl⟩ := trodAll_nil r0
  obtain rfl : args = #[v0] := by cases args; simp_all
  obtain ⟨rfl, rfl⟩ := trodVars_none hV
  have o0 := Ad.isAddr (hval 0 24 v0 rfl rfl) h0
  have k0 := h0
  have lt0 : ∀ x ∈ p0, x.block < W.heap.size := by obtain ⟨m, hm⟩ := k0; exact DataW.trod_lt m _ _ _ hm
  clear hA0 hsz
  refine (Ad.formats_row W es el en eh _ hEnv _ o0).mono fun e W' ⟨he, bel⟩ => ?_
  subst he
  exact ⟨_, rfl, _, _, _, [], _, [], hW', trodAll_mk1 (shut_bool Tryz.underlying4 _), (trodAll_cons_mk (Below.trod laidOut (by kernel_rfl) (of_decide_eq_true (by kernel_rfl)) k0 bel lt0) trodAll_mk0), rfl, bel.frame _, fun h => by cases h⟩
noncomputable def laidWorld (os : Os) : World := World.laidAll Tryz.prog os Rows.addrFormatsRow.laid
theorem laid_met (os : Os) : laidMet Tryz.prog Rows.addrFormatsRow.laid ((laidWorld os).forCall (fun _ _ => 0) ⟨#[], #[.agg #[.bool false, .int .u8 0, .int .u8 0, .int .u8 0, .int .u8 0, .int .u8 0, .int .u8 0, .int .u8 0, .int .u8 0, .int .u8 0, .int .u8 0, .int .u8 0, .int .u8 0, .int .u8 0, .int .u8 0, .int .u8 0, .int .u8 0]], []⟩).memory :=
  laidMet_laidAll _ (by kernel_rfl) (by kernel_rfl)
theorem lifted (os : Os) (started : os.Started) (H : Type) (enc : TypeId × Value → H) (F : Stop.Interp) :
    ReturnsInHanded {} Tryz.checked os 3 .any ((OpenSpec.ofChange Rows.addrFormatsSpec).preRow enc Tryz.prog Tryz.f3 Rows.addrFormatsRow.domain false Rows.addrFormatsRow.laid) (((OpenSpec.ofChange Rows.addrFormatsSpec).at F).post enc Tryz.prog Tryz.f3 false true false false) := by
  refine returnsInHanded_of_row (C := Tryz.checked) (s := OpenSpec.ofChange Rows.addrFormatsSpec) own started (by kernel_rfl) Tryz.func3
    (witness_row_atRef (enc := enc) (C := Tryz.checked) false (laidWorld os) #[.agg #[.bool false, .int .u8 0, .int .u8 0, .int .u8 0, .int .u8 0, .int .u8 0, .int .u8 0, .int .u8 0, .int .u8 0, .int .u8 0, .int .u8 0, .int .u8 0, .int .u8 0, .int .u8 0, .int .u8 0, .int .u8 0, .int .u8 0]] (World.laidAll_os _ _ _) (by kernel_rfl) (by kernel_rfl) (by kernel_rfl)
      (OpenSpec.preRow_of_B rfl 8 (by kernel_rfl) (by kernel_rfl) (laid_met os))) ?_
  intro W base args ds gs before hval hW _ _ hsz hL hsh _
  exact contract H enc W base args ds gs before hval hW hsz hL hsh
theorem band {a b : Bool} (ha : a = true) (hb : b = true) : (a && b) = true := by rw [ha, hb]; rfl
theorem l0 : (Rows.addrFormatsRow.wf (OpenSpec.ofChange (OpenSpec.ofChange Rows.addrFormatsSpec).bare)) = true := by kernel_rfl
theorem l1 : (laidOutB Tryz.prog) = true := by kernel_rfl
theorem l2 : (mapsRowed Tryz.prog) = true := by kernel_rfl
theorem l3 : (Tryz.f3.params.all (Tryz.prog.readableRec ·)) = true := by kernel_rfl
theorem l4 : (namedTie Tryz.prog Rows.addrFormatsRow.named (OpenSpec.ofChange Rows.addrFormatsSpec).bare.vars) = true := by kernel_rfl
theorem l5 : ((Rows.addrFormatsRow.stops == [])) = true := by kernel_rfl
theorem l6 : ((Tryz.prog.stops == [])) = true := by kernel_rfl
theorem l7 : ((Rows.addrFormatsRow.knobs == [])) = true := by kernel_rfl
theorem l8 : ((Tryz.prog.stopKnobs == [])) = true := by kernel_rfl
theorem l9 : ((Rows.addrFormatsRow.inPlace == Tryz.prog.inPlace 3)) = true := by kernel_rfl
theorem l10 : ((Rows.addrFormatsRow.unfollowed == Tryz.prog.unfollowed 3)) = true := by kernel_rfl
theorem l11 : ((Rows.addrFormatsRow.recurses == Tryz.prog.recurses 3)) = true := by kernel_rfl
theorem l12 : ((Rows.addrFormatsRow.named == Tryz.prog.varsNamed 3)) = true := by kernel_rfl
theorem l13 : ((Rows.addrFormatsRow.maps == (Tryz.f3.params.toList ++ (OpenSpec.ofChange Rows.addrFormatsSpec).bare.plain.varTypes Tryz.prog).any (Tryz.prog.mapsRec ·))) = true := by kernel_rfl
theorem l14 : ((Rows.addrFormatsRow.ifaces == (Tryz.f3.params.toList ++ (OpenSpec.ofChange Rows.addrFormatsSpec).bare.plain.varTypes Tryz.prog).any (Tryz.prog.ifacesRec ·))) = true := by kernel_rfl
theorem l15 : ((Rows.addrFormatsRow.mapsOut == Tryz.prog.mapsAmong Tryz.f3.resultTypes.toList)) = true := by kernel_rfl
theorem l16 : ((Rows.addrFormatsRow.loops == (Tryz.f3.params.toList ++ (OpenSpec.ofChange Rows.addrFormatsSpec).bare.plain.varTypes Tryz.prog).any (Tryz.prog.loopsFrom ·))) = true := by kernel_rfl
theorem l17 : ((Rows.addrFormatsRow.wideKeys == (Tryz.f3.params.toList ++ (OpenSpec.ofChange Rows.addrFormatsSpec).bare.plain.varTypes Tryz.prog ++ Tryz.f3.resultTypes.toList).any (Tryz.prog.wideKeysFrom ·))) = true := by kernel_rfl
theorem l18 : ((OpenSpec.ofChange Rows.addrFormatsSpec).bare.vars.all (Tryz.prog.varReadable ·)) = true := by kernel_rfl
theorem l19 : (Tryz.f3.resultTypes.all (fun t => Tryz.prog.readableRec t && decide (t < Tryz.prog.types.size))) = true := by kernel_rfl
theorem l20 : ((Rows.addrFormatsRow.ifacesOut == Tryz.f3.resultTypes.toList.any (Tryz.prog.ifacesRec ·))) = true := by kernel_rfl
theorem l21 : ((Rows.addrFormatsRow.loopsOut == Tryz.f3.resultTypes.toList.any (Tryz.prog.loopsFrom ·))) = true := by kernel_rfl
theorem l22 : ((Rows.addrFormatsRow.plainKeys == Tryz.prog.plainKeys)) = true := by kernel_rfl
theorem l23 : (Rows.addrFormatsRow.shortTexts.isNone) = true := by kernel_rfl
theorem l24 : (Tryz.prog.stopsHeard) = true := by kernel_rfl
theorem l25 : (Tryz.prog.mayEnter) = true := by kernel_rfl
theorem l26 : ((Rows.addrFormatsRow.lifted == Tryz.prog.liftsFinal)) = true := by kernel_rfl
theorem l27 : ((Tryz.prog.make == some Rows.addrFormatsRow.make)) = true := by kernel_rfl
theorem l28 : ((Rows.addrFormatsRow.kinds == (if Rows.addrFormatsRow.domain.isEmpty then [] else Tryz.f3.params.toList.map fun t => match Tryz.prog.underlying t with | some (.int k) => some k | _ => none))) = true := by kernel_rfl
theorem l29 : ((Rows.addrFormatsRow.pinned == Rows.addrFormatsRow.pinnedBy)) = true := by kernel_rfl
theorem l30 : ((Rows.addrFormatsRow.veiled == (Tryz.f3.params.toList ++ (OpenSpec.ofChange Rows.addrFormatsSpec).bare.plain.varTypes Tryz.prog ++ Tryz.f3.resultTypes.toList).any (Tryz.prog.veiledRec ·))) = true := by kernel_rfl
theorem l31 : (Rows.addrFormatsRow.veiledFits Tryz.prog Tryz.f3.params.toList (Tryz.f3.params.toList ++ (OpenSpec.ofChange Rows.addrFormatsSpec).bare.plain.varTypes Tryz.prog ++ Tryz.f3.resultTypes.toList)) = true := by kernel_rfl
theorem closed : joinedFacts Tryz.prog 3 Tryz.f3 (OpenSpec.ofChange Rows.addrFormatsSpec).bare Rows.addrFormatsRow = true := by
  unfold joinedFacts
  exact band (band (band (band (band (band (band (band (band (band (band (band (band (band (band (band (band (band (band (band (band (band (band (band (band (band (band (band (band (band (band (l0) l1) l2) l3) l4) l5) l6) l7) l8) l9) l10) l11) l12) l13) l14) l15) l16) l17) l18) l19) l20) l21) l22) l23) l24) l25) l26) l27) l28) l29) l30) l31
theorem hnamed : Tryz.pinned.checked.prog.funcNamed Rows.addrFormatsRow.func = some 3 := by kernel_rfl
theorem hinst : Tryz.f3.isInstance Tryz.pinned.checked.prog Rows.addrFormatsRow.origin Rows.addrFormatsRow.targs := of_decide_eq_true (by kernel_rfl)
theorem hwrap : Tryz.f3.isWrapper Tryz.pinned.checked.prog Rows.addrFormatsRow.wrapper Rows.addrFormatsRow.mainSum := by unfold Func.isWrapper; first | (rw [if_pos (by decide +kernel)]; kernel_rfl) | (rw [if_neg (by decide +kernel)]; exact ⟨rfl, rfl⟩)
theorem said : Rows.AddrFormatsSaid :=
  OpenClaim.holds_of_cond 3 Tryz.f3 rfl rfl rfl rfl rfl rfl rfl ⟨rfl, rfl, rfl, rfl, rfl⟩ rfl rfl rfl rfl rfl hnamed Tryz.func3 closed hinst hwrap
    (fun os started H enc _ F => by rw [OpenClaim.pre_eq_preRow]; exact lifted os started H enc F)
theorem plain (f : FuncId) (fn : Func) (hf : Tryz.pinned.checked.prog.funcNamed "linkboy/linkboylaw02.AddrFormats" = some f) (hfn : Tryz.pinned.checked.prog.funcs[f]? = some fn) :
    true = Tryz.pinned.checked.prog.looks [] ∧ ∀ (j : Nat) t, fn.params[j]? = some t → Tryz.pinned.checked.prog.wantsStandIn t = false := by
  obtain rfl : f = 3 := Option.some.inj ((show Tryz.prog.funcNamed "linkboy/linkboylaw02.AddrFormats" = some 3 by kernel_rfl).symm.trans hf) |>.symm
  obtain rfl : fn = Tryz.f3 := (Option.some.inj (Tryz.func3.symm.trans hfn)).symm
  refine ⟨by kernel_rfl, fun j t ht => ?_⟩
  rw [Tryz.params3] at ht
  have hm := Array.mem_of_getElem? ht
  simp only [List.mem_toArray, List.mem_cons, List.not_mem_nil, or_false] at hm
  rcases hm with rfl <;> first | exact (show Tryz.prog.wantsStandIn 24 = false by kernel_rfl)
theorem card : Rows.AddrFormatsCardSaid :=
  Claim7.holds_tied_plain_at .later [] _ _ _ _ said (fun _ h => by cases h) (by kernel_rfl) (fun _ h => by cases h) addrFormats_row_tie rfl ⟨rfl, rfl⟩ (by kernel_rfl) rfl plain (by kernel_rfl)
#print axioms card
end Go.Proofs.YtmcgkknpkocgoaaGreatDoor.addrFormats
namespace Go.Proofs.YtmcgkknpkocgoaaGreatDoor
/-- The card, under a short name, for the claim. -/
theorem addrFormats_card_holds : Rows.AddrFormatsCardSaid := addrFormats.card
end Go.Proofs.YtmcgkknpkocgoaaGreatDoor
