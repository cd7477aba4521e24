/- The row of WatchDelays, and its card: for every input it returns true, and its arguments read as they read. -/
import Derived.Test.YtmpdcdfnbkfabaaDoorCards
import Derived.Test.YtmpdcdfnbkfabaaDoorTie
import Derived.Test.YtmpdcdfnbkfabaaDoorLaid
import Derived.Test.YtmpdcdfnbkfabaaDoorLaidT
import Derived.Test.YtmpdcdfnbkfabaaDoorWatch2
import Derived.WalkKit
import Derived.ProofKit
import Derived.OpenShut
import Derived.ShutString
import Derived.ChangeOld
import Derived.Below
import Derived.SizedLaws
import Derived.Deep.DeepHandedRow
import Derived.Deep.DeepWitnessRowRef
import Derived.LaidLaws
import Derived.Stop.Joined
import Derived.LaidSub
namespace Go.Proofs.YtmpdcdfnbkfabaaDoor.watchDelays
open Go.ChangeShapes Go.WideShapes Go.ChangeAt Go.RowKit Go.Proofs.YtmpdcdfnbkfabaaDoor.Mem
open Go.ChangeMaps (open_string shut_string)
set_option linter.unusedVariables false
set_option maxRecDepth 100000
theorem own : ownKnob Tryd.prog.godebug = none := by kernel_rfl
theorem laidOut : laidOutB Tryd.prog = true := by kernel_rfl
def texts : List (String × List UInt8) := [("linkboy/api.ErrRange", [97, 32, 110, 117, 109, 98, 101, 114, 32, 105, 115, 32, 111, 117, 116, 32, 111, 102, 32, 105, 116, 115, 32, 114, 97, 110, 103, 101]), ("linkboy/api.ErrForm", [105, 116, 32, 105, 115, 32, 110, 111, 116, 32, 111, 102, 32, 105, 116, 115, 32, 102, 111, 114, 109]), ("linkboy/api.ErrState", [105, 116, 32, 99, 97, 110, 32, 110, 111, 116, 32, 98, 101, 32, 100, 111, 110, 101, 32, 105, 110, 32, 116, 104, 105, 115, 32, 115, 116, 97, 116, 101])]
theorem contract (H : Type) (enc : TypeId × Value → H) (W : World) (base : Nat) (args : Array Value) (ds gs : List (DataW H)) (before : List MemPlace)
    (hval : ∀ (j : Nat) t v, Tryd.f3.params[j]? = some t → args[j]? = some v → Value.okWide Tryd.prog W .any base t v)
    (hW : DataW.Whole enc Tryd.prog Tryd.f3.params.toList Rows.watchDelaysSpec.vars false W args.toList ds gs before)
    (hsz : (DataW.weightsEach Tryd.prog (Tryd.f3.params.toList ++ Rows.watchDelaysSpec.plain.varTypes Tryd.prog) (ds ++ gs)).all (· ≤ reachBytes) = true)
    (hL : laidMetH Tryd.prog Rows.watchDelaysRow.laid W) :
    Calls Tryd.prog 3 args W fun e W' => ∃ v, e = .returned v ∧ Rows.watchDelaysSpec.post enc Tryd.prog Tryd.f3 false true false false W args v W' := by
  have hF : laidMet Tryd.prog Rows.watchDelaysRow.laid W := hL
  have hE : laidMet Tryd.prog (texts.map fun x => (x.1, Laid.datum x.2)) W := hF.filter (fun x => match x.2 with | .iface _ _ => true | _ => false)
  obtain ⟨es, el, en, eh⟩ := Laid.laid_all (W := W) texts [2, 1, 15] hE (by kernel_rfl) (by intro g hg; simp only [List.mem_cons, List.not_mem_nil, or_false] at hg; rcases hg with rfl | rfl | rfl <;> kernel_rfl)
  have tab0 : Laid.Strs W 0 [[105, 100, 108, 101], [108, 105, 115, 116, 105, 110, 103], [119, 97, 116, 99, 104, 105, 110, 103], [119, 97, 105, 116, 105, 110, 103]] := Laid.laid_strs (show laidMet Tryd.prog Rows.watchDelaysRow.laid W from hL) "linkboy/watch.words" _ 0 83 9 4 (by simp [Rows.watchDelaysRow, Rows.laid_linkboy_watch_words]) (by kernel_rfl) (by kernel_rfl) Tryd.underlying83 Tryd.underlying9 (by kernel_rfl) rfl
  have hW' := hW
  obtain ⟨p, q, hA0, hV, rfl, hfz, hnd⟩ := hW
  have hA : DataW.TrodAll enc Tryd.prog W 0 (fun _ => true) true Tryd.f3.params.toList args.toList ds p := hA0
  rw [Tryd.params3] at hA hval hsz
  obtain ⟨v0, vs0, d0, ds0, p0, q0, hargs, rfl, rfl, h0, r0⟩ := trodAll_cons hA
  obtain ⟨rfl, rfl, rfl⟩ := trodAll_nil r0
  obtain rfl : args = #[v0] := by cases args; simp_all
  obtain ⟨rfl, rfl⟩ := trodVars_none hV
  obtain ⟨a0, rfl, rfl, rfl, w0⟩ := open_int Tryd.underlying3 (hval 0 3 v0 rfl rfl) h0
  clear hA0 hsz
  refine (Watch.delays_row W tab0 a0 w0).mono fun e W' ⟨he, bel⟩ => ?_
  subst he
  exact ⟨_, rfl, _, _, _, [], _, [], hW', trodAll_mk1 (shut_bool Tryd.underlying4 _), (trodAll_cons_mk (shut_int Tryd.underlying3 w0) trodAll_mk0), rfl, bel.frame _, fun h => by cases h⟩
noncomputable def low : Nat := (World.holding Tryd.prog default ⟨#[], #[], []⟩).heap.size
noncomputable def laidWorld (os : Os) : World :=
  let W0 := World.holding Tryd.prog os ⟨#[.cells #[.string { data := #[97, 32, 110, 117, 109, 98, 101, 114, 32, 105, 115, 32, 111, 117, 116, 32, 111, 102, 32, 105, 116, 115, 32, 114, 97, 110, 103, 101] }] 157, .cells #[.string { data := #[105, 116, 32, 105, 115, 32, 110, 111, 116, 32, 111, 102, 32, 105, 116, 115, 32, 102, 111, 114, 109] }] 157, .cells #[.string { data := #[105, 116, 32, 99, 97, 110, 32, 110, 111, 116, 32, 98, 101, 32, 100, 111, 110, 101, 32, 105, 110, 32, 116, 104, 105, 115, 32, 115, 116, 97, 116, 101] }] 157], #[], []⟩
  { W0 with heap := ((((W0.heap.modify 2 fun | .cells _ t frozen => .cells #[.iface 131 (.pointer (some ⟨low + 0, 0, none⟩))] t frozen | o => o).modify 1 fun | .cells _ t frozen => .cells #[.iface 131 (.pointer (some ⟨low + 1, 0, none⟩))] t frozen | o => o).modify 15 fun | .cells _ t frozen => .cells #[.iface 131 (.pointer (some ⟨low + 2, 0, none⟩))] t frozen | o => o).modify 0 fun | .cells _ t frozen => .cells #[.string { data := #[105, 100, 108, 101] }, .string { data := #[108, 105, 115, 116, 105, 110, 103] }, .string { data := #[119, 97, 116, 99, 104, 105, 110, 103] }, .string { data := #[119, 97, 105, 116, 105, 110, 103] }] t frozen | o => o) }
theorem laid_met (os : Os) : laidMet Tryd.prog Rows.watchDelaysRow.laid ((laidWorld os).forCall (fun _ _ => 0) ⟨#[], #[.int .i64 0], []⟩).memory :=
  laidMet_of_run' 8 (by kernel_rfl) (by kernel_rfl)
theorem lifted (os : Os) (started : os.Started) (H : Type) (enc : TypeId × Value → H) (F : Stop.Interp) :
    ReturnsInHanded {} Tryd.checked os 3 .any ((OpenSpec.ofChange Rows.watchDelaysSpec).preRow enc Tryd.prog Tryd.f3 Rows.watchDelaysRow.domain false Rows.watchDelaysRow.laid) (((OpenSpec.ofChange Rows.watchDelaysSpec).at F).post enc Tryd.prog Tryd.f3 false true false false) := by
  refine returnsInHanded_of_row (C := Tryd.checked) (s := OpenSpec.ofChange Rows.watchDelaysSpec) own started (by kernel_rfl) Tryd.func3
    (witness_row_atRef (enc := enc) (C := Tryd.checked) false (laidWorld os) #[.int .i64 0] rfl (by kernel_rfl) (by kernel_rfl) (by kernel_rfl)
      (OpenSpec.preRow_of_B rfl 8 (by kernel_rfl) (by kernel_rfl) (laid_met os))) ?_
  intro W base args ds gs before hval hW _ _ hsz hL _ _
  exact contract H enc W base args ds gs before hval hW hsz hL
theorem said : Rows.WatchDelaysSaid :=
  OpenClaim.holds_of_cond 3 Tryd.f3 rfl rfl rfl rfl rfl rfl rfl ⟨rfl, rfl, rfl, rfl, rfl⟩ rfl rfl rfl rfl rfl (by kernel_rfl) Tryd.func3 (by kernel_rfl)
    (of_decide_eq_true (by kernel_rfl)) (by unfold Func.isWrapper; first | (rw [if_pos (by decide +kernel)]; kernel_rfl) | (rw [if_neg (by decide +kernel)]; exact ⟨rfl, rfl⟩))
    (fun os started H enc _ F => by rw [OpenClaim.pre_eq_preRow]; exact lifted os started H enc F)
theorem plain (f : FuncId) (fn : Func) (hf : Tryd.pinned.checked.prog.funcNamed "linkboy/linkboylaw42.WatchDelays" = some f) (hfn : Tryd.pinned.checked.prog.funcs[f]? = some fn) :
    true = Tryd.pinned.checked.prog.looks [] ∧ ∀ (j : Nat) t, fn.params[j]? = some t → Tryd.pinned.checked.prog.wantsStandIn t = false := by
  obtain rfl : f = 3 := Option.some.inj ((show Tryd.prog.funcNamed "linkboy/linkboylaw42.WatchDelays" = some 3 by kernel_rfl).symm.trans hf) |>.symm
  obtain rfl : fn = Tryd.f3 := (Option.some.inj (Tryd.func3.symm.trans hfn)).symm
  refine ⟨by kernel_rfl, fun j t ht => ?_⟩
  rw [Tryd.params3] at ht
  have hm := Array.mem_of_getElem? ht
  simp only [List.mem_toArray, List.mem_cons, List.not_mem_nil, or_false] at hm
  rcases hm with rfl <;> first | exact (show Tryd.prog.wantsStandIn 3 = false by kernel_rfl)
theorem card : Rows.WatchDelaysCardSaid :=
  Claim7.holds_tied_plain_at .later [] _ _ _ _ said (fun _ h => by cases h) (by kernel_rfl) (fun _ h => by cases h) watchDelays_row_tie rfl ⟨rfl, rfl⟩ (by kernel_rfl) rfl plain (by kernel_rfl)
#print axioms card
end Go.Proofs.YtmpdcdfnbkfabaaDoor.watchDelays
namespace Go.Proofs.YtmpdcdfnbkfabaaDoor
/-- The card, under a short name, for the claim. -/
theorem watchDelays_card_holds : Rows.WatchDelaysCardSaid := watchDelays.card
end Go.Proofs.YtmpdcdfnbkfabaaDoor
