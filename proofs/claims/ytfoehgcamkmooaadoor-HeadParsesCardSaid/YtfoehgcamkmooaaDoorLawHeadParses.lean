/- The row of HeadParses, and its card: for every input it returns true, and its arguments read as they read. -/
import Derived.Test.YtfoehgcamkmooaaDoorCards
import Derived.Test.YtfoehgcamkmooaaDoorTie
import Derived.Test.YtfoehgcamkmooaaDoorLaid
import Derived.Test.YtfoehgcamkmooaaDoorHeadT
import Derived.WalkKit
import Derived.ProofKit
import Derived.OpenShut
import Derived.ShutString
import Derived.ChangeOld
import Derived.Below
import Derived.SizedLaws
import Derived.Deep.DeepHandedRow
import Derived.Deep.DeepWitnessRowRef
import Derived.LaidLaws
import Derived.Stop.Joined
import Derived.LaidSub
namespace Go.Proofs.YtfoehgcamkmooaaDoor.headParses
open Go.ChangeShapes Go.WideShapes Go.ChangeAt Go.RowKit Go.Proofs.YtfoehgcamkmooaaDoor.Mem
open Go.ChangeMaps (open_string shut_string)
set_option linter.unusedVariables false
set_option maxRecDepth 100000
theorem own : ownKnob Tryd.prog.godebug = none := by kernel_rfl
theorem laidOut : laidOutB Tryd.prog = true := by kernel_rfl
def texts : List (String × List UInt8) := [("linkboy/api.ErrRange", [97, 32, 110, 117, 109, 98, 101, 114, 32, 105, 115, 32, 111, 117, 116, 32, 111, 102, 32, 105, 116, 115, 32, 114, 97, 110, 103, 101]), ("linkboy/api.ErrShort", [115, 111, 109, 101, 116, 104, 105, 110, 103, 32, 105, 115, 32, 109, 105, 115, 115, 105, 110, 103, 32, 97, 116, 32, 116, 104, 101, 32, 101, 110, 100]), ("linkboy/api.ErrLong", [116, 104, 101, 114, 101, 32, 105, 115, 32, 109, 111, 114, 101, 32, 116, 104, 97, 110, 32, 109, 97, 121, 32, 98, 101]), ("linkboy/api.ErrForm", [105, 116, 32, 105, 115, 32, 110, 111, 116, 32, 111, 102, 32, 105, 116, 115, 32, 102, 111, 114, 109]), ("linkboy/api.ErrSum", [116, 104, 101, 32, 99, 104, 101, 99, 107, 115, 117, 109, 32, 105, 115, 32, 110, 111, 116, 32, 114, 105, 103, 104, 116]), ("linkboy/api.ErrName", [105, 116, 32, 105, 115, 32, 110, 111, 32, 114, 105, 103, 104, 116, 32, 110, 97, 109, 101]), ("linkboy/api.ErrKind", [105, 116, 32, 105, 115, 32, 111, 102, 32, 97, 110, 111, 116, 104, 101, 114, 32, 107, 105, 110, 100]), ("linkboy/api.ErrAddress", [105, 116, 32, 105, 115, 32, 110, 111, 32, 114, 105, 103, 104, 116, 32, 97, 100, 100, 114, 101, 115, 115]), ("linkboy/api.ErrVersion", [116, 104, 101, 32, 118, 101, 114, 115, 105, 111, 110, 32, 105, 115, 32, 110, 111, 116, 32, 111, 110, 101]), ("linkboy/api.ErrStale", [105, 116, 32, 105, 115, 32, 111, 108, 100, 101, 114, 32, 116, 104, 97, 110, 32, 119, 104, 97, 116, 32, 105, 115, 32, 107, 110, 111, 119, 110]), ("linkboy/api.ErrNone", [116, 104, 101, 114, 101, 32, 105, 115, 32, 110, 111, 110, 101]), ("linkboy/api.ErrDup", [105, 116, 32, 105, 115, 32, 116, 104, 101, 114, 101, 32, 97, 108, 114, 101, 97, 100, 121]), ("linkboy/api.ErrFull", [116, 104, 101, 114, 101, 32, 97, 114, 101, 32, 97, 115, 32, 109, 97, 110, 121, 32, 97, 115, 32, 109, 97, 121, 32, 98, 101]), ("linkboy/api.ErrFail", [105, 116, 32, 102, 97, 105, 108, 101, 100, 32, 111, 110, 32, 116, 104, 101, 32, 119, 97, 121]), ("linkboy/api.ErrState", [105, 116, 32, 99, 97, 110, 32, 110, 111, 116, 32, 98, 101, 32, 100, 111, 110, 101, 32, 105, 110, 32, 116, 104, 105, 115, 32, 115, 116, 97, 116, 101]), ("linkboy/api.ErrDown", [105, 116, 32, 105, 115, 32, 100, 111, 119, 110]), ("linkboy/api.ErrProto", [105, 116, 32, 105, 115, 32, 111, 102, 32, 97, 110, 111, 116, 104, 101, 114, 32, 112, 114, 111, 116, 111, 99, 111, 108]), ("linkboy/api.ErrIndex", [97, 32, 112, 108, 97, 99, 101, 32, 105, 115, 32, 110, 111, 116, 32, 105, 110, 32, 116, 104, 101, 32, 108, 105, 115, 116])]
theorem contract (H : Type) (enc : TypeId × Value → H) (W : World) (base : Nat) (args : Array Value) (ds gs : List (DataW H)) (before : List MemPlace)
    (hval : ∀ (j : Nat) t v, Tryd.f3.params[j]? = some t → args[j]? = some v → Value.okWide Tryd.prog W .any base t v)
    (hW : DataW.Whole enc Tryd.prog Tryd.f3.params.toList Rows.headParsesSpec.vars false W args.toList ds gs before)
    (hsz : (DataW.weightsEach Tryd.prog (Tryd.f3.params.toList ++ Rows.headParsesSpec.plain.varTypes Tryd.prog) (ds ++ gs)).all (· ≤ reachBytes) = true)
    (hL : laidMetH Tryd.prog Rows.headParsesRow.laid W) :
    Calls Tryd.prog 3 args W fun e W' => ∃ v, e = .returned v ∧ Rows.headParsesSpec.post enc Tryd.prog Tryd.f3 false true false false W args v W' := by
  have hF : laidMet Tryd.prog Rows.headParsesRow.laid W := hL
  have hE : laidMet Tryd.prog (texts.map fun x => (x.1, Laid.datum x.2)) W := hF
  obtain ⟨es, el, en, eh⟩ := Laid.laid_all (W := W) texts [5, 0, 2, 1, 4, 6, 7, 8, 9, 10, 11, 12, 13, 14, 15, 16, 3, 17] hE (by kernel_rfl) (by intro g hg; simp only [List.mem_cons, List.not_mem_nil, or_false] at hg; rcases hg with rfl | rfl | rfl | rfl | rfl | rfl | rfl | rfl | rfl | rfl | rfl | rfl | rfl | rfl | rfl | rfl | rfl | rfl <;> kernel_rfl)
  have hW' := hW
  obtain ⟨p, q, hA0, hV, rfl, hfz, hnd⟩ := hW
  have hA : DataW.TrodAll enc Tryd.prog W 0 (fun _ => true) true Tryd.f3.params.toList args.toList ds p := hA0
  rw [Tryd.params3] at hA hval hsz
  obtain ⟨v0, vs0, d0, ds0, p0, q0, hargs, rfl, rfl, h0, r0⟩ := trodAll_cons hA
  obtain ⟨rfl, rfl, rfl⟩ := trodAll_nil r0
  obtain rfl : args = #[v0] := by cases args; simp_all
  obtain ⟨rfl, rfl⟩ := trodVars_none hV
  obtain ⟨a0, len0, cap0, rfl⟩ := okWide_slice Tryd.underlying22 (hval 0 22 v0 rfl rfl)
  have k0 := h0
  have lt0 : ∀ x ∈ p0, x.block < W.heap.size := by obtain ⟨m, hm⟩ := k0; exact DataW.trod_lt m _ _ _ hm
  obtain ⟨z0, w0⟩ : ∃ zs, IsRow .u8 W a0 len0 cap0 zs := by
    obtain ⟨fuel, hf⟩ := h0
    rcases open_ints Tryd.underlying22 Tryd.underlying5 (by kernel_rfl) hf with ⟨hcs, _⟩ | ⟨x, l, c, zs, hcs, _, hl, hm, hz, _, hcell, hwz⟩
    · simp [Value.cells] at hcs
      obtain ⟨rfl, rfl, rfl⟩ := hcs
      exact ⟨[], .inl ⟨rfl, rfl, rfl, rfl⟩⟩
    · simp [Value.cells] at hcs
      obtain ⟨rfl, rfl, rfl⟩ := hcs
      exact ⟨zs, .inr ⟨_, rfl, hl, hm, by simpa using hz, hcell, hwz⟩⟩
  obtain ⟨l0, m0⟩ := w0.u8
  clear hA0 hsz
  refine (Head.parses_row W es el en eh _ l0 m0).mono fun e W' ⟨he, bel⟩ => ?_
  subst he
  exact ⟨_, rfl, _, _, _, [], _, [], hW', trodAll_mk1 (shut_bool Tryd.underlying4 _), (trodAll_cons_mk (Below.trod laidOut (by kernel_rfl) (of_decide_eq_true (by kernel_rfl)) k0 bel lt0) trodAll_mk0), rfl, bel.frame _, fun h => by cases h⟩
noncomputable def low : Nat := (World.holding Tryd.prog default ⟨#[], #[], []⟩).heap.size
noncomputable def laidWorld (os : Os) : World :=
  let W0 := World.holding Tryd.prog os ⟨#[.cells #[.string { data := #[97, 32, 110, 117, 109, 98, 101, 114, 32, 105, 115, 32, 111, 117, 116, 32, 111, 102, 32, 105, 116, 115, 32, 114, 97, 110, 103, 101] }] 158, .cells #[.string { data := #[115, 111, 109, 101, 116, 104, 105, 110, 103, 32, 105, 115, 32, 109, 105, 115, 115, 105, 110, 103, 32, 97, 116, 32, 116, 104, 101, 32, 101, 110, 100] }] 158, .cells #[.string { data := #[116, 104, 101, 114, 101, 32, 105, 115, 32, 109, 111, 114, 101, 32, 116, 104, 97, 110, 32, 109, 97, 121, 32, 98, 101] }] 158, .cells #[.string { data := #[105, 116, 32, 105, 115, 32, 110, 111, 116, 32, 111, 102, 32, 105, 116, 115, 32, 102, 111, 114, 109] }] 158, .cells #[.string { data := #[116, 104, 101, 32, 99, 104, 101, 99, 107, 115, 117, 109, 32, 105, 115, 32, 110, 111, 116, 32, 114, 105, 103, 104, 116] }] 158, .cells #[.string { data := #[105, 116, 32, 105, 115, 32, 110, 111, 32, 114, 105, 103, 104, 116, 32, 110, 97, 109, 101] }] 158, .cells #[.string { data := #[105, 116, 32, 105, 115, 32, 111, 102, 32, 97, 110, 111, 116, 104, 101, 114, 32, 107, 105, 110, 100] }] 158, .cells #[.string { data := #[105, 116, 32, 105, 115, 32, 110, 111, 32, 114, 105, 103, 104, 116, 32, 97, 100, 100, 114, 101, 115, 115] }] 158, .cells #[.string { data := #[116, 104, 101, 32, 118, 101, 114, 115, 105, 111, 110, 32, 105, 115, 32, 110, 111, 116, 32, 111, 110, 101] }] 158, .cells #[.string { data := #[105, 116, 32, 105, 115, 32, 111, 108, 100, 101, 114, 32, 116, 104, 97, 110, 32, 119, 104, 97, 116, 32, 105, 115, 32, 107, 110, 111, 119, 110] }] 158, .cells #[.string { data := #[116, 104, 101, 114, 101, 32, 105, 115, 32, 110, 111, 110, 101] }] 158, .cells #[.string { data := #[105, 116, 32, 105, 115, 32, 116, 104, 101, 114, 101, 32, 97, 108, 114, 101, 97, 100, 121] }] 158, .cells #[.string { data := #[116, 104, 101, 114, 101, 32, 97, 114, 101, 32, 97, 115, 32, 109, 97, 110, 121, 32, 97, 115, 32, 109, 97, 121, 32, 98, 101] }] 158, .cells #[.string { data := #[105, 116, 32, 102, 97, 105, 108, 101, 100, 32, 111, 110, 32, 116, 104, 101, 32, 119, 97, 121] }] 158, .cells #[.string { data := #[105, 116, 32, 99, 97, 110, 32, 110, 111, 116, 32, 98, 101, 32, 100, 111, 110, 101, 32, 105, 110, 32, 116, 104, 105, 115, 32, 115, 116, 97, 116, 101] }] 158, .cells #[.string { data := #[105, 116, 32, 105, 115, 32, 100, 111, 119, 110] }] 158, .cells #[.string { data := #[105, 116, 32, 105, 115, 32, 111, 102, 32, 97, 110, 111, 116, 104, 101, 114, 32, 112, 114, 111, 116, 111, 99, 111, 108] }] 158, .cells #[.string { data := #[97, 32, 112, 108, 97, 99, 101, 32, 105, 115, 32, 110, 111, 116, 32, 105, 110, 32, 116, 104, 101, 32, 108, 105, 115, 116] }] 158], #[], []⟩
  { W0 with heap := ((((((((((((((((((W0.heap.modify 5 fun | .cells _ t frozen => .cells #[.iface 133 (.pointer (some ⟨low + 0, 0, none⟩))] t frozen | o => o).modify 0 fun | .cells _ t frozen => .cells #[.iface 133 (.pointer (some ⟨low + 1, 0, none⟩))] t frozen | o => o).modify 2 fun | .cells _ t frozen => .cells #[.iface 133 (.pointer (some ⟨low + 2, 0, none⟩))] t frozen | o => o).modify 1 fun | .cells _ t frozen => .cells #[.iface 133 (.pointer (some ⟨low + 3, 0, none⟩))] t frozen | o => o).modify 4 fun | .cells _ t frozen => .cells #[.iface 133 (.pointer (some ⟨low + 4, 0, none⟩))] t frozen | o => o).modify 6 fun | .cells _ t frozen => .cells #[.iface 133 (.pointer (some ⟨low + 5, 0, none⟩))] t frozen | o => o).modify 7 fun | .cells _ t frozen => .cells #[.iface 133 (.pointer (some ⟨low + 6, 0, none⟩))] t frozen | o => o).modify 8 fun | .cells _ t frozen => .cells #[.iface 133 (.pointer (some ⟨low + 7, 0, none⟩))] t frozen | o => o).modify 9 fun | .cells _ t frozen => .cells #[.iface 133 (.pointer (some ⟨low + 8, 0, none⟩))] t frozen | o => o).modify 10 fun | .cells _ t frozen => .cells #[.iface 133 (.pointer (some ⟨low + 9, 0, none⟩))] t frozen | o => o).modify 11 fun | .cells _ t frozen => .cells #[.iface 133 (.pointer (some ⟨low + 10, 0, none⟩))] t frozen | o => o).modify 12 fun | .cells _ t frozen => .cells #[.iface 133 (.pointer (some ⟨low + 11, 0, none⟩))] t frozen | o => o).modify 13 fun | .cells _ t frozen => .cells #[.iface 133 (.pointer (some ⟨low + 12, 0, none⟩))] t frozen | o => o).modify 14 fun | .cells _ t frozen => .cells #[.iface 133 (.pointer (some ⟨low + 13, 0, none⟩))] t frozen | o => o).modify 15 fun | .cells _ t frozen => .cells #[.iface 133 (.pointer (some ⟨low + 14, 0, none⟩))] t frozen | o => o).modify 16 fun | .cells _ t frozen => .cells #[.iface 133 (.pointer (some ⟨low + 15, 0, none⟩))] t frozen | o => o).modify 3 fun | .cells _ t frozen => .cells #[.iface 133 (.pointer (some ⟨low + 16, 0, none⟩))] t frozen | o => o).modify 17 fun | .cells _ t frozen => .cells #[.iface 133 (.pointer (some ⟨low + 17, 0, none⟩))] t frozen | o => o) }
theorem laid_met (os : Os) : laidMet Tryd.prog Rows.headParsesRow.laid ((laidWorld os).forCall (fun _ _ => 0) ⟨#[], #[.slice none 0 0], []⟩).memory :=
  laidMet_of_run' 8 (by kernel_rfl) (by kernel_rfl)
theorem lifted (os : Os) (started : os.Started) (H : Type) (enc : TypeId × Value → H) (F : Stop.Interp) :
    ReturnsInHanded {} Tryd.checked os 3 .any ((OpenSpec.ofChange Rows.headParsesSpec).preRow enc Tryd.prog Tryd.f3 Rows.headParsesRow.domain false Rows.headParsesRow.laid) (((OpenSpec.ofChange Rows.headParsesSpec).at F).post enc Tryd.prog Tryd.f3 false true false false) := by
  refine returnsInHanded_of_row (C := Tryd.checked) (s := OpenSpec.ofChange Rows.headParsesSpec) own started (by kernel_rfl) Tryd.func3
    (witness_row_atRef (enc := enc) (C := Tryd.checked) false (laidWorld os) #[.slice none 0 0] rfl (by kernel_rfl) (by kernel_rfl) (by kernel_rfl)
      (OpenSpec.preRow_of_B rfl 8 (by kernel_rfl) (by kernel_rfl) (laid_met os))) ?_
  intro W base args ds gs before hval hW _ _ hsz hL _ _
  exact contract H enc W base args ds gs before hval hW hsz hL
theorem said : Rows.HeadParsesSaid :=
  OpenClaim.holds_of_cond 3 Tryd.f3 rfl rfl rfl rfl rfl rfl rfl ⟨rfl, rfl, rfl, rfl, rfl⟩ rfl rfl rfl rfl rfl (by kernel_rfl) Tryd.func3 (by kernel_rfl)
    (of_decide_eq_true (by kernel_rfl)) (by unfold Func.isWrapper; first | (rw [if_pos (by decide +kernel)]; kernel_rfl) | (rw [if_neg (by decide +kernel)]; exact ⟨rfl, rfl⟩))
    (fun os started H enc _ F => by rw [OpenClaim.pre_eq_preRow]; exact lifted os started H enc F)
theorem plain (f : FuncId) (fn : Func) (hf : Tryd.pinned.checked.prog.funcNamed "linkboy/linkboylaw28.HeadParses" = some f) (hfn : Tryd.pinned.checked.prog.funcs[f]? = some fn) :
    true = Tryd.pinned.checked.prog.looks [] ∧ ∀ (j : Nat) t, fn.params[j]? = some t → Tryd.pinned.checked.prog.wantsStandIn t = false := by
  obtain rfl : f = 3 := Option.some.inj ((show Tryd.prog.funcNamed "linkboy/linkboylaw28.HeadParses" = some 3 by kernel_rfl).symm.trans hf) |>.symm
  obtain rfl : fn = Tryd.f3 := (Option.some.inj (Tryd.func3.symm.trans hfn)).symm
  refine ⟨by kernel_rfl, fun j t ht => ?_⟩
  rw [Tryd.params3] at ht
  have hm := Array.mem_of_getElem? ht
  simp only [List.mem_toArray, List.mem_cons, List.not_mem_nil, or_false] at hm
  rcases hm with rfl <;> first | exact (show Tryd.prog.wantsStandIn 22 = false by kernel_rfl)
theorem card : Rows.HeadParsesCardSaid :=
  Claim7.holds_tied_plain_at .later [] _ _ _ _ said (fun _ h => by cases h) (by kernel_rfl) (fun _ h => by cases h) headParses_row_tie rfl ⟨rfl, rfl⟩ (by kernel_rfl) rfl plain (by kernel_rfl)
#print axioms card
end Go.Proofs.YtfoehgcamkmooaaDoor.headParses
namespace Go.Proofs.YtfoehgcamkmooaaDoor
/-- The card, under a short name, for the claim. -/
theorem headParses_card_holds : Rows.HeadParsesCardSaid := headParses.card
end Go.Proofs.YtfoehgcamkmooaaDoor
