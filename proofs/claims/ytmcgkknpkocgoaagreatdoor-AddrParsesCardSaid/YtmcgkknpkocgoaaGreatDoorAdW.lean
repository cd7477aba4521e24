/- What the rows of round r5 give: the errors; the row contract of PortsWords. -/
import Derived.Test.YtmcgkknpkocgoaaGreatDoorAdI
import Derived.Test.YtmcgkknpkocgoaaGreatDoorAdZ
namespace Go.Proofs.YtmcgkknpkocgoaaGreatDoor.Ad
open Go.RowKit Go.Proofs.YtmcgkknpkocgoaaGreatDoor.Mem Go.Proofs.YtmcgkknpkocgoaaGreatDoor.Num Go.Proofs.YtmcgkknpkocgoaaGreatDoor.Err Go.Proofs.YtmcgkknpkocgoaaGreatDoor.AdP
set_option linter.unusedVariables false
theorem errs20 (W : World) (es : List Addr) (el : es.length = 20) (en : es.Nodup) (eh : ∀ (k g : Nat) (a : Addr), (gl ++ [20, 19])[k]? = some g → es[k]? = some a → Holds W g a) : Errs W (es.take 18) := by
  refine errs_of W (es.take 18) (by rw [List.length_take, el]; rfl) (List.Nodup.sublist (List.take_sublist _ _) en) (fun k g a hg ha => ?_)
  have hk : k < 18 := (List.getElem?_eq_some_iff.1 hg).1
  refine eh k g a ?_ ?_
  · rw [List.getElem?_append_left hk]; exact hg
  · rw [List.getElem?_take, if_pos hk] at ha; exact ha
theorem ports_words_row (W : World) (es : List Addr) (el : es.length = 20) (en : es.Nodup) (eh : ∀ (k g : Nat) (a : Addr), (gl ++ [20, 19])[k]? = some g → es[k]? = some a → Holds W g a)
    (ea : Addr) (hE : Env ea W) (n : Int) (hn : (Lit.int .i64 n).wf = true) (s : ByteArray) (hs : s.size ≤ 140737488351232) :
    Calls Tryz.prog 7 #[.int .i64 n, .string s] W fun e W' => e = .returned (.bool true) ∧ Below W.heap.size W W' := by
  simp [Lit.wf, IntKind.min, IntKind.max, IntKind.signed, IntKind.bits] at hn
  exact ports_words ea _ n s W hE (errs20 W es el en eh) (by omega) (by omega) (by omega)
end Go.Proofs.YtmcgkknpkocgoaaGreatDoor.Ad
