/- What a row's list of variables gives of the library's tables. -/
import Derived.Test.YtmcgkknpkocgoaaGreatDoorAdE
import Derived.Test.YtmcgkknpkocgoaaGreatDoorShelf2
import Derived.PinnedBridge
import Derived.Lib.TrailingZeros
import Derived.Lib.LaidU8T
import Derived.LaidSub
import Derived.Test.YtmcgkknpkocgoaaGreatDoorErrNum
namespace Go.Proofs.YtmcgkknpkocgoaaGreatDoor.Ad
open Go.RowKit Go.Proofs.YtmcgkknpkocgoaaGreatDoor.Mem Go.Proofs.YtmcgkknpkocgoaaGreatDoor.Num Go.Proofs.YtmcgkknpkocgoaaGreatDoor.Err Go.Proofs.YtmcgkknpkocgoaaGreatDoor.AdP Go.Lib
set_option linter.unusedVariables false
set_option linter.unusedSimpArgs false
set_option maxRecDepth 100000
def dbTab : List Int := deBruijn64tab.map Int.ofNat
theorem u8x : Go.Proofs.U8Extra Tryz.prog Tryz.lays260_ren := { n3 := by kernel_rfl, n4 := by kernel_rfl, y3 := by kernel_rfl, y4 := by kernel_rfl, c5 := by kernel_rfl, c119 := by kernel_rfl, c138 := by kernel_rfl }
def ren274 : Go.Shelf.Ren := ⟨Tryz.lays274_ren.f, Tryz.lays274_ren.t, fun | 13 => 26 | n => n⟩
theorem lays274' : Go.Proofs.Lays.n274 Tryz.prog ren274 := { Tryz.lays274 with }
theorem casex : Go.Proofs.CaseExtra Tryz.prog ren274 := { n13 := by kernel_rfl, y13 := by kernel_rfl, c21 := by kernel_rfl, c51 := by kernel_rfl, c206 := by kernel_rfl, c208 := by kernel_rfl }
theorem tabIs_reads {W : World} {name : String} {k : IntKind} {zs : List Int} {g : Nat} {t e : TypeId} {n : Nat}
    (hg : Tryz.prog.globalNamed name = some g) (hty : (Tryz.prog.globals[g]?).map (·.type) = some t) (ht : Tryz.prog.underlying t = some (.array n e)) (he : Tryz.prog.underlying e = some (.int k)) (hce : Tryz.prog.cellsOf e = 1) (hct : Tryz.prog.cellsOf t = n)
    (h : VarReads Tryz.prog W name (tabData k zs)) : TabIs Tryz.prog W name k zs := by
  obtain ⟨g', t', cs, fuel, p, hg', ht', hvar, hd⟩ := h
  obtain rfl := Option.some.inj (hg.symm.trans hg')
  obtain rfl := Option.some.inj (hty.symm.trans ht')
  unfold TabIs
  rw [hvar, ← cells_of_tab ht he hce hct hd]
theorem tabIs_below {W W1 : World} {name : String} {k : IntKind} {zs : List Int} (h : TabIs Tryz.prog W name k zs) (hb : Below W.heap.size W W1) : TabIs Tryz.prog W1 name k zs := by
  unfold TabIs World.var? at *
  cases hg : Tryz.prog.globalNamed name with
  | none => simp [hg] at h
  | some g =>
    simp only [hg, Option.bind_some] at h ⊢
    have hlt : g < W.heap.size := by
      rcases Nat.lt_or_ge g W.heap.size with h' | h'
      · exact h'
      · simp [Array.getElem?_eq_none h'] at h
    rw [hb.block g hlt]
    exact h
/-- All of it, out of what the row lists. -/
theorem env_of {W : World} {ea eR eS : Addr} (hF : Holds W 3 ea) (hR : Holds W 20 eR) (hS : Holds W 19 eS) (hsh : W.ShapedOpen Tryz.prog)
    (r1 : VarReads Tryz.prog W "internal/strconv.uint64pow10" (tabData .u64 pow10Tab)) (r2 : VarReads Tryz.prog W "unicode/utf8.first" firstData) (r3 : VarReads Tryz.prog W "unicode/utf8.acceptRanges" acceptData)
    (r4 : VarReads Tryz.prog W "unicode.CaseRanges" caseData) (r5 : VarReads Tryz.prog W "math/bits.deBruijn64tab" (tabData .u8 dbTab)) : Env ea W where
  form := hF
  mx := Tryz.laysM144.s1_3 W hsh
  eS := ⟨_, _, hS.1⟩
  eR := ⟨_, _, hR.1⟩
  pow := fun w' hb => tabIs_below (tabIs_reads (g := 21) (t := 215) (e := 151) (n := 20) (by kernel_rfl) (by kernel_rfl) Tryz.underlying215 Tryz.underlying151 (by kernel_rfl) (by kernel_rfl) r1) hb
  cs := Go.Proofs.caseVar_of_reads lays274' (by kernel_rfl) casex r4
  u8 := Go.Proofs.utf8Tabs_of_reads Tryz.lays260 u8x r2 r3
  db := by
    have h := (tabIs_reads (g := 25) (t := 235) (e := 5) (n := 64) (by kernel_rfl) (by kernel_rfl) Tryz.underlying235 Tryz.underlying5 (by kernel_rfl) (by kernel_rfl) r5).cell (g := 25) (by kernel_rfl) 15 (by decide)
    exact h
end Go.Proofs.YtmcgkknpkocgoaaGreatDoor.Ad
