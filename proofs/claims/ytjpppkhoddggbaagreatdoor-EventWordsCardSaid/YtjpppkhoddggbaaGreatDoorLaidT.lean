/- What a row's list of variables gives: one variable's cells; a table of texts. -/
import Derived.Test.YtjpppkhoddggbaaGreatDoorLaid
import Derived.Test.YtjpppkhoddggbaaGreatDoorMem
import Derived.LaidSub
import Derived.OpenShut
import Derived.ChangeArms
namespace Go.Proofs.YtjpppkhoddggbaaGreatDoor.Laid
open Go.RowKit Go.Proofs.YtjpppkhoddggbaaGreatDoor.Err Go.Proofs.YtjpppkhoddggbaaGreatDoor.Mem
theorem laid_one {W : World} {n : String} {d : DataW Unit} {l : List (String × DataW Unit)} {ps : List MemPlace} (h : DataW.LaidVars Tryz.prog W l ps) (hm : (n, d) ∈ l) :
    ∃ g t cs fuel p, Tryz.prog.globalNamed n = some g ∧ (Tryz.prog.globals[g]?).map (·.type) = some t ∧ W.var? Tryz.prog n = some cs ∧ DataW.trod (fun _ => ()) Tryz.prog W 0 (fun _ => true) false fuel t cs.toList = some (d, p) := by
  induction l generalizing ps with
  | nil => cases hm
  | cons x l ih =>
    obtain ⟨n0, d0⟩ := x
    obtain ⟨g, t, cs, fuel, p, q, e1, e2, e3, e4, hr, rfl⟩ := h
    rcases List.mem_cons.1 hm with h0 | h0
    · cases h0; exact ⟨g, t, cs, fuel, p, e1, e2, e3, e4⟩
    · exact ih hr h0
/-- A variable is a table of texts. -/
def Strs (W : World) (g : Nat) (ts : List (List UInt8)) : Prop := ∀ (i : Nat) (s : List UInt8), ts[i]? = some s → W.cell? ⟨g, i, none⟩ = some (.string (str s))
theorem Strs.below {W W1 : World} {g : Nat} {ts : List (List UInt8)} (h : Strs W g ts) (hb : Below W.heap.size W W1) : Strs W1 g ts := fun i s hs => cell_below hb (h i s hs)
theorem Strs.alloc {W : World} {g : Nat} {ts : List (List UInt8)} (h : Strs W g ts) (o : Obj) : Strs (W.alloc o) g ts := h.below ((Below.refl _ _).alloc (Nat.le_refl _) o)
theorem laid_strs {W : World} {l : List (String × DataW Unit)} (h : laidMet Tryz.prog l W) (n : String) (ts : List (List UInt8)) (g : Nat) (t e : TypeId) (k : Nat)
    (hm : (n, .agg (ts.map fun x => .lit (.string x))) ∈ l) (hg : Tryz.prog.globalNamed n = some g) (ht : (Tryz.prog.globals[g]?).map (·.type) = some t)
    (hu : Tryz.prog.underlying t = some (.array k e)) (he : Tryz.prog.underlying e = some .string) (hce : Tryz.prog.cellsOf e = 1) (hk : k = ts.length) : Strs W g ts := by
  obtain ⟨ps, hv, _, _⟩ := h
  obtain ⟨g0, t0, cs, fuel, p, e1, e2, e3, e4⟩ := laid_one hv hm
  obtain rfl := Option.some.inj (hg.symm.trans e1)
  obtain rfl := Option.some.inj (ht.symm.trans e2)
  obtain ⟨xs, m, _, hx, hl, hlx, hall⟩ := DataW.trod_array hu e4
  intro i s hs
  have hi : i < ts.length := (List.getElem?_eq_some_iff.1 hs).1
  have h1 := hall i (by omega)
  rw [hce, Nat.mul_one] at h1
  have hix : i < xs.length := by omega
  rw [List.getElem?_eq_getElem hix] at h1
  obtain ⟨b, hb, hy, _⟩ := DataW.trod_string he h1
  simp only [Prod.mk.injEq, DataW.agg.injEq] at hx
  have h2 : (ts.map fun x => (DataW.lit (.string x) : DataW Unit))[i]? = (xs.map (·.1))[i]? := by rw [hx.1]
  rw [List.getElem?_map, hs, List.getElem?_map, List.getElem?_eq_getElem hix, hy] at h2
  simp at h2
  have h3 : cs.toList[i]? = some (.string b) := by
    have : ((cs.toList.drop i).take 1)[0]? = some (.string b) := by rw [hb]; rfl
    rw [List.getElem?_take, if_pos (by omega), List.getElem?_drop] at this
    simpa using this
  rw [World.var?_cell hg e3 i]
  rw [Array.getElem?_toList] at h3
  rw [h3, h2]
end Go.Proofs.YtjpppkhoddggbaaGreatDoor.Laid
