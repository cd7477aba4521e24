/- What an argument reads as: the laws of reading, turned round, for any shape. -/
import Derived.Test.YtmcgkknpkocgoaaGreatDoorMem
import Derived.OpenShut
import Derived.ChangeArms
import Derived.ChangeSlices
namespace Go.Proofs.YtmcgkknpkocgoaaGreatDoor.Open
open Go.RowKit Go.Proofs.YtmcgkknpkocgoaaGreatDoor.Mem
set_option linter.unusedVariables false
section
variable {H : Type} {enc : TypeId × Value → H} {P : Program} {w : World} {t : TypeId} {cs : List Value}
/-- These cells read as something, at this type. -/
def Rd (enc : TypeId × Value → H) (P : Program) (w : World) (t : TypeId) (cs : List Value) : Prop := ∃ sp held fuel x, DataW.trod enc P w 0 sp held fuel t cs = some x
theorem Rd.int {k : IntKind} (ht : P.underlying t = some (.int k)) (h : Rd enc P w t cs) : ∃ n, cs = [.int k n] ∧ (Lit.int k n).wf = true := by
  obtain ⟨sp, held, fuel, x, h⟩ := h
  obtain ⟨n, h1, _, h2⟩ := DataW.trod_int ht h
  exact ⟨n, h1, h2⟩
theorem Rd.u8 (ht : P.underlying t = some (.int .u8)) (h : Rd enc P w t cs) : ∃ x : UInt8, cs = [.int .u8 (x.toNat : Int)] := by
  obtain ⟨n, rfl, hw⟩ := h.int ht
  simp [Lit.wf, IntKind.min, IntKind.max, IntKind.signed, IntKind.bits] at hw
  refine ⟨UInt8.ofNat n.toNat, ?_⟩
  rw [UInt8.toNat_ofNat_of_lt' (by show n.toNat < 256; omega)]
  congr 2; omega
theorem Rd.bool (ht : P.underlying t = some .bool) (h : Rd enc P w t cs) : ∃ b, cs = [.bool b] := by
  obtain ⟨sp, held, fuel, x, h⟩ := h
  obtain ⟨n, h1, _⟩ := DataW.trod_bool ht h
  exact ⟨n, h1⟩
theorem Rd.string (ht : P.underlying t = some .string) (h : Rd enc P w t cs) : ∃ s : ByteArray, cs = [.string s] ∧ s.size ≤ maxLen := by
  obtain ⟨sp, held, fuel, x, h⟩ := h
  obtain ⟨n, h1, _, h2⟩ := DataW.trod_string ht h
  exact ⟨n, h1, h2⟩
theorem Rd.struct {fs : Array Field} (ht : P.underlying t = some (.struct fs)) (h : Rd enc P w t cs) : cs.length = P.cellsOf t ∧ ∀ (i : Nat) (f : Field), fs[i]? = some f → Rd enc P w f.type ((cs.drop f.offset).take (P.cellsOf f.type)) := by
  obtain ⟨sp, held, fuel, x, h⟩ := h
  obtain ⟨xs, n, _, _, h1, h2, h3⟩ := DataW.trod_struct ht h
  refine ⟨h1, fun i f hf => ?_⟩
  have hi : i < xs.length := by have := (Array.getElem?_eq_some_iff.1 hf).1; omega
  exact ⟨sp, held, n, xs[i], by rw [h3 i f hf, List.getElem?_eq_getElem hi]⟩
theorem Rd.array {n : Nat} {e : TypeId} (ht : P.underlying t = some (.array n e)) (h : Rd enc P w t cs) : cs.length = P.cellsOf t ∧ ∀ i, i < n → Rd enc P w e ((cs.drop (i * P.cellsOf e)).take (P.cellsOf e)) := by
  obtain ⟨sp, held, fuel, x, h⟩ := h
  obtain ⟨xs, m, _, _, h1, h2, h3⟩ := DataW.trod_array ht h
  exact ⟨h1, fun i hi => ⟨sp, held, m, xs[i]'(by omega), by rw [h3 i hi, List.getElem?_eq_getElem (by omega)]⟩⟩
theorem add_add' (ad : Addr) (i j : Nat) : (ad.add i).add j = ad.add (i + j) := add_add ad i j
theorem Rd.slice {e : TypeId} (ht : P.underlying t = some (.slice e)) (h : Rd enc P w t cs) :
    cs = [.slice none 0 0] ∨ ∃ (a : Addr) (len cap : Nat), cs = [.slice (some a) len cap] ∧ len ≤ cap ∧ cap ≤ maxLen ∧ ∀ i, i < len → ∃ ds, ds.length = P.cellsOf e ∧ (∀ j, j < P.cellsOf e → w.cell? (a.add (i * P.cellsOf e + j)) = ds[j]?) ∧ Rd enc P w e ds := by
  obtain ⟨sp, held, fuel, x, h⟩ := h
  rcases DataW.trod_slice ht h with ⟨h0, _⟩ | ⟨a, len, cap, elems, rest, n, _, h1, _, hb, hl, hm, hlen, hel, _⟩
  · exact .inl h0
  · refine .inr ⟨a, len, cap, h1, hl, hm, fun i hi => ?_⟩
    have he := hel i hi
    rw [List.getElem?_eq_getElem (by omega)] at he
    obtain ⟨ds, hds, hy⟩ := Option.bind_eq_some_iff.1 he
    have hc := World.cells?_some hds
    exact ⟨ds, hc.2.1, fun j hj => by rw [← hc.2.2 j hj, add_add], sp, held, n, _, hy⟩
/-- A slice of elements that lie as 'E' says. -/
theorem Rd.row {α : Type} {E : Enc α} {Q : α → Prop} {e : TypeId} (ht : P.underlying t = some (.slice e)) (hc : P.cellsOf e = E.sz) (hE : ∀ ds, Rd enc P w e ds → ∃ x : α, ds = E.cells x ∧ Q x) (h : Rd enc P w t cs) :
    ∃ (v : Value) (xs : List α), cs = [v] ∧ Row E w v xs ∧ ∀ (i : Nat) (hi : i < xs.length), Q xs[i] := by
  rcases h.slice ht with rfl | ⟨a, len, cap, rfl, hl, hm, hall⟩
  · exact ⟨_, [], rfl, Row.nil _ _, fun i hi => by simp at hi⟩
  · have hf : ∀ i : Fin len, ∃ x : α, (∀ j, j < E.sz → w.cell? (a.add (i.1 * E.sz + j)) = (E.cells x)[j]?) ∧ Q x := by
      intro i
      obtain ⟨ds, h1, h2, h3⟩ := hall i.1 i.2
      obtain ⟨x, rfl, hq⟩ := hE ds h3
      rw [hc] at h2
      exact ⟨x, h2, hq⟩
    obtain ⟨g, hg⟩ := Classical.axiomOfChoice hf
    have hlen : (List.ofFn g).length = len := by simp
    refine ⟨_, List.ofFn g, rfl, ⟨some a, cap, by rw [hlen], by rw [hlen]; exact hl, hm, by simp, fun ad had j u hu => ?_⟩, fun i hi => ?_⟩
    · cases had
      have hj := (List.getElem?_eq_some_iff.1 hu).1
      rw [E.all_len, hlen] at hj
      have hp := E.pos
      have hq : j / E.sz < len := Nat.div_lt_of_lt_mul (by rw [Nat.mul_comm]; exact hj)
      have hr := Nat.mod_lt j hp
      have hd : j / E.sz * E.sz + j % E.sz = j := by rw [Nat.mul_comm]; exact Nat.div_add_mod j E.sz
      have h1 := (hg ⟨j / E.sz, hq⟩).1 (j % E.sz) hr
      have h2 := E.all_get (List.ofFn g) (j / E.sz) (j % E.sz) (by rw [hlen]; exact hq) hr
      rw [hd] at h2
      simp only [hd] at h1
      rw [h2] at hu
      rw [h1, ← hu]
      simp
    · have := (hg ⟨i, by omega⟩).2
      simpa using this
theorem Rd.of {spare : Nat → Bool} {held : Bool} {v : Value} {d : DataW H} {ps : List MemPlace} (h : DataW.Trod enc P w 0 spare held t v d ps) : Rd enc P w t v.cells.toList := by
  obtain ⟨f, h⟩ := h
  exact ⟨spare, held, f, _, h⟩
/-- An argument of one cell. -/
theorem one_of {v u : Value} (h1 : v.cells.toList = [u]) (h : v.oneCell' = true) : v = u := by
  cases v <;> simp_all [Value.cells, Value.oneCell']
end
end Go.Proofs.YtmcgkknpkocgoaaGreatDoor.Open
