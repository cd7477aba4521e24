/- What an argument of type Addr is; the row contract of AddrOrders. -/
import Derived.Test.YtmcgkknpkocgoaaGreatDoorAdO
import Derived.Test.YtmcgkknpkocgoaaGreatDoorEndsO
namespace Go.Proofs.YtmcgkknpkocgoaaGreatDoor.Ad
open Go.RowKit Go.WideShapes Go.Proofs.YtmcgkknpkocgoaaGreatDoor.Mem Go.Proofs.YtmcgkknpkocgoaaGreatDoor.Num Go.Proofs.YtmcgkknpkocgoaaGreatDoor.Err Go.Proofs.YtmcgkknpkocgoaaGreatDoor.Open Go.Proofs.YtmcgkknpkocgoaaGreatDoor.Addr
set_option linter.unusedVariables false
set_option maxRecDepth 100000
/-- v is an address. -/
def IsAddr (v : Value) : Prop := ∃ (six : Bool) (b : List UInt8), b.length = 16 ∧ v = adV six b
theorem isAddr {H : Type} {enc : TypeId × Value → H} {W : World} {base : Nat} {sp : Nat → Bool} {held : Bool} {v : Value} {d : DataW H} {ps : List MemPlace} (hv : Value.okWide Tryz.prog W .any base 24 v) (h : DataW.Trod enc Tryz.prog W 0 sp held 24 v d ps) : IsAddr v := by
  obtain ⟨⟨cs⟩, rfl, _⟩ := okWide_struct Tryz.underlying24 hv
  obtain ⟨six, b, hb, he⟩ := open_addr _ (Rd.of h)
  exact ⟨six, b, hb, by rw [show cs = adCells six b from he]; rfl⟩
theorem orders_row (W : World) (es : List Addr) (el : es.length = 3) (en : es.Nodup) (eh : ∀ (k g : Nat) (a : Addr), [3, 20, 19][k]? = some g → es[k]? = some a → Holds W g a)
    (ea : Addr) (hE : Env ea W) (v1 : Value) (h1 : IsAddr v1) (v2 : Value) (h2 : IsAddr v2) (v3 : Value) (h3 : IsAddr v3) :
    Calls Tryz.prog 4 #[v1, v2, v3] W fun e W' => e = .returned (.bool true) ∧ Below W.heap.size W W' := by
  obtain ⟨s1, b1, q1, rfl⟩ := h1
  obtain ⟨s2, b2, q2, rfl⟩ := h2
  obtain ⟨s3, b3, q3, rfl⟩ := h3
  exact orders_calls ea s1 b1 q1 s2 b2 q2 s3 b3 q3 W hE
end Go.Proofs.YtmcgkknpkocgoaaGreatDoor.Ad
