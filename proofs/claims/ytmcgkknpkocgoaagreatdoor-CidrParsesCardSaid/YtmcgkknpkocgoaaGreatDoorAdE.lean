/- What the library's variables hold; the library's contracts in this text's words. -/
import Derived.Test.YtmcgkknpkocgoaaGreatDoorShelf
import Derived.Test.YtmcgkknpkocgoaaGreatDoorAdP2
import Derived.Test.YtmcgkknpkocgoaaGreatDoorNum
import Derived.Test.YtmcgkknpkocgoaaGreatDoorErr
import Derived.Test.YtmcgkknpkocgoaaGreatDoorBox
namespace Go.Proofs.YtmcgkknpkocgoaaGreatDoor.Ad
open Go.RowKit Go.Proofs.YtmcgkknpkocgoaaGreatDoor.Mem Go.Proofs.YtmcgkknpkocgoaaGreatDoor.Num Go.Proofs.YtmcgkknpkocgoaaGreatDoor.Err Go.Proofs.YtmcgkknpkocgoaaGreatDoor.AdP
set_option linter.unusedVariables false
set_option linter.unusedSimpArgs false
set_option maxRecDepth 100000
/-- What the library's variables hold, and the error of texts that aren't of their form. -/
structure Env (ea : Addr) (w : World) : Prop where
  form : Holds w 3 ea
  mx : ∃ m : Int, w.cell? ⟨18, 0, none⟩ = some (.int .i64 m)
  eS : ∃ te pe, w.cell? ⟨19, 0, none⟩ = some (.iface te pe)
  eR : ∃ te pe, w.cell? ⟨20, 0, none⟩ = some (.iface te pe)
  pow : ∀ w', Below w.heap.size w w' → Lib.TabIs Tryz.prog w' "internal/strconv.uint64pow10" .u64 Lib.pow10Tab
  cs : Lib.CaseVar 26 Lib.caseA w
  u8 : Lib.Utf8Tabs 22 23 w
  db : w.cell? ⟨25, 15, none⟩ = some (.int .u8 4)
theorem Env.below {ea : Addr} {w w1 : World} (h : Env ea w) (hb : Below w.heap.size w w1) : Env ea w1 where
  form := h.form.below hb
  mx := by obtain ⟨m, hm⟩ := h.mx; exact ⟨m, cell_below hb hm⟩
  eS := by obtain ⟨a, b, hm⟩ := h.eS; exact ⟨a, b, cell_below hb hm⟩
  eR := by obtain ⟨a, b, hm⟩ := h.eR; exact ⟨a, b, cell_below hb hm⟩
  pow := fun w' hw => h.pow w' (hb.trans (hw.mono hb.size))
  cs := by
    obtain ⟨R, oR, cap, h1, h2⟩ := h.cs
    refine ⟨R, oR, cap, cell_below hb h1, fun i hi => ?_⟩
    obtain ⟨c0, c1, c2, c3, c4⟩ := h2 i hi
    exact ⟨cell_below hb c0, cell_below hb c1, cell_below hb c2, cell_below hb c3, cell_below hb c4⟩
  u8 := ⟨fun c hc => cell_below hb (h.u8.1 c hc), fun i hi => ⟨cell_below hb (h.u8.2 i hi).1, cell_below hb (h.u8.2 i hi).2⟩⟩
  db := cell_below hb h.db
theorem Env.alloc {ea : Addr} {w : World} (h : Env ea w) (o : Obj) : Env ea (w.alloc o) := h.below ((Below.refl _ _).alloc (Nat.le_refl _) o)
theorem Env.drewN {ea : Addr} {w : World} (h : Env ea w) (n : Nat) : Env ea (w.drewN n) := h.below (below_drewN (Below.refl _ _) n)
end Go.Proofs.YtmcgkknpkocgoaaGreatDoor.Ad
