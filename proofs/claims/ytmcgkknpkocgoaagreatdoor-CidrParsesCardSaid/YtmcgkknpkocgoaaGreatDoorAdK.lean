/- addr.at, addr.texts, addr.noughts. -/
import Derived.Test.YtmcgkknpkocgoaaGreatDoorAdJ
import Derived.Test.YtmcgkknpkocgoaaGreatDoorAdB
import Derived.Test.YtmcgkknpkocgoaaGreatDoorHeadA
import Derived.Deep.QuietTactic
import Derived.BigQuiet
namespace Go.Proofs.YtmcgkknpkocgoaaGreatDoor.Ad
open Go.RowKit Go.Proofs.YtmcgkknpkocgoaaGreatDoor.Mem Go.Proofs.YtmcgkknpkocgoaaGreatDoor.Num Go.Proofs.YtmcgkknpkocgoaaGreatDoor.Err Go.Proofs.YtmcgkknpkocgoaaGreatDoor.AdP
open Go.Proofs.YtmcgkknpkocgoaaGreatDoor.Head (pad pad_len adCells_one adCells_len infoAd splice_ad)
open Go.Proofs.YtmcgkknpkocgoaaGreatDoor.Addr (adV adA adCells adA_size cell_box load_box)
set_option linter.unusedVariables false
set_option linter.unusedSimpArgs false
set_option maxRecDepth 100000
attribute [-go_sem] Builtin.append_ loadCells loadCellsFrom storeCells
/-- A group of an address. -/
def grp (b : List UInt8) (i : Nat) : Nat := (b.getD (2 * i) 0).toNat * 256 + (b.getD (2 * i + 1) 0).toNat
theorem grp_lt (b : List UInt8) (i : Nat) : grp b i < 65536 := by
  have h1 := (b.getD (2 * i) 0).toNat_lt
  have h2 := (b.getD (2 * i + 1) 0).toNat_lt
  unfold grp; omega
theorem join8 (m x : Int) (hm : 0 ≤ m) (hm2 : m < 256) (hx : 0 ≤ x) (hx2 : x < 256) : bits .or .i64 (m * 256) x = m * 256 + x := by
  obtain ⟨a, rfl⟩ : ∃ a : Nat, m = a := ⟨m.toNat, by omega⟩
  obtain ⟨b, rfl⟩ : ∃ b : Nat, x = b := ⟨x.toNat, by omega⟩
  have ha : (BitVec.ofInt 64 ((a : Int) * 256)).toNat = a * 256 := by
    rw [show ((a : Int) * 256) = ((a * 256 : Nat) : Int) by simp, BitVec.ofInt_natCast, BitVec.toNat_ofNat]; exact Nat.mod_eq_of_lt (by omega)
  have hb : (BitVec.ofInt 64 (b : Int)).toNat = b := by
    rw [BitVec.ofInt_natCast, BitVec.toNat_ofNat]; exact Nat.mod_eq_of_lt (by omega)
  show IntKind.i64.wrap ((BitVec.ofInt 64 ((a : Int) * 256) ||| BitVec.ofInt 64 (b : Int)).toNat : Int) = _
  rw [BitVec.toNat_or, ha, hb, IntKind.wrap_i64]
  have : a * 256 ||| b = a * 256 + b := by
    rw [show a * 256 = 2 ^ 8 * a by omega]
    exact (Nat.two_pow_add_eq_or_of_lt (by omega) a).symm
  rw [this]
  omega
theorem at_calls (six : Bool) (b : List UInt8) (hb : b.length = 16) (i : Nat) (hi : i < 8) (w : World) :
    Calls Tryz.prog 125 #[adV six b, .int .i64 (i : Int)] w fun e w' => e = .returned (.int .i64 (grp b i : Int)) ∧ Below w.heap.size w w' := by
  have hbel : Below (w.alloc (.cells (adA six b) 24)).heap.size (w.alloc (.cells (adA six b) 24)) (w.alloc (.cells (adA six b) 24)) := Below.refl _ _
  have hc : ∀ j, j < 16 → (w.alloc (.cells (adA six b) 24)).cell? ⟨w.heap.size, 1 + j, none⟩ = some (.int .u8 ((b.getD j 0).toNat : Int)) := fun j hj => by
    refine cell_box w _ (adCells six b) 24 hbel (1 + j) _ ?_
    unfold adCells
    rw [Nat.add_comm, List.getElem?_cons_succ, List.getElem?_map, List.getElem?_eq_getElem (by omega), List.getD_eq_getElem?_getD, List.getElem?_eq_getElem (by omega)]
    rfl
  have c1 := hc (2 * i) (by omega)
  have c2 := hc (2 * i + 1) (by omega)
  have hsz := adA_size six b hb
  have h1 := (b.getD (2 * i) 0).toNat_lt
  have h2 := (b.getD (2 * i + 1) 0).toNat_lt
  have hi0 : (0 : Int) ≤ (i : Int) := by omega
  have hi8 : (i : Int) < 8 := by omega
  unfold grp
  show Calls Tryz.prog 125 #[.agg (adA six b), .int .i64 (i : Int)] w fun e w' => e = .returned (.int .i64 (((b.getD (2 * i) 0).toNat * 256 + (b.getD (2 * i + 1) 0).toNat : Nat) : Int)) ∧ Below w.heap.size w w'
  generalize (b.getD (2 * i) 0).toNat = x at *
  generalize (b.getD (2 * i + 1) 0).toNat = y at *
  have hj := join8 x y (by omega) (by omega) (by omega) (by omega)
  have hx1 : (x : Int) < 256 := by omega
  have hy1 : (y : Int) < 256 := by omega
  have hz : ((x * 256 + y : Nat) : Int) = (x : Int) * 256 + (y : Int) := by simp
  rw [hz]
  generalize adA six b = ca at *
  have HB := Lib.hid ((Below.refl w.heap.size w).alloc (Nat.le_refl _) (.cells ca 24))
  have e1 : (2 * (i : Int)).toNat = 2 * i := by omega
  have e2 : (2 * (i : Int) + 1).toNat = 2 * i + 1 := by omega
  clear hc hbel hz h1 h2 hb hi
  go_enter Tryz.func125, Tryz.ntmps125
  go_wp2
  go_quiet (fail)
  go_wp2
  go_ret
  exact ⟨rfl, below_drewN HB.out _⟩
end Go.Proofs.YtmcgkknpkocgoaaGreatDoor.Ad
