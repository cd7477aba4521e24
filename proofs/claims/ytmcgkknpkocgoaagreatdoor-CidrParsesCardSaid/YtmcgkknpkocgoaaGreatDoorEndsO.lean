/- What an argument of type [2]Point is. -/
import Derived.Test.YtmcgkknpkocgoaaGreatDoorAddr
import Derived.Test.YtmcgkknpkocgoaaGreatDoorOpen
import Derived.OpenShut
namespace Go.Proofs.YtmcgkknpkocgoaaGreatDoor.Addr
open Go.RowKit Go.WideShapes Go.Proofs.YtmcgkknpkocgoaaGreatDoor.Mem Go.Proofs.YtmcgkknpkocgoaaGreatDoor.Open
set_option maxRecDepth 100000
section
variable {H : Type} {enc : TypeId × Value → H} {W : World}
theorem open_u8s (l : List Value) (n : Nat) (hl : l.length = n) (h : ∀ i, i < n → Rd enc Tryz.prog W 5 ((l.drop (i * 1)).take 1)) : ∃ b : List UInt8, b.length = n ∧ l = b.map (fun x => Value.int .u8 (x.toNat : Int)) := by
  induction l generalizing n with
  | nil => exact ⟨[], hl, rfl⟩
  | cons v l ih =>
    obtain ⟨m, rfl⟩ : ∃ m, n = m + 1 := ⟨l.length, by simp at hl; omega⟩
    obtain ⟨x, hx⟩ := (h 0 (by omega)).u8 Tryz.underlying5
    obtain ⟨b, hb, hbl⟩ := ih m (by simpa using hl) (fun i hi => by
      have := h (i + 1) (by omega)
      simpa [Nat.add_mul] using this)
    refine ⟨x :: b, by simp [hb], ?_⟩
    simp at hx
    rw [List.map_cons, ← hbl, hx]
theorem open_addr (cs : List Value) (h : Rd enc Tryz.prog W 24 cs) : ∃ six b, b.length = 16 ∧ cs = adCells six b := by
  have hs := h.struct Tryz.underlying24
  have hc : Tryz.prog.cellsOf 24 = 17 := by kernel_rfl
  have hcb : Tryz.prog.cellsOf 4 = 1 := by kernel_rfl
  have hca : Tryz.prog.cellsOf 22 = 16 := by kernel_rfl
  have hcu : Tryz.prog.cellsOf 5 = 1 := by kernel_rfl
  have h0 : Rd enc Tryz.prog W 4 ((cs.drop 0).take (Tryz.prog.cellsOf 4)) := hs.2 0 _ rfl
  have h1 : Rd enc Tryz.prog W 22 ((cs.drop 1).take (Tryz.prog.cellsOf 22)) := hs.2 1 _ rfl
  have hl := hs.1
  rw [hcb] at h0
  rw [hca] at h1
  rw [hc] at hl
  obtain ⟨six, h6⟩ := h0.bool Tryz.underlying4
  have ha := h1.array Tryz.underlying22
  rw [hcu, hca] at ha
  obtain ⟨b, hb, he⟩ := open_u8s ((cs.drop 1).take 16) 16 (by rw [List.length_take, List.length_drop]; omega) ha.2
  refine ⟨six, b, hb, ?_⟩
  match cs, hl, h6, he with
  | v :: vs, hl, h6, he =>
    simp at h6 he hl
    rw [List.take_of_length_le (by omega)] at he
    rw [h6, he]; rfl
theorem open_point (cs : List Value) (h : Rd enc Tryz.prog W 61 cs) : ∃ six b n, b.length = 16 ∧ cs = adCells six b ++ [.int .i64 n] := by
  have hs := h.struct Tryz.underlying61
  have hc : Tryz.prog.cellsOf 61 = 18 := by kernel_rfl
  have hca : Tryz.prog.cellsOf 24 = 17 := by kernel_rfl
  have hci : Tryz.prog.cellsOf 3 = 1 := by kernel_rfl
  have h0 : Rd enc Tryz.prog W 24 ((cs.drop 0).take (Tryz.prog.cellsOf 24)) := hs.2 0 _ rfl
  have h1 : Rd enc Tryz.prog W 3 ((cs.drop 17).take (Tryz.prog.cellsOf 3)) := hs.2 1 _ rfl
  have hl := hs.1
  rw [hca] at h0
  rw [hci] at h1
  rw [hc] at hl
  obtain ⟨six, b, hb, h6⟩ := open_addr _ h0
  obtain ⟨n, hn, _⟩ := h1.int Tryz.underlying3
  refine ⟨six, b, n, hb, ?_⟩
  rw [← h6, ← hn, List.drop_zero, List.take_of_length_le (l := cs.drop 17) (by rw [List.length_drop]; omega), List.take_append_drop]
end
end Go.Proofs.YtmcgkknpkocgoaaGreatDoor.Addr
