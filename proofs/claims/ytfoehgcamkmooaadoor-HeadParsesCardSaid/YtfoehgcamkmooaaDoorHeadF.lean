/- The heads ahead of parts: fourth, sixth. -/
import Derived.Test.YtfoehgcamkmooaaDoorHeadE
namespace Go.Proofs.YtfoehgcamkmooaaDoor.Head
open Go.RowKit Go.Proofs.YtfoehgcamkmooaaDoor.Mem Go.Proofs.YtfoehgcamkmooaaDoor.Num Go.Proofs.YtfoehgcamkmooaaDoor.Err
open Go.Proofs.YtfoehgcamkmooaaDoor.Addr hiding below_allocd
open Go.Proofs.YtfoehgcamkmooaaDoor.Sums Go.Proofs.YtfoehgcamkmooaaDoor.SumsP Go.Proofs.YtfoehgcamkmooaaDoor.Pseudo
set_option linter.unusedVariables false
set_option linter.unusedSimpArgs false
set_option maxRecDepth 100000
attribute [-go_sem] Builtin.append_ loadCells loadCellsFrom storeCells
theorem and15 (x : UInt8) : bits .and .u8 (x.toNat : Int) 15 = (x.toNat : Int) % 16 := by
  have h := x.toNat_lt
  have := bits_mask .u8 8 (by decide) (fun n h0 h1 => by rw [IntKind.wrap_u8]; omega) 4 (by decide) (x.toNat : Int) (by omega) (by omega)
  simpa using this
/-- A packet of several pieces. -/
def fragB (n : Nat) : Bool := (bits .andNot .i64 (n : Int) 16384 != 0)
theorem frag_law (n : Nat) (h : n < 65536) : fragB n = decide (n ≠ 0 ∧ n ≠ 16384) := by
  have key : (bits .andNot .i64 (n : Int) 16384 = 0) ↔ (n = 0 ∨ n = 16384) := by
    constructor
    · intro hz
      have hb : bits .andNot .i64 (n : Int) 16384 = IntKind.i64.wrap ((BitVec.ofInt 64 n &&& ~~~ BitVec.ofInt 64 16384).toNat : Int) := rfl
      have hz2 : BitVec.ofInt 64 n &&& ~~~ BitVec.ofInt 64 16384 = 0#64 := by
        apply BitVec.eq_of_toNat_eq
        have := (BitVec.ofInt 64 n &&& ~~~ BitVec.ofInt 64 16384).isLt
        rw [hb, IntKind.wrap_i64] at hz
        rw [BitVec.toNat_ofNat]
        omega
      have e : BitVec.ofInt 64 n = BitVec.ofInt 64 n &&& BitVec.ofInt 64 16384 := by
        apply BitVec.eq_of_getLsbD_eq
        intro i hi
        have := congrArg (fun v => v.getLsbD i) hz2
        simp only [BitVec.getLsbD_and, BitVec.getLsbD_not, BitVec.getLsbD_zero, hi, decide_true, Bool.true_and] at this
        rw [BitVec.getLsbD_and]
        revert this
        cases (BitVec.ofInt 64 (n : Int)).getLsbD i <;> cases (BitVec.ofInt 64 16384).getLsbD i <;> simp
      have e2 := congrArg BitVec.toNat e
      rw [BitVec.toNat_and, BitVec.toNat_ofInt, BitVec.toNat_ofInt] at e2
      rw [show ((16384 : Int) % ((2 ^ 64 : Nat) : Int)).toNat = 2 ^ 14 by decide, show ((n : Int) % ((2 ^ 64 : Nat) : Int)).toNat = n by omega] at e2
      have hbit : ∀ i, i ≠ 14 → n.testBit i = false := fun i hi => by
        rw [e2, Nat.testBit_and, Nat.testBit_two_pow, decide_eq_false (fun e => hi e.symm), Bool.and_false]
      cases hq : n.testBit 14
      · left; exact Nat.eq_of_testBit_eq fun i => by
          rw [Nat.zero_testBit]; by_cases hi : i = 14
          · rw [hi]; exact hq
          · exact hbit i hi
      · right; exact Nat.eq_of_testBit_eq fun i => by
          rw [show 16384 = 2 ^ 14 by decide, Nat.testBit_two_pow]; by_cases hi : i = 14
          · rw [hi, hq]; rfl
          · rw [hbit i hi, decide_eq_false (fun e => hi e.symm)]
    · rintro (rfl | rfl) <;> rfl
  unfold fragB
  rcases Decidable.em (n = 0 ∨ n = 16384) with hh | hh
  · rw [key.2 hh]
    have : ¬ (n ≠ 0 ∧ n ≠ 16384) := by omega
    rw [decide_eq_false this]; rfl
  · have h1 : ¬ bits .andNot .i64 (n : Int) 16384 = 0 := fun e => hh (key.1 e)
    have : n ≠ 0 ∧ n ≠ 16384 := by omega
    rw [decide_eq_true this]
    simpa using h1
section
variable {P : Program} {α : Type} {E : Enc α}
/-- 'xs[lo:hi]' of a row that stands in many worlds. -/
theorem Row.cutS (S : World → Prop) {xs : List α} (t e : TypeId) (ht : P.underlying t = some (.slice e)) {z : Option Value} {bytes : Nat} (hinfo : (P.info? e).map (fun i => (i.zero, i.size, i.bytes)) = some (z, E.sz, bytes)) {A : Option Addr} {n c : Nat} (hS : ∀ W, S W → Row E W (.slice A n c) xs) {w : World} (hw : S w) (lo hi : Nat) (h1 : lo ≤ hi) (h2 : hi ≤ xs.length) :
    ∃ A', (∀ W kl kh, (Instr.slice t (.slice A n c) (some (.int kl (lo : Int))) (some (.int kh (hi : Int))) none).run P W = .ok (.slice A' (hi - lo) (c - lo)) W) ∧
      (lo = 0 → ∀ W kh, (Instr.slice t (.slice A n c) none (some (.int kh (hi : Int))) none).run P W = .ok (.slice A' (hi - lo) (c - lo)) W) ∧
      (hi = n → ∀ W kl, (Instr.slice t (.slice A n c) (some (.int kl (lo : Int))) none none).run P W = .ok (.slice A' (hi - lo) (c - lo)) W) ∧
      (∀ W, S W → Row E W (.slice A' (hi - lo) (c - lo)) ((xs.take hi).drop lo)) := by
  have hc := (hS w hw).cap
  obtain ⟨A', r1, r2, r3, r4, r5⟩ := run_cut (P := P) (E := E) t e ht hinfo A n c lo hi h1 (by omega) hc.2.2
  refine ⟨A', r1, r2, r3, fun w' hw' => ?_⟩
  have hcl := (hS w' hw').cells
  have hl : ((xs.take hi).drop lo).length = hi - lo := by rw [List.length_drop, List.length_take]; omega
  refine ⟨A', c - lo, by rw [hl], by rw [hl]; omega, by have := hc.2.1; omega, r4, fun ad had j u hu => ?_⟩
  obtain ⟨a0, ha0, hadd⟩ := r5 ad had
  rw [E.all_drop, E.all_take, List.getElem?_drop, List.getElem?_take] at hu
  split at hu
  · rename_i hlt
    have hlo : lo < c := by
      rcases Nat.lt_or_ge lo c with h' | h'
      · exact h'
      · have h6 : hi = lo := by omega
        rw [h6] at hlt; omega
    rw [hadd hlo, add_add]
    exact hcl a0 ha0 _ _ hu
  · cases hu
/-- Cells stored into a block known whole. -/
theorem store_at {b off : Nat} {cs vs : List Value} {t : TypeId} {w : World} (hb : Blk b cs t w) (hn : off + vs.length ≤ cs.length) (h1 : ∀ v ∈ vs, v.oneCell' = true) :
    ∃ w1, (storeCells ⟨b, off, none⟩ vs).run P w = .ok () w1 ∧ Blk b (splice cs off vs) t w1 ∧ Alt (fun k => k = b) w w1 := by
  have hs := run_storeCells_cells (P := P) b off vs 0 w (fun j hj => by simpa using ((hb.there off vs.length hn) j hj).1) (fun j hj => by simpa using ((hb.there off vs.length hn) j hj).2) h1
  rw [Nat.add_zero] at hs
  obtain ⟨q1, q2⟩ := setCells_heap vs off hb hn
  exact ⟨_, hs, q1, q2⟩
end
end Go.Proofs.YtfoehgcamkmooaaDoor.Head
