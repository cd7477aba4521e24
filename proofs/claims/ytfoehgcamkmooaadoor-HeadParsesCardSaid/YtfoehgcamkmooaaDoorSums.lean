/- Package sums: contracts of Add (a range over slices.Chunk), Fold, Check. -/
import Derived.RangeFuncNested
import Derived.RangeFuncBound
import Derived.RangeFuncFrom
import Derived.RangeFuncCalls
import Derived.RangeFuncLeaves
import Derived.Shelf.Abstract
import Derived.Shelf.RegionOpen
import Derived.WalkKit
import Derived.OwnWalkIn
import Derived.TacticsInMore
import Derived.LoopNIn
import Derived.LoopIn
import Derived.RegionTactic
import Derived.RegionIn
import Derived.BigRegionIn
import Derived.Outline
import Derived.Sort.QuietIn
import Derived.Test.YtfoehgcamkmooaaDoorNum
import Derived.Test.YtfoehgcamkmooaaDoorSumsP
namespace Go.Proofs.YtfoehgcamkmooaaDoor.Sums
open Go.RowKit Go.Shelf Go.Proofs.YtfoehgcamkmooaaDoor.Mem Go.Proofs.YtfoehgcamkmooaaDoor.Num Go.Proofs.YtfoehgcamkmooaaDoor.SumsP
attribute [local go_sem] Oper.semAt_some
set_option linter.unusedVariables false
set_option linter.unusedSimpArgs false
theorem ret_i64 {a b : Int} (h : a = b) : Ending.returned (.int .i64 a) = .returned (.int .i64 b) := by rw [h]

theorem join8 (x y : UInt8) : bits .or .i64 ((x.toNat : Int) * 256) (y.toNat : Int) = (x.toNat : Int) * 256 + (y.toNat : Int) := by
  have h1 := x.toNat_lt
  have h2 := y.toNat_lt
  exact bits_join .i64 63 (by decide) (fun n h0 h1 => by rw [IntKind.wrap_i64]; omega) 8 _ _ (by omega) (by omega) (by omega) (by omega) (by omega) (by omega)
set_option maxRecDepth 100000 in
theorem pair_calls (v : Value) (l : List UInt8) (w : World) (hv : Row eU8 w v l) (hl : 0 < l.length) :
    Calls Tryd.prog 74 #[v] w fun e w' => e = .returned (.int .i64 (pairN l : Int)) ∧ w = w' := by
  obtain ⟨A, c, rfl, hc, hm, hr⟩ := hv.parts
  clear hv
  obtain ⟨ad, rfl, h0⟩ := hr.atU8 (k := 0) hl
  have h0' : w.cell? ad = some (.int .u8 (l[0].toNat : Int)) := by simpa [Addr.add] using h0
  clear h0
  cases l with
  | nil => simp at hl
  | cons x l =>
    have b0 := x.toNat_lt
    have hb0 : (x.toNat : Int) < 256 := by omega
    have h0'' : w.cell? ad = some (.int .u8 (x.toNat : Int)) := h0'
    clear h0' b0
    cases l with
    | nil =>
      clear hr
      go_enter Tryd.func74, Tryd.ntmps74
      go_wp2
      go_ret
      exact ⟨ret_i64 (by simp [pairN]), rfl⟩
    | cons y l =>
      obtain ⟨ad', had, h1c⟩ := hr.atU8 (k := 1) (by simp)
      cases had
      have h1c' : w.cell? ⟨ad.block, ad.off + 1, none⟩ = some (.int .u8 (y.toNat : Int)) := h1c
      have hj := join8 x y
      have b1 := y.toNat_lt
      have hb1 : (y.toNat : Int) < 256 := by omega
      clear b1
      have hlen : (x :: y :: l).length = l.length + 2 := rfl
      rw [hlen] at hc ⊢
      clear hr h1c hlen hm
      have HJ := Lib.hid hj
      clear hj
      go_enter Tryd.func74, Tryd.ntmps74
      go_wp2
      go_ret
      refine ⟨ret_i64 ?_, rfl⟩
      show bits .or .i64 _ _ = _
      rw [HJ.out]; simp [pairN]
theorem chunk_calls (A : Option Addr) (n c : Nat) (w : World) :
    Calls Tryd.prog 73 #[.slice A n c, .int .i64 2] w fun e w' => e = .returned (.func (.func 84) #[] #[.pointer (some ⟨w.heap.size, 0, none⟩), .pointer (some ⟨w.heap.size + 1, 0, none⟩)]) ∧ w' = (w.alloc (.cells #[.slice A n c] 22)).alloc (.cells #[.int .i64 2] 3) := by
  go_enter Tryd.func73, Tryd.ntmps73
  go_wp2
  go_ret
  exact ⟨rfl, rfl⟩
/-- The k-th chunk. -/
def chunkV (ad : Addr) (n k : Nat) : Value := .slice (some (ad.add (2 * k))) (min 2 (n - 2 * k)) (min 2 (n - 2 * k))
/-- What has come when k rounds are over. -/
def upto (n : Nat) : (k : Nat) → List { k : Nat // 2 * k < n }
  | 0 => []
  | k + 1 => upto n k ++ (if h : 2 * k < n then [⟨k, h⟩] else [])
theorem upto_length (n k : Nat) (h : 2 * k < n + 2) : (upto n k).length = k := by
  induction k with
  | zero => rfl
  | succ k ih =>
    simp only [upto]
    rw [dif_pos (by omega), List.length_append, ih (by omega)]; rfl
theorem upto_succ (n k : Nat) (h : 2 * k < n) : upto n (k + 1) = upto n k ++ [⟨k, h⟩] := by
  simp only [upto]; rw [dif_pos h]
set_option maxRecDepth 100000 in
set_option maxHeartbeats 2000000 in
theorem chunk1_in (n : Nat) (hn : 1 ≤ n) (l Bs Bn : Nat) (Kp : World → World → Prop) (hKp : ∀ X Y, Kp X Y → Y.cell? ⟨Bs, 0, none⟩ = X.cell? ⟨Bs, 0, none⟩ ∧ Y.cell? ⟨Bn, 0, none⟩ = X.cell? ⟨Bn, 0, none⟩) (ad : Addr) (len cap : Nat) (hlen : len ≤ cap) (hl6 : len ≤ 1000000) (hcap : cap ≤ 9223372036854775807) (J Jx : List { k : Nat // 2 * k < len } → World → Prop)
    (hY : ∀ pre x W, J pre W → pre.length < len → YieldAt Fence.wide (n - 1) Tryd.prog l #[chunkV ad len x.1] W fun e W' =>
      (e = .returned (.bool true) ∧ J (pre ++ [x]) W' ∧ Kp W W') ∨ (e = .returned (.bool false) ∧ Jx (pre ++ [x]) W'))
    (W : World) (hBs : W.cell? ⟨Bs, 0, none⟩ = some (.slice (some ad) len cap)) (hBn : W.cell? ⟨Bn, 0, none⟩ = some (.int .i64 2)) (h0 : J [] W) (hJ : AbidesFrom W.heap.size J) :
    CallsIn Fence.wide n Tryd.prog 84 #[.func (.yield l) #[] #[], .pointer (some ⟨Bs, 0, none⟩), .pointer (some ⟨Bn, 0, none⟩)] W fun e W' => (∃ v, e = .returned v) ∧
      ((∃ ys, (∃ k, len ≤ 2 * k ∧ 2 * k < len + 2 ∧ ys = upto len k) ∧ J ys W') ∨ (∃ pre, True ∧ Jx pre W')) := by
  refine callsIn_of_wp Tryd.func84 rfl trivial ?_ rfl
  simp only [Tryd.ntmps84, List.size_toArray, List.length_cons, List.length_nil, Nat.reduceAdd, Nat.reduceSub, Array.replicate_succ, Array.replicate_zero, List.push_toArray, List.append_toArray, List.nil_append, List.cons_append]
  gi_wp2
  gi_loopw [4] (fun i wr => ∃ k : Nat, 2 * k < len + 2 ∧ i = .int .i64 (2 * (k : Int)) ∧ J (upto len k) wr ∧ wr.cell? ⟨Bs, 0, none⟩ = some (.slice (some ad) len cap) ∧ wr.cell? ⟨Bn, 0, none⟩ = some (.int .i64 2)) (fun i _ => (len + 2) - (intOf i).toNat)
  case atStart => exact ⟨0, by omega, rfl, h0, hBs, hBn⟩
  case round =>
    obtain ⟨k, hk, rfl, hJs, hc1, hc2⟩ := hrel
    by_cases hlt : 2 * k < len
    · have hlt' : 2 * (k : Int) < (len : Int) := by omega
      have hd : decide (2 * (k : Int) < (len : Int)) = true := decide_eq_true hlt'
      obtain ⟨A', _, _, hcut, _⟩ := run_cut (P := Tryd.prog) (E := eU8) 22 5 Tryd.underlying22 infoU8 (some ad) len cap (2 * k) len (by omega) (by omega) (by simp)
      have hcut1 : ∀ W, (Instr.slice 22 (.slice (some ad) len cap) (some (.int .i64 (2 * (k : Int)))) none none).run Tryd.prog W = .ok (.slice A' (len - 2 * k) (cap - 2 * k)) W := fun W => by
        have := hcut rfl W .i64
        simpa using this
      clear hcut
      rcases (show 2 * k + 2 ≤ len ∨ len = 2 * k + 1 by omega) with h2 | h2
      · have hcut3 : ∀ W, (Instr.slice 22 (.slice (some ad) len cap) (some (.int .i64 (2 * (k : Int)))) (some (.int .i64 (2 * (k : Int) + 2))) (some (.int .i64 (2 * (k : Int) + 2)))).run Tryd.prog W = .ok (chunkV ad len k) W := fun W => by
          have := run_cut3 (P := Tryd.prog) 22 5 Tryd.underlying22 infoU8 (some ad) len cap (2 * k) (2 * k + 2) (by omega) (by omega) W .i64 .i64 .i64
          rw [show chunkV ad len k = .slice ((some ad).map (·.add (2 * k * 1))) (2 * k + 2 - 2 * k) (2 * k + 2 - 2 * k) by unfold chunkV; rw [show min 2 (len - 2 * k) = 2 by omega, show 2 * k + 2 - 2 * k = 2 by omega]; simp]
          simpa using this
        gi_wp2
        gi_quiet (fail)
        rename_i nq
        have hJd : J (upto len k) (wr.drewN nq) := hJ _ wr _ none hJs ⟨rfl, rfl, rfl, Nat.le_refl _, fun _ _ _ => rfl⟩ (by simp)
        obtain ⟨fn, tmps, assign, body, hy, hR⟩ := hY _ ⟨k, hlt⟩ (wr.drewN nq) hJd (by rw [upto_length len k hk]; omega)
        dsimp only at hy
        gi_wp2
        refine hR.mono ?_
        rintro e W3 (⟨rfl, hJ3, hk3⟩ | ⟨rfl, hJx3⟩)
        · have hk4 := hKp _ _ hk3
          have hc3 : W3.cell? ⟨Bn, 0, none⟩ = some (.int .i64 2) := hk4.2.trans hc2
          have hc4 : W3.cell? ⟨Bs, 0, none⟩ = some (.slice (some ad) len cap) := hk4.1.trans hc1
          gi_wp2
          go_roundw
          case rel => exact ⟨k + 1, by omega, by simp; omega, by rw [upto_succ len k hlt]; exact hJ3, hc4, hc3⟩
          case measure => simp [intOf]; omega
        · gi_wp2
          refine bodyPost_ret (results_none rfl _ _ _) rfl ?_
          exact ⟨⟨_, rfl⟩, .inr ⟨_, trivial, hJx3⟩⟩
      · have hcut3 : ∀ W, (Instr.slice 22 (.slice (some ad) len cap) (some (.int .i64 (2 * (k : Int)))) (some (.int .i64 (2 * (k : Int) + 1))) (some (.int .i64 (2 * (k : Int) + 1)))).run Tryd.prog W = .ok (chunkV ad len k) W := fun W => by
          have := run_cut3 (P := Tryd.prog) 22 5 Tryd.underlying22 infoU8 (some ad) len cap (2 * k) (2 * k + 1) (by omega) (by omega) W .i64 .i64 .i64
          rw [show chunkV ad len k = .slice ((some ad).map (·.add (2 * k * 1))) (2 * k + 1 - 2 * k) (2 * k + 1 - 2 * k) by unfold chunkV; rw [show min 2 (len - 2 * k) = 1 by omega, show 2 * k + 1 - 2 * k = 1 by omega]; simp]
          simpa using this
        have hone : ((len - 2 * k : Nat) : Int) = 1 := by omega
        have H2 := Lib.hid h2
        clear h2
        gi_wp2
        gi_quiet (fail)
        rename_i nq
        have hJd : J (upto len k) (wr.drewN nq) := hJ _ wr _ none hJs ⟨rfl, rfl, rfl, Nat.le_refl _, fun _ _ _ => rfl⟩ (by simp)
        obtain ⟨fn, tmps, assign, body, hy, hR⟩ := hY _ ⟨k, hlt⟩ (wr.drewN nq) hJd (by rw [upto_length len k hk]; omega)
        dsimp only at hy
        gi_wp2
        refine hR.mono ?_
        rintro e W3 (⟨rfl, hJ3, hk3⟩ | ⟨rfl, hJx3⟩)
        · have h2 := H2.out
          have hk4 := hKp _ _ hk3
          have hc3 : W3.cell? ⟨Bn, 0, none⟩ = some (.int .i64 2) := hk4.2.trans hc2
          have hc4 : W3.cell? ⟨Bs, 0, none⟩ = some (.slice (some ad) len cap) := hk4.1.trans hc1
          gi_wp2
          go_roundw
          case rel => exact ⟨k + 1, by omega, by simp; omega, by rw [upto_succ len k hlt]; exact hJ3, hc4, hc3⟩
          case measure => simp [intOf]; omega
        · gi_wp2
          refine bodyPost_ret (results_none rfl _ _ _) rfl ?_
          exact ⟨⟨_, rfl⟩, .inr ⟨_, trivial, hJx3⟩⟩
    · gi_wp2
      go_end0
      exact ⟨⟨_, rfl⟩, .inl ⟨_, ⟨k, by omega, hk, rfl⟩, hJs⟩⟩
theorem chunk1_nil (n : Nat) (l Bs Bn : Nat) (A : Option Addr) (cap : Nat) (J : List { k : Nat // 2 * k < 0 } → World → Prop) (W : World) (hBs : W.cell? ⟨Bs, 0, none⟩ = some (.slice A 0 cap)) (h0 : J [] W) :
    CallsIn Fence.wide n Tryd.prog 84 #[.func (.yield l) #[] #[], .pointer (some ⟨Bs, 0, none⟩), .pointer (some ⟨Bn, 0, none⟩)] W fun e W' => (∃ v, e = .returned v) ∧ J [] W' := by
  refine callsIn_of_wp Tryd.func84 rfl trivial ?_ rfl
  simp only [Tryd.ntmps84, List.size_toArray, List.length_cons, List.length_nil, Nat.reduceAdd, Nat.reduceSub, Array.replicate_succ, Array.replicate_zero, List.push_toArray, List.append_toArray, List.nil_append, List.cons_append]
  gi_wp2
  gi_loopw [4] (fun i wr => i = .int .i64 0 ∧ J [] wr ∧ wr.cell? ⟨Bs, 0, none⟩ = some (.slice A 0 cap)) (fun _ _ => 0)
  case atStart => exact ⟨rfl, h0, hBs⟩
  case round =>
    obtain ⟨rfl, hJs, hb⟩ := hrel
    gi_wp2
    go_end0
    exact ⟨⟨_, rfl⟩, hJs⟩
/-- slices.Chunk(b, 2) hands on all chunks, in order. -/
theorem chunk_stops (n : Nat) (hn : 1 ≤ n) (Bs Bn : Nat) (Kp : World → World → Prop) (hKp : ∀ X Y, Kp X Y → Y.cell? ⟨Bs, 0, none⟩ = X.cell? ⟨Bs, 0, none⟩ ∧ Y.cell? ⟨Bn, 0, none⟩ = X.cell? ⟨Bn, 0, none⟩) (A : Option Addr) (len cap : Nat) (hlen : len ≤ cap) (hl6 : len ≤ 1000000) (hcap : cap ≤ 9223372036854775807) (hA : A = none → cap = 0) (w : World) (hbs : Bs < w.heap.size) (hbn : Bn < w.heap.size)
    (hBs : w.cell? ⟨Bs, 0, none⟩ = some (.slice A len cap)) (hBn : w.cell? ⟨Bn, 0, none⟩ = some (.int .i64 2)) :
    SeqStopsK Fence.wide n Tryd.prog 84 #[.pointer (some ⟨Bs, 0, none⟩), .pointer (some ⟨Bn, 0, none⟩)] (fun x : { k : Nat // 2 * k < len } => #[chunkV (A.getD ⟨0, 0, none⟩) len x.1]) Kp (fun ys => ∃ k, len ≤ 2 * k ∧ 2 * k < len + 2 ∧ ys = upto len k) (fun _ => True) len w := fun l J Jx W hW hJ _ hY h0 => by
  have hc1 := (hW.cell (p := ⟨Bs, 0, none⟩) hbs).trans hBs
  have hc2 := (hW.cell (p := ⟨Bn, 0, none⟩) hbn).trans hBn
  cases A with
  | none =>
    have h1 := hA rfl
    obtain rfl : len = 0 := by omega
    exact (chunk1_nil n l Bs Bn none cap J W hc1 h0).mono fun e W' ⟨he, hj⟩ => ⟨he, .inl ⟨[], ⟨0, by omega, by omega, rfl⟩, hj⟩⟩
  | some ad => exact chunk1_in n hn l Bs Bn Kp hKp ad len cap hlen hl6 hcap J Jx hY W hc1 hc2 h0 hJ
/-- A chunk reads as two bytes, or the last one. -/
theorem row_chunk {w W : World} {l : List UInt8} {A : Option Addr} {n c : Nat} (h : Row eU8 w (.slice A n c) l) (hw : ∀ a v, w.cell? a = some v → W.cell? a = some v) (k : Nat) (hk : 2 * k < n) : Row eU8 W (chunkV (A.getD ⟨0, 0, none⟩) n k) ((l.drop (2 * k)).take 2) := by
  have hn := h.len
  have hc := h.cap
  have hcl := h.cells
  subst hn
  cases A with
  | none => have := hc.2.2 rfl; omega
  | some ad =>
    have hl : ((l.drop (2 * k)).take 2).length = min 2 (l.length - 2 * k) := by rw [List.length_take, List.length_drop]
    refine ⟨_, _, by unfold chunkV; rw [hl], by rw [hl]; exact Nat.le_refl _, by unfold maxLen; omega, by simp, fun a ha j u hu => ?_⟩
    cases ha
    rw [eU8.all_take, eU8.all_drop, List.getElem?_take] at hu
    split at hu
    · rw [List.getElem?_drop] at hu
      rw [add_add]
      refine hw _ _ (hcl ad rfl _ _ ?_)
      rwa [show eU8.sz = 1 from rfl, Nat.mul_one] at hu
    · cases hu
def sumOf (l : List UInt8) {n : Nat} : List { k : Nat // 2 * k < n } → Nat
  | [] => 0
  | x :: r => pairN (l.drop (2 * x.1)) + sumOf l r
theorem sumOf_snoc (l : List UInt8) {n : Nat} (pre : List { k : Nat // 2 * k < n }) (x : { k : Nat // 2 * k < n }) : sumOf l (pre ++ [x]) = sumOf l pre + pairN (l.drop (2 * x.1)) := by
  induction pre with
  | nil => simp [sumOf]
  | cons y r ih => simp only [List.cons_append, sumOf, ih]; omega
theorem sumOf_le (l : List UInt8) {n : Nat} (pre : List { k : Nat // 2 * k < n }) : sumOf l pre ≤ 65535 * pre.length := by
  induction pre with
  | nil => simp [sumOf]
  | cons y r ih => have := pairN_le (l.drop (2 * y.1)); simp only [sumOf, List.length_cons]; omega
theorem sumOf_upto (l : List UInt8) (n k : Nat) (h : 2 * k < n + 2) : sumOf l (upto n k) = upTo l k := by
  induction k with
  | zero => simp [upto, sumOf, upTo_zero]
  | succ k ih => rw [upto_succ n k (by omega), sumOf_snoc, ih (by omega), upTo_succ]
def clampN (n : Int) : Int := if n ≤ 0 then 0 else if n ≤ 1099511627776 then n else 1099511627776
theorem clampN_le (n : Int) : 0 ≤ clampN n ∧ clampN n ≤ 1099511627776 := by unfold clampN; split <;> (try split) <;> omega
theorem cell_of_box_l {W : World} {B : Nat} {v : Value} {t : TypeId} (h : W.heap[B]? = some (.cells #[v] t (0, 0))) : W.cell? ⟨B, 0, none⟩ = some v ∧ W.frozen? ⟨B, 0, none⟩ = false := by
  constructor <;> simp [World.cell?, World.frozen?, h]
theorem cell_new_l (W : World) (v : Value) (t : TypeId) : (W.alloc (.cells #[v] t)).cell? ⟨W.heap.size, 0, none⟩ = some v ∧ (W.alloc (.cells #[v] t)).frozen? ⟨W.heap.size, 0, none⟩ = false :=
  cell_of_box_l (World.alloc_heap_new W _)
theorem cell_alloc_l {W : World} {a : Addr} {v : Value} (o : Obj) (h : W.cell? a = some v) : (W.alloc o).cell? a = some v := cell_kept h (World.grownBy_alloc W o none) (fun r e => by cases e)
theorem frozen_alloc_l {W : World} {a : Addr} {v : Value} (o : Obj) (h : W.cell? a = some v) (hf : W.frozen? a = false) : (W.alloc o).frozen? a = false := (frozen_kept h (World.grownBy_alloc W o none) (fun r e => by cases e)).trans hf
/-- What a round keeps: whatever lay when the loop began, but for the sum's box. -/
def KeepS (n₁ B : Nat) (X Y : World) : Prop := ∀ p : Addr, p.block < n₁ → p.block ≠ B → Y.cell? p = X.cell? p
theorem KeepS.trans {n₁ B : Nat} {X Y Z : World} (h : KeepS n₁ B X Y) (k : KeepS n₁ B Y Z) : KeepS n₁ B X Z := fun p h1 h2 => (k p h1 h2).trans (h p h1 h2)
set_option maxRecDepth 100000 in
set_option maxHeartbeats 2000000 in
theorem add_calls (s : Int) (v : Value) (l : List UInt8) (w : World) (hv : Row eU8 w v l) (hl : l.length ≤ 1000000) :
    Calls Tryd.prog 53 #[.int .i64 s, v] w fun e w' => e = .returned (.int .i64 (clampN s + (total l : Nat))) ∧ Below w.heap.size w w' := by
  obtain ⟨A, c, rfl, hc, hm, hr⟩ := hv.parts
  have hA := hr.cap.2.2
  have HR := Lib.hid hr
  clear hv hr
  refine (callsIn_wide (n := 5)).1 ?_
  refine callsIn_of_wp_marks Tryd.func53 rfl trivial ?_ rfl
  simp only [Tryd.ntmps53, List.size_toArray, List.length_nil, List.length_cons, Nat.reduceAdd, Nat.reduceSub, Array.replicate_succ, Array.replicate_zero, List.push_toArray, List.append_toArray, List.nil_append, List.cons_append]
  have hmx : Tryd.prog.follows .mixedOrders = true := by kernel_rfl
  gi_wp2_with (refine ⟨trivial, ?_⟩; gi_at_call 73; refine (callsIn_wide.2 (chunk_calls _ _ _ _)).mono ?_; rintro e w' ⟨rfl, rfl⟩)
  · have hz : clampN s = 0 := by unfold clampN; rw [if_pos (by omega)]
    have hzr := clampN_le s
    rw [hz] at hzr
    have c0 := cell_new_l w (.int .i64 0) 3
    have c1 := cell_new_l (w.alloc (.cells #[(.int .i64 0)] 3)) (.slice A l.length c) 22
    have c2 := cell_new_l ((w.alloc (.cells #[(.int .i64 0)] 3)).alloc (.cells #[.slice A l.length c] 22)) (.int .i64 2) 3
    simp only [World.size_alloc] at c1 c2
    have hB0 : Below w.heap.size w (((w.alloc (.cells #[(.int .i64 0)] 3)).alloc (.cells #[.slice A l.length c] 22)).alloc (.cells #[.int .i64 2] 3)) := (((Below.refl _ w).alloc (Nat.le_refl _) _).alloc (by simp) _).alloc (by simp; omega) _
    refine wpIn_rangeFunc_ownF rfl (by decide) (gf := 84) (lb := #[.pointer (some ⟨w.heap.size + 1, 0, none⟩), .pointer (some ⟨w.heap.size + 1 + 1, 0, none⟩)]) rfl trivial (enters_of Tryd.func84 (by kernel_rfl) rfl)
      (chunk_stops (5 - 1) (by decide) (w.heap.size + 1) (w.heap.size + 1 + 1) (KeepS (w.heap.size + 3) w.heap.size) (fun X Y h => ⟨h _ (by simp) (by simp), h _ (by show w.heap.size + 1 + 1 < w.heap.size + 3; omega) (by show w.heap.size + 1 + 1 ≠ w.heap.size; omega)⟩) A l.length c hc hl hm hA _ (by simp) (by simp) (cell_alloc_l _ c1.1) c2.1)
      (fun h k => h.trans k) (fun W k o o' hk ho hnc hnw p hp _ => by simp at hk; exact (Below.refl (w.heap.size + 3) W |>.grown (grownBy_putObj' W k o') (by have := (Array.getElem?_eq_some_iff.1 ho).1; omega) (fun k e => by cases e; omega)).cell hp)
      (Below.refl _ _) (fun _ => rfl)
      (fun pre W => (W.cell? ⟨w.heap.size, 0, none⟩ = some (.int .i64 (0 + (sumOf l pre : Nat))) ∧ W.frozen? ⟨w.heap.size, 0, none⟩ = false) ∧ Below w.heap.size w W)
      (fun _ _ _ => False)
      (OwnFrom.and (Own.from (fun s A B row hs hg hr => ⟨cell_kept hs.1 hg hr, (frozen_kept hs.1 hg hr).trans hs.2⟩) _) (ownFrom_below (Nat.le_refl _) (by simp; omega)))
      (fun _ _ _ _ _ hs _ _ => hs)
      ⟨⟨by simpa [sumOf] using cell_alloc_l _ (cell_alloc_l _ c0.1), frozen_alloc_l _ (cell_alloc_l _ c0.1) (frozen_alloc_l _ c0.1 c0.2)⟩, hB0⟩
      (fun x => { tmps := #[.int .i64 s, .slice A l.length c, .pointer (some ⟨w.heap.size, 0, none⟩), undef, .int .i64 0, chunkV (A.getD ⟨0, 0, none⟩) l.length x.1, .int .i64 s, .int .i64 0, .int .i64 0, .slice A l.length c, .func (.func 84) #[] #[.pointer (some ⟨w.heap.size + 1, 0, none⟩), .pointer (some ⟨w.heap.size + 1 + 1, 0, none⟩)], chunkV (A.getD ⟨0, 0, none⟩) l.length x.1, undef, undef, undef, undef, undef], defers := [] }) ?assign ?body ?done ?stop
    case assign =>
      intro l x W K hK
      gi_wp2
      exact hK
    case body =>
      rintro L pre x W ⟨⟨hcb, hfb⟩, hB⟩ hlen
      have hle := sumOf_le l pre
      have hrow := row_chunk HR.out (W := W) (fun a v ha => cell_below hB ha) x.1 x.2
      have hpl := pairN_le (l.drop (2 * x.1))
      have hpos : 0 < ((l.drop (2 * x.1)).take 2).length := by rw [List.length_take, List.length_drop]; have := x.2; omega
      have hcall := pair_calls _ _ W.drew (show Row eU8 W.drew _ _ from hrow) hpos
      rw [pairN_take] at hcall
      generalize hSn : sumOf l pre = Sn at hcb hle
      generalize hPn : pairN (l.drop (2 * x.1)) = Pn at hcall hpl
      have hx2 := x.2
      generalize chunkV (A.getD ⟨0, 0, none⟩) l.length x.1 = cv at hcall ⊢
      have hw : IntKind.i64.wrap ((Sn : Int) + (Pn : Int)) = (Sn : Int) + (Pn : Int) := by rw [IntKind.wrap_i64]; omega
      have hw' : IntKind.i64.wrap (0 + (Sn : Int) + (Pn : Int)) = 0 + (Sn : Int) + (Pn : Int) := by rw [IntKind.wrap_i64]; omega
      have hsn : sumOf l (pre ++ [x]) = Sn + Pn := by rw [sumOf_snoc, hSn, hPn]
      gi_wp2
      gi_region_with_o (refine ⟨trivial, ?_⟩; gi_at_call 74; refine (CallsIn.inRound L (callsIn_wide.2 hcall)).mono ?_; rintro e w' ⟨rfl, rfl⟩)
      all_goals gi_wp2
      all_goals
        refine ⟨(KeepsOthers.setCell _ _ _).trans (KeepsOthers.drew _), fun p _ h2 => World.cell?_setCell_other _ _ _ _ (fun e => h2 (by rw [← e])), ⟨?_, ?_⟩, below_drewN (hB.setCell (p := ⟨w.heap.size, 0, none⟩) (Nat.le_refl _) _) 1⟩
        · rw [hsn]
          refine (World.cell?_setCell_same' _ _ _ (by rw [hcb]; rfl)).trans ?_
          congr 2; omega
        · exact (World.frozen?_setCell _ _ _ _).trans hfb
    case done =>
      rintro D ys W hD ⟨k, hk1, hk2, rfl⟩ ⟨⟨hcb, hfb⟩, hB⟩ hK
      rw [sumOf_upto l _ k hk2, upTo_all l k hk1] at hcb
      gi_wp2
      refine ⟨by simp, .inl ⟨_, _, rfl, run_takeDeferred hK, ?_⟩⟩
      exact ⟨_, results_tmp rfl _ _ _, by rw [hz]; first | rfl | simp, hB.trans (belowK_b (w := w) (Nat.le_refl _) W D _ _ (by simp at hD; omega) hK rfl rfl)⟩
    case stop =>
      rintro D k pre W _ _ h _
      exact h.elim
  · have hz : clampN s = 1099511627776 := by unfold clampN; rw [if_neg (by omega), if_neg (by omega)]
    have hzr := clampN_le s
    rw [hz] at hzr
    have c0 := cell_new_l w (.int .i64 1099511627776) 3
    have c1 := cell_new_l (w.alloc (.cells #[(.int .i64 1099511627776)] 3)) (.slice A l.length c) 22
    have c2 := cell_new_l ((w.alloc (.cells #[(.int .i64 1099511627776)] 3)).alloc (.cells #[.slice A l.length c] 22)) (.int .i64 2) 3
    simp only [World.size_alloc] at c1 c2
    have hB0 : Below w.heap.size w (((w.alloc (.cells #[(.int .i64 1099511627776)] 3)).alloc (.cells #[.slice A l.length c] 22)).alloc (.cells #[.int .i64 2] 3)) := (((Below.refl _ w).alloc (Nat.le_refl _) _).alloc (by simp) _).alloc (by simp; omega) _
    refine wpIn_rangeFunc_ownF rfl (by decide) (gf := 84) (lb := #[.pointer (some ⟨w.heap.size + 1, 0, none⟩), .pointer (some ⟨w.heap.size + 1 + 1, 0, none⟩)]) rfl trivial (enters_of Tryd.func84 (by kernel_rfl) rfl)
      (chunk_stops (5 - 1) (by decide) (w.heap.size + 1) (w.heap.size + 1 + 1) (KeepS (w.heap.size + 3) w.heap.size) (fun X Y h => ⟨h _ (by simp) (by simp), h _ (by show w.heap.size + 1 + 1 < w.heap.size + 3; omega) (by show w.heap.size + 1 + 1 ≠ w.heap.size; omega)⟩) A l.length c hc hl hm hA _ (by simp) (by simp) (cell_alloc_l _ c1.1) c2.1)
      (fun h k => h.trans k) (fun W k o o' hk ho hnc hnw p hp _ => by simp at hk; exact (Below.refl (w.heap.size + 3) W |>.grown (grownBy_putObj' W k o') (by have := (Array.getElem?_eq_some_iff.1 ho).1; omega) (fun k e => by cases e; omega)).cell hp)
      (Below.refl _ _) (fun _ => rfl)
      (fun pre W => (W.cell? ⟨w.heap.size, 0, none⟩ = some (.int .i64 (1099511627776 + (sumOf l pre : Nat))) ∧ W.frozen? ⟨w.heap.size, 0, none⟩ = false) ∧ Below w.heap.size w W)
      (fun _ _ _ => False)
      (OwnFrom.and (Own.from (fun s A B row hs hg hr => ⟨cell_kept hs.1 hg hr, (frozen_kept hs.1 hg hr).trans hs.2⟩) _) (ownFrom_below (Nat.le_refl _) (by simp; omega)))
      (fun _ _ _ _ _ hs _ _ => hs)
      ⟨⟨by simpa [sumOf] using cell_alloc_l _ (cell_alloc_l _ c0.1), frozen_alloc_l _ (cell_alloc_l _ c0.1) (frozen_alloc_l _ c0.1 c0.2)⟩, hB0⟩
      (fun x => { tmps := #[.int .i64 s, .slice A l.length c, .pointer (some ⟨w.heap.size, 0, none⟩), undef, .int .i64 0, chunkV (A.getD ⟨0, 0, none⟩) l.length x.1, .int .i64 s, .int .i64 s, .int .i64 1099511627776, .slice A l.length c, .func (.func 84) #[] #[.pointer (some ⟨w.heap.size + 1, 0, none⟩), .pointer (some ⟨w.heap.size + 1 + 1, 0, none⟩)], chunkV (A.getD ⟨0, 0, none⟩) l.length x.1, undef, undef, undef, undef, undef], defers := [] }) ?assign ?body ?done ?stop
    case assign =>
      intro l x W K hK
      gi_wp2
      exact hK
    case body =>
      rintro L pre x W ⟨⟨hcb, hfb⟩, hB⟩ hlen
      have hle := sumOf_le l pre
      have hrow := row_chunk HR.out (W := W) (fun a v ha => cell_below hB ha) x.1 x.2
      have hpl := pairN_le (l.drop (2 * x.1))
      have hpos : 0 < ((l.drop (2 * x.1)).take 2).length := by rw [List.length_take, List.length_drop]; have := x.2; omega
      have hcall := pair_calls _ _ W.drew (show Row eU8 W.drew _ _ from hrow) hpos
      rw [pairN_take] at hcall
      generalize hSn : sumOf l pre = Sn at hcb hle
      generalize hPn : pairN (l.drop (2 * x.1)) = Pn at hcall hpl
      have hx2 := x.2
      generalize chunkV (A.getD ⟨0, 0, none⟩) l.length x.1 = cv at hcall ⊢
      have hw : IntKind.i64.wrap ((Sn : Int) + (Pn : Int)) = (Sn : Int) + (Pn : Int) := by rw [IntKind.wrap_i64]; omega
      have hw' : IntKind.i64.wrap (1099511627776 + (Sn : Int) + (Pn : Int)) = 1099511627776 + (Sn : Int) + (Pn : Int) := by rw [IntKind.wrap_i64]; omega
      have hsn : sumOf l (pre ++ [x]) = Sn + Pn := by rw [sumOf_snoc, hSn, hPn]
      gi_wp2
      gi_region_with_o (refine ⟨trivial, ?_⟩; gi_at_call 74; refine (CallsIn.inRound L (callsIn_wide.2 hcall)).mono ?_; rintro e w' ⟨rfl, rfl⟩)
      all_goals gi_wp2
      all_goals
        refine ⟨(KeepsOthers.setCell _ _ _).trans (KeepsOthers.drew _), fun p _ h2 => World.cell?_setCell_other _ _ _ _ (fun e => h2 (by rw [← e])), ⟨?_, ?_⟩, below_drewN (hB.setCell (p := ⟨w.heap.size, 0, none⟩) (Nat.le_refl _) _) 1⟩
        · rw [hsn]
          refine (World.cell?_setCell_same' _ _ _ (by rw [hcb]; rfl)).trans ?_
          congr 2; omega
        · exact (World.frozen?_setCell _ _ _ _).trans hfb
    case done =>
      rintro D ys W hD ⟨k, hk1, hk2, rfl⟩ ⟨⟨hcb, hfb⟩, hB⟩ hK
      rw [sumOf_upto l _ k hk2, upTo_all l k hk1] at hcb
      gi_wp2
      refine ⟨by simp, .inl ⟨_, _, rfl, run_takeDeferred hK, ?_⟩⟩
      exact ⟨_, results_tmp rfl _ _ _, by rw [hz]; first | rfl | simp, hB.trans (belowK_b (w := w) (Nat.le_refl _) W D _ _ (by simp at hD; omega) hK rfl rfl)⟩
    case stop =>
      rintro D k pre W _ _ h _
      exact h.elim
  · have hz : clampN s = s := by unfold clampN; split <;> (try split) <;> omega
    have hzr := clampN_le s
    rw [hz] at hzr
    have c0 := cell_new_l w (.int .i64 s) 3
    have c1 := cell_new_l (w.alloc (.cells #[(.int .i64 s)] 3)) (.slice A l.length c) 22
    have c2 := cell_new_l ((w.alloc (.cells #[(.int .i64 s)] 3)).alloc (.cells #[.slice A l.length c] 22)) (.int .i64 2) 3
    simp only [World.size_alloc] at c1 c2
    have hB0 : Below w.heap.size w (((w.alloc (.cells #[(.int .i64 s)] 3)).alloc (.cells #[.slice A l.length c] 22)).alloc (.cells #[.int .i64 2] 3)) := (((Below.refl _ w).alloc (Nat.le_refl _) _).alloc (by simp) _).alloc (by simp; omega) _
    refine wpIn_rangeFunc_ownF rfl (by decide) (gf := 84) (lb := #[.pointer (some ⟨w.heap.size + 1, 0, none⟩), .pointer (some ⟨w.heap.size + 1 + 1, 0, none⟩)]) rfl trivial (enters_of Tryd.func84 (by kernel_rfl) rfl)
      (chunk_stops (5 - 1) (by decide) (w.heap.size + 1) (w.heap.size + 1 + 1) (KeepS (w.heap.size + 3) w.heap.size) (fun X Y h => ⟨h _ (by simp) (by simp), h _ (by show w.heap.size + 1 + 1 < w.heap.size + 3; omega) (by show w.heap.size + 1 + 1 ≠ w.heap.size; omega)⟩) A l.length c hc hl hm hA _ (by simp) (by simp) (cell_alloc_l _ c1.1) c2.1)
      (fun h k => h.trans k) (fun W k o o' hk ho hnc hnw p hp _ => by simp at hk; exact (Below.refl (w.heap.size + 3) W |>.grown (grownBy_putObj' W k o') (by have := (Array.getElem?_eq_some_iff.1 ho).1; omega) (fun k e => by cases e; omega)).cell hp)
      (Below.refl _ _) (fun _ => rfl)
      (fun pre W => (W.cell? ⟨w.heap.size, 0, none⟩ = some (.int .i64 (s + (sumOf l pre : Nat))) ∧ W.frozen? ⟨w.heap.size, 0, none⟩ = false) ∧ Below w.heap.size w W)
      (fun _ _ _ => False)
      (OwnFrom.and (Own.from (fun s A B row hs hg hr => ⟨cell_kept hs.1 hg hr, (frozen_kept hs.1 hg hr).trans hs.2⟩) _) (ownFrom_below (Nat.le_refl _) (by simp; omega)))
      (fun _ _ _ _ _ hs _ _ => hs)
      ⟨⟨by simpa [sumOf] using cell_alloc_l _ (cell_alloc_l _ c0.1), frozen_alloc_l _ (cell_alloc_l _ c0.1) (frozen_alloc_l _ c0.1 c0.2)⟩, hB0⟩
      (fun x => { tmps := #[.int .i64 s, .slice A l.length c, .pointer (some ⟨w.heap.size, 0, none⟩), undef, .int .i64 0, chunkV (A.getD ⟨0, 0, none⟩) l.length x.1, .int .i64 s, .int .i64 s, .int .i64 s, .slice A l.length c, .func (.func 84) #[] #[.pointer (some ⟨w.heap.size + 1, 0, none⟩), .pointer (some ⟨w.heap.size + 1 + 1, 0, none⟩)], chunkV (A.getD ⟨0, 0, none⟩) l.length x.1, undef, undef, undef, undef, undef], defers := [] }) ?assign ?body ?done ?stop
    case assign =>
      intro l x W K hK
      gi_wp2
      exact hK
    case body =>
      rintro L pre x W ⟨⟨hcb, hfb⟩, hB⟩ hlen
      have hle := sumOf_le l pre
      have hrow := row_chunk HR.out (W := W) (fun a v ha => cell_below hB ha) x.1 x.2
      have hpl := pairN_le (l.drop (2 * x.1))
      have hpos : 0 < ((l.drop (2 * x.1)).take 2).length := by rw [List.length_take, List.length_drop]; have := x.2; omega
      have hcall := pair_calls _ _ W.drew (show Row eU8 W.drew _ _ from hrow) hpos
      rw [pairN_take] at hcall
      generalize hSn : sumOf l pre = Sn at hcb hle
      generalize hPn : pairN (l.drop (2 * x.1)) = Pn at hcall hpl
      have hx2 := x.2
      generalize chunkV (A.getD ⟨0, 0, none⟩) l.length x.1 = cv at hcall ⊢
      have hw : IntKind.i64.wrap ((Sn : Int) + (Pn : Int)) = (Sn : Int) + (Pn : Int) := by rw [IntKind.wrap_i64]; omega
      have hw' : IntKind.i64.wrap (s + (Sn : Int) + (Pn : Int)) = s + (Sn : Int) + (Pn : Int) := by rw [IntKind.wrap_i64]; omega
      have hsn : sumOf l (pre ++ [x]) = Sn + Pn := by rw [sumOf_snoc, hSn, hPn]
      gi_wp2
      gi_region_with_o (refine ⟨trivial, ?_⟩; gi_at_call 74; refine (CallsIn.inRound L (callsIn_wide.2 hcall)).mono ?_; rintro e w' ⟨rfl, rfl⟩)
      all_goals gi_wp2
      all_goals
        refine ⟨(KeepsOthers.setCell _ _ _).trans (KeepsOthers.drew _), fun p _ h2 => World.cell?_setCell_other _ _ _ _ (fun e => h2 (by rw [← e])), ⟨?_, ?_⟩, below_drewN (hB.setCell (p := ⟨w.heap.size, 0, none⟩) (Nat.le_refl _) _) 1⟩
        · rw [hsn]
          refine (World.cell?_setCell_same' _ _ _ (by rw [hcb]; rfl)).trans ?_
          congr 2; omega
        · exact (World.frozen?_setCell _ _ _ _).trans hfb
    case done =>
      rintro D ys W hD ⟨k, hk1, hk2, rfl⟩ ⟨⟨hcb, hfb⟩, hB⟩ hK
      rw [sumOf_upto l _ k hk2, upTo_all l k hk1] at hcb
      gi_wp2
      refine ⟨by simp, .inl ⟨_, _, rfl, run_takeDeferred hK, ?_⟩⟩
      exact ⟨_, results_tmp rfl _ _ _, by rw [hz]; first | rfl | simp, hB.trans (belowK_b (w := w) (Nat.le_refl _) W D _ _ (by simp at hD; omega) hK rfl rfl)⟩
    case stop =>
      rintro D k pre W _ _ h _
      exact h.elim
end Go.Proofs.YtfoehgcamkmooaaDoor.Sums
