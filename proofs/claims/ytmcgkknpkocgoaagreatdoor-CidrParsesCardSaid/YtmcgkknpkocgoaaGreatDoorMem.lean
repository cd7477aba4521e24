/- Slices in memory, read as lists: the predicates that the contracts speak of, how they last, and the laws of append, slicing and conversion in their words. -/
import Derived.WalkKit
import Derived.ProofKit
import Derived.Deep.Draws
import Derived.Deep.AppendLies
import Derived.Below
import Derived.Laws.BytesArg
import Derived.Lib.AppendStr
import Derived.Lib.Hide
namespace Go.Proofs.YtmcgkknpkocgoaaGreatDoor.Mem
open Go.RowKit
set_option linter.unusedVariables false

/-- How an element lies in memory: its cells. -/
structure Enc (α : Type) where
  cells : α → List Value
  sz : Nat
  len : ∀ x, (cells x).length = sz
  one : ∀ x, ∀ u ∈ cells x, u.oneCell' = true
  pos : 0 < sz

def Enc.all {α : Type} (E : Enc α) (xs : List α) : List Value := xs.flatMap E.cells
theorem Enc.all_len {α : Type} (E : Enc α) (xs : List α) : (E.all xs).length = xs.length * E.sz := by
  induction xs with
  | nil => simp [Enc.all]
  | cons x xs ih => simp only [Enc.all, List.flatMap_cons, List.length_append, E.len, List.length_cons] at ih ⊢; rw [ih, Nat.succ_mul]; omega
theorem Enc.all_append {α : Type} (E : Enc α) (xs ys : List α) : E.all (xs ++ ys) = E.all xs ++ E.all ys := by simp [Enc.all]
theorem Enc.all_one {α : Type} (E : Enc α) (xs : List α) : ∀ u ∈ E.all xs, u.oneCell' = true := by
  intro u hu
  simp only [Enc.all, List.mem_flatMap] at hu
  obtain ⟨x, _, h⟩ := hu
  exact E.one x u h
theorem Enc.all_get {α : Type} (E : Enc α) (xs : List α) (i j : Nat) (hi : i < xs.length) (hj : j < E.sz) : (E.all xs)[i * E.sz + j]? = (E.cells xs[i])[j]? := by
  induction xs generalizing i with
  | nil => simp at hi
  | cons x xs ih =>
    simp only [Enc.all, List.flatMap_cons]
    cases i with
    | zero => rw [Nat.zero_mul, Nat.zero_add, List.getElem?_append_left (by rw [E.len]; exact hj)]; rfl
    | succ i =>
      rw [List.getElem?_append_right (by rw [E.len, Nat.succ_mul]; omega), E.len, show (i + 1) * E.sz + j - E.sz = i * E.sz + j by rw [Nat.succ_mul]; omega]
      exact ih i (by simpa using hi)
theorem Enc.all_take {α : Type} (E : Enc α) (xs : List α) (k : Nat) : E.all (xs.take k) = (E.all xs).take (k * E.sz) := by
  induction xs generalizing k with
  | nil => simp [Enc.all]
  | cons x xs ih =>
    cases k with
    | zero => simp [Enc.all]
    | succ k =>
      have h := ih k
      simp only [Enc.all, List.take_succ_cons, List.flatMap_cons] at h ⊢
      rw [h, List.take_append, E.len, show (k + 1) * E.sz - E.sz = k * E.sz by rw [Nat.succ_mul]; omega, List.take_of_length_le (l := E.cells x) (by rw [E.len, Nat.succ_mul]; omega)]
theorem Enc.all_drop {α : Type} (E : Enc α) (xs : List α) (k : Nat) : E.all (xs.drop k) = (E.all xs).drop (k * E.sz) := by
  induction xs generalizing k with
  | nil => simp [Enc.all]
  | cons x xs ih =>
    cases k with
    | zero => simp [Enc.all]
    | succ k =>
      have h := ih k
      simp only [Enc.all, List.drop_succ_cons, List.flatMap_cons] at h ⊢
      rw [h, List.drop_append, E.len, show (k + 1) * E.sz - E.sz = k * E.sz by rw [Nat.succ_mul]; omega, List.drop_of_length_le (l := E.cells x) (by rw [E.len, Nat.succ_mul]; omega), List.nil_append]

/-- An element of one cell. -/
def Enc.one1 {α : Type} (f : α → Value) (h : ∀ x, (f x).oneCell' = true) : Enc α :=
  ⟨fun x => [f x], 1, fun _ => rfl, fun x u hu => by simp at hu; subst hu; exact h x, by omega⟩
def eU8 : Enc UInt8 := .one1 (fun x => .int .u8 (x.toNat : Int)) (fun _ => rfl)
def eInt : Enc Int := .one1 (fun x => .int .i64 x) (fun _ => rfl)
def eBool : Enc Bool := .one1 (fun x => .bool x) (fun _ => rfl)
def eStr : Enc ByteArray := .one1 (fun x => .string x) (fun _ => rfl)
theorem all_one1 {α : Type} (f : α → Value) (h : ∀ x, (f x).oneCell' = true) (xs : List α) : (Enc.one1 f h).all xs = xs.map f := by
  induction xs with
  | nil => rfl
  | cons x xs ih => simp only [Enc.all, List.flatMap_cons, List.map_cons] at ih ⊢; rw [ih]; rfl

/-- v is a slice that reads, in w, as the list xs. -/
def Row {α : Type} (E : Enc α) (w : World) (v : Value) (xs : List α) : Prop :=
  ∃ A c, v = .slice A xs.length c ∧ xs.length ≤ c ∧ c ≤ maxLen ∧ (A = none → c = 0) ∧ ∀ ad, A = some ad → ∀ j u, (E.all xs)[j]? = some u → w.cell? (ad.add j) = some u

section
variable {α : Type} {E : Enc α} {w w1 : World} {v : Value} {xs : List α}
theorem Row.nil (E : Enc α) (w : World) : Row E w (.slice none 0 0) [] :=
  ⟨none, 0, rfl, Nat.le_refl _, by unfold maxLen; omega, fun _ => rfl, fun ad h => by cases h⟩

theorem cell_below {w w1 : World} (h : Below w.heap.size w w1) {a : Addr} {v : Value} (hc : w.cell? a = some v) : w1.cell? a = some v :=
  (h.cell (World.block_lt_of_cell? w a hc)).trans hc

theorem Row.below (h : Row E w v xs) (hb : Below w.heap.size w w1) : Row E w1 v xs := by
  obtain ⟨A, c, rfl, h1, h2, h3, h4⟩ := h
  exact ⟨A, c, rfl, h1, h2, h3, fun ad ha j u hu => cell_below hb (h4 ad ha j u hu)⟩
theorem Row.drewN (h : Row E w v xs) (n : Nat) : Row E (w.drewN n) v xs := h
theorem Row.alloc (h : Row E w v xs) (o : Obj) : Row E (w.alloc o) v xs := h.below ((Below.refl _ _).alloc (Nat.le_refl _) o)

/-- Out of a row: its parts, as a walk wants them. -/
theorem Row.parts (h : Row E w v xs) :
    ∃ A c, v = .slice A xs.length c ∧ xs.length ≤ c ∧ c ≤ 9223372036854775807 ∧ Row E w (.slice A xs.length c) xs := by
  obtain ⟨A, c, rfl, h1, h2, h3⟩ := h
  exact ⟨A, c, rfl, h1, by unfold maxLen at h2; omega, A, c, rfl, h1, h2, h3⟩
theorem Row.len {A : Option Addr} {n c : Nat} (h : Row E w (.slice A n c) xs) : n = xs.length := by
  obtain ⟨A', c', he, _⟩ := h
  cases he; rfl
theorem Row.cap {A : Option Addr} {n c : Nat} (h : Row E w (.slice A n c) xs) : xs.length ≤ c ∧ c ≤ maxLen ∧ (A = none → c = 0) := by
  obtain ⟨A', c', he, h1, h2, h3, _⟩ := h
  cases he; exact ⟨h1, h2, h3⟩
theorem Row.cells {A : Option Addr} {n c : Nat} (h : Row E w (.slice A n c) xs) : ∀ ad, A = some ad → ∀ j u, (E.all xs)[j]? = some u → w.cell? (ad.add j) = some u := by
  obtain ⟨A', c', he, h1, h2, h3, h4⟩ := h
  cases he; exact h4
/-- A cell of element k. -/
theorem Row.at {A : Option Addr} {n c : Nat} (h : Row E w (.slice A n c) xs) {k : Nat} (hk : k < xs.length) :
    ∃ ad, A = some ad ∧ ∀ j, j < E.sz → w.cell? (ad.add (k * E.sz + j)) = (E.cells xs[k])[j]? := by
  have hc := h.cap
  cases A with
  | none => have := hc.2.2 rfl; omega
  | some ad =>
    refine ⟨ad, rfl, fun j hj => ?_⟩
    have he : (E.all xs)[k * E.sz + j]? = some ((E.cells xs[k])[j]'(by rw [E.len]; exact hj)) := by
      rw [E.all_get xs k j hk hj, List.getElem?_eq_getElem (by rw [E.len]; exact hj)]
    rw [h.cells ad rfl _ _ he, List.getElem?_eq_getElem (by rw [E.len]; exact hj)]
end

/-- A cell of element k, where an element is one cell. -/
theorem Row.at1 {α : Type} {f : α → Value} {hf : ∀ x, (f x).oneCell' = true} {w : World} {xs : List α} {A : Option Addr} {n c : Nat} (h : Row (Enc.one1 f hf) w (.slice A n c) xs) {k : Nat} (hk : k < xs.length) :
    ∃ ad, A = some ad ∧ w.cell? (ad.add k) = some (f xs[k]) := by
  obtain ⟨ad, ha, hc⟩ := h.at hk
  refine ⟨ad, ha, ?_⟩
  have := hc 0 (Enc.one1 f hf).pos
  simpa [Enc.one1] using this
theorem Row.atU8 {w : World} {xs : List UInt8} {A : Option Addr} {n c : Nat} (h : Row eU8 w (.slice A n c) xs) {k : Nat} (hk : k < xs.length) :
    ∃ ad, A = some ad ∧ w.cell? (ad.add k) = some (.int .u8 (xs[k].toNat : Int)) := h.at1 hk
theorem Row.atInt {w : World} {xs : List Int} {A : Option Addr} {n c : Nat} (h : Row eInt w (.slice A n c) xs) {k : Nat} (hk : k < xs.length) :
    ∃ ad, A = some ad ∧ w.cell? (ad.add k) = some (.int .i64 xs[k]) := h.at1 hk

theorem add_zero (g j : Nat) : (⟨g, 0, none⟩ : Addr).add j = ⟨g, j, none⟩ := by unfold Addr.add; split <;> simp_all
/-- .. of a slice that begins at its block's head. -/
theorem Row.at0 {α : Type} {f : α → Value} {hf : ∀ x, (f x).oneCell' = true} {w : World} {xs : List α} {g n c : Nat} (h : Row (Enc.one1 f hf) w (.slice (some ⟨g, 0, none⟩) n c) xs) {k : Nat} (hk : k < xs.length) :
    w.cell? ⟨g, k, none⟩ = some (f xs[k]) := by
  obtain ⟨ad, ha, hc⟩ := h.at1 hk
  cases ha
  rwa [add_zero] at hc

/-- v is a slice of the call's own, from block base on, that holds the list xs: nobody else has its block. -/
def Own {α : Type} (E : Enc α) (e : TypeId) (base : Nat) (w : World) (v : Value) (xs : List α) : Prop := w.ownsRow base e E.sz v xs.length (E.all xs)

section
variable {α : Type} {E : Enc α} {e : TypeId} {base : Nat} {w w1 : World} {v : Value} {xs : List α}
theorem Own.nil (E : Enc α) (e : TypeId) (base : Nat) (w : World) : Own E e base w (.slice none 0 0) [] := World.ownsRow_nil w base e E.sz
theorem Own.row (h : Own E e base w v xs) : Row E w v xs := by
  obtain ⟨h1, h2⟩ := h
  rcases h2 with ⟨rfl, h0⟩ | ⟨g, cap, cur, rfl, hg, hh, hn, hm, hs, ht⟩
  · have : xs = [] := List.eq_nil_of_length_eq_zero h0
    subst this; exact Row.nil _ _
  · refine ⟨_, cap, rfl, hn, hm, by simp, fun ad ha j u hu => ?_⟩
    cases ha
    exact World.ownsRow.cells (w := w) (base := base) (e := e) (size := E.sz) (n := xs.length) (v := .slice (some ⟨g, 0, none⟩) xs.length cap) ⟨h1, .inr ⟨g, cap, cur, rfl, hg, hh, hn, hm, hs, ht⟩⟩ rfl j u hu
theorem Own.lower (h : Own E e base w v xs) {b : Nat} (hb : b ≤ base) : Own E e b w v xs := by
  obtain ⟨h1, h2⟩ := h
  refine ⟨h1, ?_⟩
  rcases h2 with h2 | ⟨g, cap, cur, he, hg, h3⟩
  · exact .inl h2
  · exact .inr ⟨g, cap, cur, he, Nat.le_trans hb hg, h3⟩
theorem Own.kept (h : Own E e base w v xs) {row : Option Nat} (hg : w.grownBy w1 row) (hne : v.ownBlock = none ∨ v.ownBlock ≠ row) : Own E e base w1 v xs := World.ownsRow.kept h hg hne
theorem Own.below (h : Own E e base w v xs) (hb : Below w.heap.size w w1) : Own E e base w1 v xs :=
  World.ownsRow.kept (row := none) h ⟨hb.os, hb.tape, hb.output, hb.size, fun k hk _ => hb.block k hk⟩ (by cases hv : v.ownBlock <;> simp)
theorem Own.alloc (h : Own E e base w v xs) (o : Obj) : Own E e base (w.alloc o) v xs := World.ownsRow.alloc h o
theorem Own.drewN (h : Own E e base w v xs) (n : Nat) : Own E e base (w.drewN n) v xs := h
theorem Own.block (h : Own E e base w v xs) : ∀ k, v.ownBlock = some k → base ≤ k ∧ k < w.heap.size := World.ownsRow.lt h
/-- A literal, or what 'append' lays down first: a new block, its cells written out. -/
theorem Own.lit (w : World) (base : Nat) (E : Enc α) (e : TypeId) (xs : List α) (n : Nat) (hn : n = xs.length) (cs : Array Value) (hcs : cs = (E.all xs).toArray) (hb : base ≤ w.heap.size) (hm : xs.length ≤ 9223372036854775807) :
    Own E e base (w.alloc (.cells cs e)) (.slice (some ⟨w.heap.size, 0, none⟩) n n) xs := by
  subst hcs; subst hn
  have h := World.ownsRow_lit (base := base) (e := e) (size := E.sz) w (E.all xs).toArray xs.length hb (by unfold maxLen; omega) (by simpa using E.all_len xs)
  simpa [Own] using h
end

section
variable {P : Program} {ops : Array Oper} {rest : List Oper} {o : Oper} {a : Act} {Q : Exit → Act → World → Prop} {α : Type} {E : Enc α}
/-- What 'append' does to a slice of the call's own. -/
theorem run_append (base : Nat) (t ty e : TypeId) (z : Value) (bytes : Nat) (ht : P.underlying t = some (.slice e)) (hinfo : (P.info? e).map (fun i => (i.zero, i.size, i.bytes)) = some (some z, E.sz, bytes)) (hz : z.cells.size = E.sz) (hb0 : 0 < bytes)
    (W : World) (v sv : Value) (xs ys : List α) (HO : Own E e base W v xs) (HS : Row E W sv ys) (hbase : base ≤ W.heap.size) (hl : (xs.length + ys.length) * bytes ≤ 140737488355328) :
    ∃ v1 w1, (Builtin.append_ #[t, t] ty #[v, sv]).run P W = .ok v1 w1 ∧ Own E e base w1 v1 (xs ++ ys) ∧ W.grownBy w1 v.ownBlock ∧ (v1.ownBlock = v.ownBlock ∨ v1.ownBlock = some W.heap.size) := by
  obtain ⟨i0, hi, hzz⟩ := Option.map_eq_some_iff.1 hinfo
  simp only [Prod.mk.injEq] at hzz
  obtain ⟨hz0, hz1, hz2⟩ := hzz
  have hlen : xs.length + ys.length ≤ 140737488355328 := Nat.le_trans (Nat.le_mul_of_pos_right _ hb0) hl
  obtain ⟨A, c, rfl, h1, h2, h3, h4⟩ := HS
  cases A with
  | none =>
    have := h3 rfl
    subst this
    have h0 : ys = [] := List.eq_nil_of_length_eq_zero (by omega)
    subst h0
    refine ⟨v, W, run_append_owned_none (P := P) W base t ty e i0 E.sz ht hi v _ _ HO, by simpa using HO, World.grownBy.refl W _, .inl rfl⟩
  | some ad =>
    obtain ⟨v1, w1, hr, hown, hg, _, hat⟩ := run_append_own_at (P := P) W base t ty e i0 z E.sz bytes ht hi hz0 hz1 hz2 hz E.pos v xs.length (E.all xs) HO ad ys.length c (E.all ys) (E.all_len ys) (h4 ad rfl) (E.all_one ys) (by unfold maxLen; omega) hl hbase
    refine ⟨v1, w1, hr, ?_, hg, hat⟩
    unfold Own
    rw [List.length_append, E.all_append]
    exact hown
/-- 'append' in a walk. -/
theorem wp_append (base : Nat) (hgd : o.guard = none) (s x : Operand) (t e : TypeId) (z : Value) (bytes : Nat)
    (ho : o.op = .call { callee := .builtin .append, args := #[s, x], argTypes := #[t, t] })
    (ht : P.underlying t = some (.slice e)) (hinfo : (P.info? e).map (fun i => (i.zero, i.size, i.bytes)) = some (some z, E.sz, bytes)) (hz : z.cells.size = E.sz) (hb0 : 0 < bytes)
    {W : World} (v sv : Value) (xs ys : List α) (hs : a.eval s = v) (hx : a.eval x = sv)
    (HO : Own E e base W v xs) (HS : Row E W sv ys) (hbase : base ≤ W.heap.size) (hl : (xs.length + ys.length) * bytes ≤ 140737488355328)
    (h : ∀ v1 w1, Own E e base w1 v1 (xs ++ ys) → W.grownBy w1 v.ownBlock → (v1.ownBlock = v.ownBlock ∨ v1.ownBlock = some W.heap.size) → wpList P ops Q rest (a.put o.dst v1) w1) :
    wpList P ops Q (o :: rest) a W := by
  obtain ⟨v1, w1, hr, h1, h2, h3⟩ := run_append base t o.type e z bytes ht hinfo hz hb0 W v sv xs ys HO HS hbase hl
  refine wpList_plain hgd fun K hK => ?_
  unfold Oper.wp execOp
  simp only [ho, resolve, invoke, builtin, Sem.run_bind, Sem.run_pure, Result.andThen_ok, List.map_toArray, List.map_cons, List.map_nil, hs, hx, hr]
  exact hK _ _ (h v1 w1 h1 h2 h3)
end

theorem below_of_grown {w w1 : World} (h : w.grownBy w1 none) : Below w.heap.size w w1 := ⟨h.os, h.tape, h.output, h.size, fun k hk => h.block k hk (by simp)⟩
theorem below_of_grown_new {B : Nat} {w0 w w1 : World} {row : Option Nat} (hb : Below B w0 w) (hB : B ≤ w.heap.size) (h : w.grownBy w1 row) (hr : ∀ k, row = some k → B ≤ k) : Below B w0 w1 := hb.grown h hB hr
section
variable {P : Program} {ops : Array Oper} {rest : List Oper} {o : Oper} {a : Act} {Q : Exit → Act → World → Prop} {α : Type} {E : Enc α}
/-- 'append' within the capacity. -/
theorem wp_append_fits (base : Nat) (hgd : o.guard = none) (s x : Operand) (t e : TypeId) (z : Option Value) (bytes : Nat)
    (ho : o.op = .call { callee := .builtin .append, args := #[s, x], argTypes := #[t, t] })
    (ht : P.underlying t = some (.slice e)) (hinfo : (P.info? e).map (fun i => (i.zero, i.size, i.bytes)) = some (z, E.sz, bytes))
    {W : World} (g n cap : Nat) (sv : Value) (xs ys : List α) (hs : a.eval s = .slice (some ⟨g, 0, none⟩) n cap) (hx : a.eval x = sv) (hn : n = xs.length)
    (HO : Own E e base W (.slice (some ⟨g, 0, none⟩) n cap) xs) (HS : Row E W sv ys) (hroom : xs.length + ys.length ≤ cap)
    (h : ∀ w1, Own E e base w1 (.slice (some ⟨g, 0, none⟩) (xs ++ ys).length cap) (xs ++ ys) → W.grownBy w1 (some g) → wpList P ops Q rest (a.put o.dst (.slice (some ⟨g, 0, none⟩) (xs.length + ys.length) cap)) w1) :
    wpList P ops Q (o :: rest) a W := by
  subst hn
  obtain ⟨i0, hi, hzz⟩ := Option.map_eq_some_iff.1 hinfo
  simp only [Prod.mk.injEq] at hzz
  obtain ⟨A, c, rfl, h1, h2, h3, h4⟩ := HS
  refine wpList_append_fits_any W hgd s x t ho base e i0 E.sz ht hi hzz.2.1 g xs.length cap (E.all xs) hs HO A ys.length c (E.all ys) hx (E.all_len ys) (fun h0 => ⟨by have := h3 h0; omega, h3 h0⟩) h4 (E.all_one ys) hroom fun w1 ho1 hg1 => h w1 ?_ hg1
  unfold Own
  rw [List.length_append, E.all_append]
  exact ho1
end
/-- An owned slice that is as long as its block: the block, written out. -/
theorem Own.full {α : Type} {E : Enc α} {e : TypeId} {base g n cap : Nat} {w : World} {xs : List α} (h : Own E e base w (.slice (some ⟨g, 0, none⟩) n cap) xs) (hn : cap = xs.length) : w.heap[g]? = some (.cells (E.all xs).toArray e (0, 0)) ∧ base ≤ g := by
  subst hn
  obtain ⟨h1, h2⟩ := h
  rcases h2 with ⟨h2, _⟩ | ⟨g', cap', cur, he, hg, hh, hn, hm, hs, ht⟩
  · cases h2
  · cases he
    refine ⟨?_, hg⟩
    rw [hh, ← ht, List.take_of_length_le (by rw [Array.length_toList]; omega)]

/-! Cutting. -/
theorem add_add (ad : Addr) (i j : Nat) : (ad.add i).add j = ad.add (i + j) := by
  unfold Addr.add
  by_cases h1 : i = 0 <;> by_cases h2 : j = 0 <;> simp [h1, h2, Nat.add_assoc]
section
variable {P : Program} {α : Type} {E : Enc α}
/-- 'xs[lo:hi]', lo or hi may be left out: what the walk meets, under one name, and what it reads as. -/
theorem run_cut (t e : TypeId) (ht : P.underlying t = some (.slice e)) {z : Option Value} {bytes : Nat} (hinfo : (P.info? e).map (fun i => (i.zero, i.size, i.bytes)) = some (z, E.sz, bytes)) (A : Option Addr) (n c lo hi : Nat) (h1 : lo ≤ hi) (h2 : hi ≤ c) (hn : A = none → c = 0) :
    ∃ A', (∀ W kl kh, (Instr.slice t (.slice A n c) (some (.int kl (lo : Int))) (some (.int kh (hi : Int))) none).run P W = .ok (.slice A' (hi - lo) (c - lo)) W) ∧
      (lo = 0 → ∀ W kh, (Instr.slice t (.slice A n c) none (some (.int kh (hi : Int))) none).run P W = .ok (.slice A' (hi - lo) (c - lo)) W) ∧
      (hi = n → ∀ W kl, (Instr.slice t (.slice A n c) (some (.int kl (lo : Int))) none none).run P W = .ok (.slice A' (hi - lo) (c - lo)) W) ∧
      (A' = none → c - lo = 0) ∧ (∀ ad, A' = some ad → ∃ a0, A = some a0 ∧ (lo < c → ad = a0.add (lo * E.sz))) := by
  obtain ⟨i, hi', hzz⟩ := Option.map_eq_some_iff.1 hinfo
  simp only [Prod.mk.injEq] at hzz
  obtain ⟨_, hsz, _⟩ := hzz
  have hel : P.elem t = e := by simp [Program.elem, ht]
  have hu : P.underlying t = some (.slice (P.elem t)) := by rw [hel]; exact ht
  refine ⟨if c = lo then A else A.map (·.add (lo * E.sz)), fun W kl kh => ?_, fun h0 W kh => ?_, fun h0 W kl => ?_, fun h => ?_, fun ad h => ?_⟩
  · rw [run_slice_lh W t A n c hu kl kh lo hi (by omega) (by omega) (by omega), hel]
    simp [sizeOf, typeInfo, hi', hsz, sliced, Result.andThen]
  · subst h0
    rw [run_slice_h W t A n c hu kh hi (by omega) (by omega), hel]
    simp [sizeOf, typeInfo, hi', hsz, sliced, Result.andThen]
  · subst h0
    rw [run_slice_l W t A hi c hu kl lo (by omega) (by omega), hel]
    simp [sizeOf, typeInfo, hi', hsz, sliced, Result.andThen]
  · by_cases hc : c = lo
    · omega
    · rw [if_neg hc] at h
      cases A with
      | none => have := hn rfl; omega
      | some a0 => simp at h
  · by_cases hc : c = lo
    · rw [if_pos hc] at h
      exact ⟨ad, h, fun hh => by omega⟩
    · rw [if_neg hc] at h
      cases A with
      | none => simp at h
      | some a0 => simp at h; exact ⟨a0, rfl, fun _ => h.symm⟩
/-- 'xs[lo:hi:hi]'. -/
theorem run_cut3 (t e : TypeId) (ht : P.underlying t = some (.slice e)) {z : Option Value} {sz bytes : Nat} (hinfo : (P.info? e).map (fun i => (i.zero, i.size, i.bytes)) = some (z, sz, bytes)) (A : Option Addr) (n c lo hi : Nat) (h1 : lo < hi) (h2 : hi ≤ c) (W : World) (kl kh km : IntKind) :
    (Instr.slice t (.slice A n c) (some (.int kl (lo : Int))) (some (.int kh (hi : Int))) (some (.int km (hi : Int)))).run P W = .ok (.slice (A.map (·.add (lo * sz))) (hi - lo) (hi - lo)) W := by
  obtain ⟨i, hi', hzz⟩ := Option.map_eq_some_iff.1 hinfo
  simp only [Prod.mk.injEq] at hzz
  obtain ⟨_, hsz, _⟩ := hzz
  have hel : P.elem t = e := by simp [Program.elem, ht]
  have hu : P.underlying t = some (.slice (P.elem t)) := by rw [hel]; exact ht
  rw [run_slice_lhm W t A n c hu kl kh km lo hi hi (by omega) (by omega) (by omega) (by omega), hel]
  simp [sizeOf, typeInfo, hi', hsz, sliced, Result.andThen]
  omega
/-- 'xs[lo:hi]' of a row is a row. -/
theorem Row.cut {w : World} {xs : List α} (t e : TypeId) (ht : P.underlying t = some (.slice e)) {z : Option Value} {bytes : Nat} (hinfo : (P.info? e).map (fun i => (i.zero, i.size, i.bytes)) = some (z, E.sz, bytes)) {A : Option Addr} {n c : Nat} (h : Row E w (.slice A n c) xs) (lo hi : Nat) (h1 : lo ≤ hi) (h2 : hi ≤ xs.length) :
    ∃ A', (∀ W kl kh, (Instr.slice t (.slice A n c) (some (.int kl (lo : Int))) (some (.int kh (hi : Int))) none).run P W = .ok (.slice A' (hi - lo) (c - lo)) W) ∧
      (lo = 0 → ∀ W kh, (Instr.slice t (.slice A n c) none (some (.int kh (hi : Int))) none).run P W = .ok (.slice A' (hi - lo) (c - lo)) W) ∧
      (hi = n → ∀ W kl, (Instr.slice t (.slice A n c) (some (.int kl (lo : Int))) none none).run P W = .ok (.slice A' (hi - lo) (c - lo)) W) ∧
      (∀ w', (∀ a v, w.cell? a = some v → w'.cell? a = some v) → Row E w' (.slice A' (hi - lo) (c - lo)) ((xs.take hi).drop lo)) := by
  have hc := h.cap
  have hcl := h.cells
  obtain ⟨A', r1, r2, r3, r4, r5⟩ := run_cut (P := P) (E := E) t e ht hinfo A n c lo hi h1 (by omega) hc.2.2
  refine ⟨A', r1, r2, r3, fun w' hw => ?_⟩
  have hl : ((xs.take hi).drop lo).length = hi - lo := by rw [List.length_drop, List.length_take]; omega
  refine ⟨A', c - lo, by rw [hl], by rw [hl]; omega, by have := hc.2.1; omega, r4, fun ad had j u hu => ?_⟩
  obtain ⟨a0, ha0, hadd⟩ := r5 ad had
  rw [E.all_drop, E.all_take, List.getElem?_drop, List.getElem?_take] at hu
  split at hu
  · rename_i hlt
    have hlo : lo < c := by
      rcases Nat.lt_or_ge lo c with h' | h'
      · exact h'
      · have h6 : hi = lo := by omega
        rw [h6] at hlt; omega
    rw [hadd hlo, add_add]
    exact hw _ _ (hcl a0 ha0 _ _ hu)
  · cases hu
end

theorem below_drewN {B : Nat} {a w : World} (h : Below B a w) (n : Nat) : Below B a (w.drewN n) := ⟨h.os, h.tape, h.output, h.size, h.block⟩
/-- What came after, from what was there then on. -/
theorem below_then {B : Nat} {w w1 w2 : World} (h : Below B w w1) (k : Below w1.heap.size w1 w2) (hB : B ≤ w1.heap.size) : Below B w w2 := h.trans (k.mono hB)
theorem below_next {w w1 w2 : World} (h : Below w.heap.size w w1) (k : Below w1.heap.size w1 w2) : Below w.heap.size w w2 := h.trans (k.mono h.size)
theorem below_app {α : Type} {E : Enc α} {e : TypeId} {B : Nat} {w W w1 : World} {v : Value} {xs : List α} (h : Below B w W) (hB : B ≤ W.heap.size) (HO : Own E e B W v xs) (hg : W.grownBy w1 v.ownBlock) : Below B w w1 := h.grown hg hB fun k hk => (HO.block k hk).1
theorem size_alloc_le {w W : World} (h : Below w.heap.size w W) (o : Obj) : w.heap.size ≤ (W.alloc o).heap.size := by have := h.size; simp; omega
/-! Bytes as a string. -/
abbrev str (l : List UInt8) : ByteArray := ByteArray.mk l.toArray
theorem Row.conv {P : Program} {w : World} {l : List UInt8} {A : Option Addr} {n c : Nat} {src dst e : TypeId} (hs : P.underlying src = some (.slice e)) (he : P.underlying e = some (.int .u8)) (hd : P.underlying dst = some .string)
    (h : Row eU8 w (.slice A n c) l) : (convert src dst (.slice A n c)).run P w = .ok (.string (str l)) w := by
  have hn := h.len
  subst hn
  have hc := h.cap
  have hcl := h.cells
  have hall : eU8.all l = (l.map fun x => (x.toNat : Int)).map (Value.int .u8) := (all_one1 (fun x : UInt8 => Value.int .u8 (x.toNat : Int)) (fun _ => rfl) l).trans (by simp)
  cases A with
  | none =>
    have h0 := hc.2.2 rfl
    subst h0
    have : l = [] := List.eq_nil_of_length_eq_zero (by omega)
    subst this
    exact run_convert_bytes_nil w src e hs he 0 0 dst hd
  | some ad =>
    have hl : (loadCells ad l.length).run P w = .ok ((l.map fun x => (x.toNat : Int)).map (Value.int .u8)).toArray w := by
      have := run_loadCells_list (P := P) w ad (eU8.all l) (hcl ad rfl)
      rw [eU8.all_len, hall] at this
      simpa [eU8, Enc.one1] using this
    rw [run_convert_bytes_string w src dst e _ _ c hs he hd, run_bytesToString w ad _ c _ hl, foldl_push_bytes]
    have hm : (l.map fun x => (x.toNat : Int)).map (fun n => UInt8.ofNat n.toNat) = l := by
      rw [List.map_map]
      conv => rhs; rw [← List.map_id l]
      apply List.map_congr_left
      intro x _
      simp
    rw [hm]
    simp [ByteArray.empty, ByteArray.emptyWithCapacity]
    rfl

/-- A store into a slice of the call's own. -/
theorem Own.stored {α : Type} {f : α → Value} {hf : ∀ x, (f x).oneCell' = true} {e : TypeId} {base g n cap : Nat} {w : World} {xs : List α} (h : Own (Enc.one1 f hf) e base w (.slice (some ⟨g, 0, none⟩) n cap) xs) (k : Nat) (x : α) :
    Own (Enc.one1 f hf) e base (w.setCell ⟨g, k, none⟩ (f x)) (.slice (some ⟨g, 0, none⟩) n cap) (xs.set k x) := by
  have hn : n = xs.length := (h.row).len
  subst hn
  have := (World.ownsRow.stored h k (f x)).1
  unfold Own
  rw [List.length_set]
  have he : (Enc.one1 f hf).all (xs.set k x) = ((Enc.one1 f hf).all xs).set k (f x) := by rw [all_one1, all_one1, List.map_set]
  rw [he]
  exact this
theorem Own.unfrozen {α : Type} {E : Enc α} {e : TypeId} {base g n cap : Nat} {w : World} {xs : List α} (h : Own E e base w (.slice (some ⟨g, 0, none⟩) n cap) xs) (k : Nat) : w.frozen? ⟨g, k, none⟩ = false := by
  have hn : n = xs.length := (h.row).len
  subst hn
  exact World.ownsRow.frozenAt h k
/-- make([]T, n), n a variable. -/
theorem Own.made {α : Type} {f : α → Value} {hf : ∀ x, (f x).oneCell' = true} {e : TypeId} {base : Nat} {w w' : World} (z : α) (n : Nat) (v : Value) (h : w'.ownsRow base e 1 v n (madeCells (f z).cells (n * 1)).toList) (hz : (f z).cells = #[f z]) : Own (Enc.one1 f hf) e base w' v (List.replicate n z) := by
  unfold Own
  rw [List.length_replicate, all_one1, List.map_replicate]
  rw [Nat.mul_one, hz, toList_madeCells_one] at h
  exact h
/-- 'append(b, s...)', s a string. -/
theorem wp_append_str {P : Program} {ops : Array Oper} {rest : List Oper} {o : Oper} {a : Act} {Q : Exit → Act → World → Prop} (base : Nat) (hgd : o.guard = none) (s x : Operand) (t u e : TypeId)
    (ho : o.op = .call { callee := .builtin .append, args := #[s, x], argTypes := #[t, u] })
    (ht : P.underlying t = some (.slice e)) (hu : P.underlying u = some .string) (hinfo : (P.info? e).map (fun i => (i.zero, i.size, i.bytes)) = some (some (.int .u8 0), 1, 1))
    {W : World} (v : Value) (xs : List UInt8) (y : ByteArray) (hs : a.eval s = v) (hx : a.eval x = .string y)
    (HO : Own eU8 e base W v xs) (hbase : base ≤ W.heap.size) (hl : xs.length + y.size ≤ 140737488355328)
    (h : ∀ v1 w1, Own eU8 e base w1 v1 (xs ++ y.toList) → W.grownBy w1 v.ownBlock → wpList P ops Q rest (a.put o.dst v1) w1) :
    wpList P ops Q (o :: rest) a W := by
  obtain ⟨i0, hi, hzz⟩ := Option.map_eq_some_iff.1 hinfo
  simp only [Prod.mk.injEq] at hzz
  obtain ⟨hz0, hz1, hz2⟩ := hzz
  refine Lib.wpList_append_own_string (w := W) hgd s x t u ho base e i0 ht hu hi hz0 hz1 hz2 v xs.length (eU8.all xs) hs HO y hx (by unfold maxLen; omega) hl hbase fun v1 w1 h1 h2 _ => h v1 w1 ?_ h2
  rw [ByteArray.toList_eq]
  have hy : y.data.toList.length = y.size := by rw [Array.length_toList]; rfl
  have hall : ∀ l : List UInt8, eU8.all l = l.map (fun x => Value.int .u8 (x.toNat : Int)) := fun l => all_one1 _ _ l
  have hsc : Lib.strCells y = eU8.all y.data.toList := by rw [hall]; rfl
  unfold Own
  rw [List.length_append, hy, eU8.all_append, ← hsc]
  exact h1

/-! What a law's argument reads as. -/
def IsRow (k : IntKind) (w : World) (a : Option Addr) (len cap : Nat) (zs : List Int) : Prop :=
  (a = none ∧ len = 0 ∧ cap = 0 ∧ zs = []) ∨
  ∃ x, a = some x ∧ len ≤ cap ∧ cap ≤ maxLen ∧ zs.length = cap ∧ (∀ i, i < zs.length → w.cell? (x.add i) = some (.int k (zs.getD i 0))) ∧ ∀ n ∈ zs, (Lit.int k n).wf = true
theorem IsRow.u8 {w : World} {a : Option Addr} {len cap : Nat} {zs : List Int} (h : IsRow .u8 w a len cap zs) : ∃ l, Row eU8 w (.slice a len cap) l := by
  rcases h with ⟨rfl, rfl, rfl, rfl⟩ | ⟨x, rfl, h1, h2, h3, h4, h5⟩
  · exact ⟨[], Row.nil _ _⟩
  · have hl : ((zs.take len).map fun n => UInt8.ofNat n.toNat).length = len := by rw [List.length_map, List.length_take]; omega
    refine ⟨(zs.take len).map fun n => UInt8.ofNat n.toNat, some x, cap, by rw [hl], by rw [hl]; exact h1, h2, by simp, fun ad had j u hu => ?_⟩
    cases had
    have hall : eU8.all ((zs.take len).map fun n => UInt8.ofNat n.toNat) = ((zs.take len).map fun n => UInt8.ofNat n.toNat).map (fun x => Value.int .u8 (x.toNat : Int)) := all_one1 _ _ _
    rw [hall] at hu
    simp only [List.getElem?_map, Option.map_map] at hu
    rw [Option.map_eq_some_iff] at hu
    obtain ⟨z, hz, rfl⟩ := hu
    have hj : j < len := by have := (List.getElem?_eq_some_iff.1 hz).1; rw [List.length_take] at this; omega
    rw [List.getElem?_take, if_pos hj] at hz
    have hjz : j < zs.length := by omega
    rw [h4 j hjz, List.getD_eq_getElem?_getD, hz]
    have hw := h5 z (List.mem_of_getElem? hz)
    simp [Lit.wf, IntKind.min, IntKind.max, IntKind.signed, IntKind.bits] at hw
    simp only [Option.getD_some, Function.comp]
    rw [UInt8.toNat_ofNat_of_lt' (show z.toNat < 256 by omega), Int.toNat_of_nonneg hw.1]
theorem IsRow.i64 {w : World} {a : Option Addr} {len cap : Nat} {zs : List Int} (h : IsRow .i64 w a len cap zs) : ∃ l, Row eInt w (.slice a len cap) l ∧ ∀ x ∈ l, (Lit.int .i64 x).wf = true := by
  rcases h with ⟨rfl, rfl, rfl, rfl⟩ | ⟨x, rfl, h1, h2, h3, h4, h5⟩
  · exact ⟨[], Row.nil _ _, by simp⟩
  · have hl : (zs.take len).length = len := by rw [List.length_take]; omega
    refine ⟨zs.take len, ⟨some x, cap, by rw [hl], by rw [hl]; exact h1, h2, by simp, fun ad had j u hu => ?_⟩, fun n hn => h5 n (List.mem_of_mem_take hn)⟩
    cases had
    have hall : eInt.all (zs.take len) = (zs.take len).map (fun x => Value.int .i64 x) := all_one1 _ _ _
    rw [hall] at hu
    simp only [List.getElem?_map] at hu
    rw [Option.map_eq_some_iff] at hu
    obtain ⟨z, hz, rfl⟩ := hu
    have hj : j < len := by have := (List.getElem?_eq_some_iff.1 hz).1; rw [List.length_take] at this; omega
    rw [List.getElem?_take, if_pos hj] at hz
    have hjz : j < zs.length := by omega
    rw [h4 j hjz, List.getD_eq_getElem?_getD, hz]
    rfl
theorem Row.conv' {P : Program} {w : World} {l : List UInt8} {v : Value} {src dst e : TypeId} (hs : P.underlying src = some (.slice e)) (he : P.underlying e = some (.int .u8)) (hd : P.underlying dst = some .string)
    (h : Row eU8 w v l) : (convert src dst v).run P w = .ok (.string (str l)) w := by
  obtain ⟨A, c, rfl, _, _, h'⟩ := h.parts
  exact h'.conv hs he hd
end Go.Proofs.YtmcgkknpkocgoaaGreatDoor.Mem
