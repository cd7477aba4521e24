/- octets.Cursor: what it reads, where nothing is wrong. -/
import Derived.Test.YtmpdcdfnbkfabaaDoorOctets
import Derived.Test.YtmpdcdfnbkfabaaDoorAlt
import Derived.Lib.LazyBuf
namespace Go.Proofs.YtmpdcdfnbkfabaaDoor.Octets
open Go.RowKit Go.Proofs.YtmpdcdfnbkfabaaDoor.Mem Go.Proofs.YtmpdcdfnbkfabaaDoor.Err Go.Proofs.YtmpdcdfnbkfabaaDoor.Num
set_option linter.unusedVariables false
set_option linter.unusedSimpArgs false
set_option maxRecDepth 100000
attribute [-go_sem] Builtin.append_
/-- 'xs[lo:hi:hi]' of a row. -/
theorem row_cut3 {P : Program} {α : Type} {E : Enc α} {w : World} {xs : List α} (t e : TypeId) (ht : P.underlying t = some (.slice e)) {z : Option Value} {bytes : Nat} (hinfo : (P.info? e).map (fun i => (i.zero, i.size, i.bytes)) = some (z, E.sz, bytes)) {ad : Addr} {n c : Nat} (h : Row E w (.slice (some ad) n c) xs) (lo hi : Nat) (h1 : lo < hi) (h2 : hi ≤ xs.length) :
    (∀ W kl kh km, (Instr.slice t (.slice (some ad) n c) (some (.int kl (lo : Int))) (some (.int kh (hi : Int))) (some (.int km (hi : Int)))).run P W = .ok (.slice (some (ad.add (lo * E.sz))) (hi - lo) (hi - lo)) W) ∧
      Row E w (.slice (some (ad.add (lo * E.sz))) (hi - lo) (hi - lo)) ((xs.take hi).drop lo) := by
  have hc := h.cap
  have hcl := h.cells
  refine ⟨fun W kl kh km => run_cut3 (P := P) t e ht hinfo (some ad) n c lo hi h1 (by omega) W kl kh km, ?_⟩
  have hl : ((xs.take hi).drop lo).length = hi - lo := by rw [List.length_drop, List.length_take]; omega
  refine ⟨some (ad.add (lo * E.sz)), hi - lo, by rw [hl], by rw [hl]; omega, by have := hc.2.1; omega, by simp, fun ad' had j u hu => ?_⟩
  cases had
  rw [E.all_drop, E.all_take, List.getElem?_drop, List.getElem?_take] at hu
  split at hu
  · rw [add_add]; exact hcl ad rfl _ _ hu
  · cases hu
theorem block_add (ad : Addr) (j : Nat) : (ad.add j).block = ad.block := by unfold Addr.add; split <;> rfl
/-- 'xs[lo:]' of a row: what it reads as in any world that is the same in its block. -/
theorem row_cut1 {P : Program} {α : Type} {E : Enc α} {w : World} {xs : List α} (t e : TypeId) (ht : P.underlying t = some (.slice e)) {z : Option Value} {bytes : Nat} (hinfo : (P.info? e).map (fun i => (i.zero, i.size, i.bytes)) = some (z, E.sz, bytes)) {ad : Addr} {n c : Nat} (h : Row E w (.slice (some ad) n c) xs) (lo : Nat) (h1 : lo ≤ n) :
    ∃ A', (∀ W kl, (Instr.slice t (.slice (some ad) n c) (some (.int kl (lo : Int))) none none).run P W = .ok (.slice A' (n - lo) (c - lo)) W) ∧
      (∀ w', (∀ a v, a.block = ad.block → w.cell? a = some v → w'.cell? a = some v) → Row E w' (.slice A' (n - lo) (c - lo)) (xs.drop lo)) := by
  have hc := h.cap
  have hcl := h.cells
  have hn := h.len
  obtain ⟨A', r1, r2, r3, r4, r5⟩ := run_cut (P := P) (E := E) t e ht hinfo (some ad) n c lo n h1 (by omega) (by simp)
  refine ⟨A', r3 rfl, fun w' hw => ?_⟩
  have hl : (xs.drop lo).length = n - lo := by rw [List.length_drop]; omega
  refine ⟨A', c - lo, by rw [hl], by rw [hl]; omega, by have := hc.2.1; omega, r4, fun ad' had j u hu => ?_⟩
  obtain ⟨a0, ha0, hadd⟩ := r5 ad' had
  cases ha0
  rw [E.all_drop, List.getElem?_drop] at hu
  have hlo : lo < c := by
    rcases Nat.lt_or_ge lo c with h' | h'
    · exact h'
    · have h6 : xs.length ≤ lo := by omega
      have h7 : (E.all xs).length ≤ lo * E.sz + j := by rw [E.all_len]; exact Nat.le_trans (Nat.mul_le_mul_right _ h6) (Nat.le_add_right _ _)
      rw [List.getElem?_eq_none h7] at hu; cases hu
  rw [hadd hlo, add_add]
  exact hw _ _ (block_add _ _) (hcl ad rfl _ _ hu)
theorem clone_calls (v : Value) (l : List UInt8) (w : World) (hv : Row eU8 w v l) (hl : l.length ≤ 1000000) :
    Calls Tryd.prog 72 #[v] w fun e w' => (∃ v', e = .returned v' ∧ Own eU8 5 w.heap.size w' v' l) ∧ Below w.heap.size w w' := by
  obtain ⟨A, c, rfl, hc, hm, hr⟩ := hv.parts
  cases A with
  | none =>
    have h0 : c = 0 := hr.cap.2.2 rfl
    have h1 : l = [] := List.eq_nil_of_length_eq_zero (by omega)
    subst h1
    subst h0
    have hnil := fun W => Go.run_eql_slice_nil (P := Tryd.prog) W 27 5 none 0 0 Tryd.underlying27
    clear hv hr hc hm
    go_enter Tryd.func72, Tryd.ntmps72
    go_wp2
    go_returns
    exact ⟨⟨_, rfl, Own.nil _ _ _ _⟩, Below.refl _ _⟩
  | some ad =>
    clear hv
    have HR := Lib.hid hr
    have hnil := fun W => Go.run_eql_slice_nil (P := Tryd.prog) W 27 5 (some ad) l.length c Tryd.underlying27
    clear hr
    go_enter Tryd.func72, Tryd.ntmps72
    go_wp2_with (at_builtin; refine wp_append (E := eU8) w.heap.size rfl (.tmp 5) (.tmp 6) 27 5 _ 1 rfl Tryd.underlying27 infoU8 rfl (by decide) _ _ [] l rfl rfl (Own.lit w w.heap.size eU8 5 [] 0 rfl _ rfl (Nat.le_refl _) (by simp)) (HR.out.alloc _) (by simp) (by simp; omega) ?_; intro v1 w1 ho1 hg1 hat1)
    go_ret
    exact ⟨⟨_, rfl, by simpa using ho1⟩, below_app ((Below.refl _ w).alloc (Nat.le_refl _) _) (by simp) (Own.lit w w.heap.size eU8 5 [] 0 rfl _ rfl (Nat.le_refl _) (by simp)) hg1⟩
theorem drew2 (w : World) (a b : Nat) : (w.drewN a).drewN b = w.drewN (a + b) := by simp [World.drewN, Nat.add_assoc]
theorem next_calls (c : Nat) (ad : Addr) (n cc pos k : Nat) (K : Int) (all : List UInt8) (w : World) (hx : Box c #[.slice (some ad) n cc, .int .i64 (pos : Int), .nilIface] w) (hr : Row eU8 w (.slice (some ad) n cc) all) (hK : K = (k : Int)) (hk : 1 ≤ k) (hle : pos + k ≤ n) (hn : n ≤ 1000000) :
    Calls Tryd.prog 73 #[.pointer (some ⟨c, 0, none⟩), .int .i64 K] w fun e w' => (∃ A', e = .returned (.slice (some A') k k) ∧ Row eU8 w' (.slice (some A') k k) ((all.take (pos + k)).drop pos) ∧ A'.block = ad.block) ∧ ∃ m, w' = w.drewN m := by
  subst hK
  obtain ⟨c0, c1, c2⟩ := hx.c3
  have hl := hr.len
  obtain ⟨hs, hrow⟩ := row_cut3 (P := Tryd.prog) 27 5 Tryd.underlying27 infoU8 hr pos (pos + k) (by omega) (by omega)
  rw [show pos + k - pos = k by omega] at hs hrow
  have hsl : ∀ W, (Instr.slice 27 (.slice (some ad) n cc) (some (.int .i64 (pos : Int))) (some (.int .i64 ((pos : Int) + (k : Int)))) (some (.int .i64 ((pos : Int) + (k : Int))))).run Tryd.prog W = .ok (.slice (some (ad.add (pos * eU8.sz))) k k) W := fun W => by
    have := hs W .i64 .i64 .i64
    rw [Int.natCast_add] at this
    exact this
  have hw1 : IntKind.i64.wrap ((pos : Int) + (k : Int)) = (pos : Int) + (k : Int) := by rw [IntKind.wrap_i64]; omega
  have HR := Lib.hid hrow
  have h1 : 0 ≤ (k : Int) := by omega
  have h2 : (k : Int) ≤ (n : Int) - (pos : Int) := by omega
  clear hx hr hs hrow hl
  go_enter Tryd.func73, Tryd.ntmps73
  go_wp2
  go_quiet (fail)
  go_wp2
  go_quiet (fail)
  go_wp2
  go_ret
  exact ⟨⟨_, rfl, HR.out, block_add _ _⟩, _, drew2 _ _ _⟩
/-! What bytes are as a number. -/
def beVal (l : List UInt8) : Nat := l.foldl (fun n x => n * 256 + x.toNat) 0
theorem beVal_snoc (l : List UInt8) (x : UInt8) : beVal (l ++ [x]) = beVal l * 256 + x.toNat := by unfold beVal; simp
theorem beVal_lt (l : List UInt8) : beVal l < 256 ^ l.length := by
  have key : ∀ (l : List UInt8) (a : Nat), l.foldl (fun n x => n * 256 + x.toNat) a < (a + 1) * 256 ^ l.length := by
    intro l
    induction l with
    | nil => intro a; simp
    | cons x l ih =>
      intro a
      have := ih (a * 256 + x.toNat)
      have hx := x.toNat_lt
      rw [List.foldl_cons, List.length_cons, Nat.pow_succ, Nat.mul_comm (256 ^ l.length) 256, ← Nat.mul_assoc]
      exact Nat.lt_of_lt_of_le this (Nat.mul_le_mul_right _ (by omega))
  have := key l 0
  unfold beVal
  omega
theorem beVal_be (n k : Nat) (h : n < 256 ^ k) : beVal (beBytes n k) = n := by
  have key : ∀ j, j ≤ k → beVal ((beBytes n k).take j) = n / 256 ^ (k - j) := by
    intro j
    induction j with
    | zero => intro _; simp [beVal]; exact (Nat.div_eq_of_lt h).symm
    | succ j ih =>
      intro hj
      rw [beBytes_take n k j (by omega), beVal_snoc, ih (by omega)]
      unfold beByte
      rw [UInt8.toNat_ofNat_of_lt' (Nat.mod_lt _ (by decide)), Nat.pow_mul, show k - 1 - j = k - (j + 1) by omega, show k - j = (k - (j + 1)) + 1 by omega, Nat.pow_succ, ← Nat.div_div_eq_div_mul]
      show n / 256 ^ (k - (j + 1)) / 256 * 256 + n / 256 ^ (k - (j + 1)) % 256 = n / 256 ^ (k - (j + 1))
      omega
  have := key k (Nat.le_refl _)
  rw [List.take_of_length_le (by rw [beBytes_len]; omega), Nat.sub_self] at this
  simpa using this
theorem join64 (m x : Nat) (hm : m < 72057594037927936) (hx : x < 256) : bits .or .u64 ((m : Int) * 256) (x : Int) = (m : Int) * 256 + (x : Int) :=
  bits_join .u64 64 (by decide) (fun n h0 h1 => by rw [IntKind.wrap_u64]; omega) 8 _ _ (by omega) (by omega) (by omega) (by omega) (by omega) (by omega)
end Go.Proofs.YtmpdcdfnbkfabaaDoor.Octets
