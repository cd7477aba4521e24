/- Candidates as values and rows; boxes of them; linkboynum.Long and linkboylaw18.Long. -/
import Derived.Test.YtcfgffkjbkpfhaaKeyB
import Derived.Test.YtcfgffkjbkpfhaaMemR
import Derived.LoopTactic
import Derived.Handy
import Derived.Outline
namespace Go.Proofs.Ytcfgffkjbkpfhaa.Cand
open Go.RowKit Go.Proofs.Ytcfgffkjbkpfhaa.Mem Go.Proofs.Ytcfgffkjbkpfhaa.Num Go.Proofs.Ytcfgffkjbkpfhaa.Key
open Go.Proofs.Ytcfgffkjbkpfhaa.Addr hiding below_allocd
set_option linter.unusedVariables false
set_option linter.unusedSimpArgs false
set_option maxRecDepth 100000
attribute [-go_sem] Builtin.append_ loadCells loadCellsFrom storeCells run_eql_struct
structure Cd where
  six : Bool
  b : List UInt8
  port : Int
  loc : Bool
  rdy : Bool
  srv : Bool
  trm : Bool
  A : Option Addr
  n : Nat
  c : Nat
  hb : b.length = 16
  hp : InI64 port
def Cd.cells (x : Cd) : List Value := ptCells x.six x.b x.port ++ [.bool x.loc, .bool x.rdy, .bool x.srv, .bool x.trm, .slice x.A x.n x.c]
theorem Cd.len (x : Cd) : x.cells.length = 23 := by unfold Cd.cells; rw [List.length_append, ptCells_len _ _ x.hb]; rfl
theorem Cd.one (x : Cd) : ∀ u ∈ x.cells, u.oneCell' = true := by
  intro u hu
  unfold Cd.cells ptCells at hu
  simp only [List.mem_append, List.mem_cons, List.not_mem_nil, or_false] at hu
  rcases hu with (hu | rfl) | rfl | rfl | rfl | rfl | rfl <;> first | rfl | exact adCells_one _ _ _ hu
def eCd : Enc Cd := ⟨Cd.cells, 23, Cd.len, Cd.one, by decide⟩
theorem Cd.at (x : Cd) : x.cells[18]? = some (.bool x.loc) ∧ x.cells[19]? = some (.bool x.rdy) ∧ x.cells[20]? = some (.bool x.srv) ∧ x.cells[21]? = some (.bool x.trm) ∧ x.cells[22]? = some (.slice x.A x.n x.c) := by
  have h := ptCells_len x.six x.b x.hb x.port
  unfold Cd.cells
  refine ⟨?_, ?_, ?_, ?_, ?_⟩ <;> (rw [List.getElem?_append_right (by omega), h]; rfl)
theorem Cd.pt (x : Cd) : (x.cells.drop 0).take 18 = ptCells x.six x.b x.port := by
  have h := ptCells_len x.six x.b x.hb x.port
  unfold Cd.cells
  rw [List.drop_zero, List.take_append_of_le_length (by omega), List.take_of_length_le (by omega)]
/-- No candidate. -/
def cd0 : Cd := ⟨false, List.replicate 16 0, 0, false, false, false, false, none, 0, 0, rfl, by unfold InI64; omega⟩
theorem row_load {P : Program} {α : Type} {E : Enc α} {w : World} {ad : Addr} {n c : Nat} {xs : List α} (h : Row E w (.slice (some ad) n c) xs) (k : Nat) (hk : k < xs.length) :
    (loadCells (ad.add (k * E.sz)) E.sz).run P w = .ok (E.cells xs[k]).toArray w := by
  have := run_loadCells_list (P := P) w (ad.add (k * E.sz)) (E.cells xs[k]) (fun j v hv => by
    have hj : j < E.sz := by have := (List.getElem?_eq_some_iff.1 hv).1; rwa [E.len] at this
    rw [add_add]
    refine h.cells ad rfl _ _ ?_
    rw [E.all_get xs k j hk hj]; exact hv)
  rwa [E.len] at this
theorem box_cd {P : Program} (W : World) (x : Cd) (t : TypeId) (ca : Array Value) (hc : ca = cd0.cells.toArray) : ∃ w2, (storeCells ⟨W.heap.size, 0, none⟩ x.cells).run P (W.alloc (.cells ca t)) = .ok () w2 ∧ Blk W.heap.size x.cells t w2 ∧ Below W.heap.size W w2 := by
  have hb : Blk W.heap.size cd0.cells t (W.alloc (.cells ca t)) := Blk.new _ _ _ _ _ hc rfl
  have hs := run_storeCells_cells (P := P) W.heap.size 0 x.cells 0 (W.alloc (.cells ca t)) (fun j hj => by simpa using ((hb.there 0 x.cells.length (by rw [Cd.len, Cd.len]; decide)) j hj).1) (fun j hj => ((hb.there 0 x.cells.length (by rw [Cd.len, Cd.len]; decide)) j (by simpa using hj)).2) x.one
  rw [Nat.add_zero] at hs
  obtain ⟨q1, q2⟩ := setCells_heap x.cells 0 hb (by rw [Cd.len, Cd.len]; decide)
  rw [splice_all _ _ (by rw [Cd.len, Cd.len])] at q1
  exact ⟨_, hs, q1, below_alt ((Below.refl _ _).alloc (Nat.le_refl _) _) q2 (by simp) (fun k hk => by omega)⟩
/-- v is a row of candidates whose zones are what z says. -/
def Cands (w : World) (v : Value) (xs : List Cd) (z : Cd → List ByteArray) : Prop := Row eCd w v xs ∧ ∀ x ∈ xs, Row eStr w (.slice x.A x.n x.c) (z x)
theorem Cands.below {w w1 : World} {v : Value} {xs : List Cd} {z : Cd → List ByteArray} (h : Cands w v xs z) (hb : Below w.heap.size w w1) : Cands w1 v xs z := ⟨h.1.below hb, fun x hx => (h.2 x hx).below hb⟩
/-- Is a list of texts too long? -/
def longN : List ByteArray → Nat → Bool
  | [], _ => false
  | s :: r, n => if 400 < s.size then true else if 400 < n + (1 + s.size) then true else longN r (n + (1 + s.size))
theorem longN_no : ∀ (l : List ByteArray) (n : Nat), longN l n = false → (∀ s ∈ l, s.size ≤ 400) ∧ (n ≤ 400 → n + l.length ≤ 400)
  | [], n, _ => ⟨by simp, fun h => by simpa using h⟩
  | s :: r, n, h => by
    unfold longN at h
    split at h
    · cases h
    · split at h
      · cases h
      · obtain ⟨h1, h2⟩ := longN_no r _ h
        refine ⟨fun x hx => ?_, fun hn => ?_⟩
        · rcases List.mem_cons.1 hx with rfl | hx
          · omega
          · exact h1 x hx
        · have := h2 (by omega)
          rw [List.length_cons]; omega
theorem longN_step (l : List ByteArray) (k n : Nat) (hk : k < l.length) : longN (l.drop k) n = if 400 < l[k].size then true else if 400 < n + (1 + l[k].size) then true else longN (l.drop (k + 1)) (n + (1 + l[k].size)) := by
  rw [List.drop_eq_getElem_cons hk]
  rfl
set_option maxHeartbeats 1000000 in
theorem long_calls (A : Option Addr) (c : Nat) (zs : List ByteArray) (w : World) (hr : Row eStr w (.slice A zs.length c) zs) (hz : ∀ s ∈ zs, s.size ≤ maxLen) :
    Calls Try.prog 35 #[.slice A zs.length c, .int .i64 400] w fun e w' => e = .returned (.bool (longN zs 0)) ∧ w = w' := by
  have hl : zs.length ≤ 9223372036854775807 := by have := hr.cap; unfold maxLen at this; omega
  have HR := Lib.hid hr
  have HZ : Hid (∀ s ∈ zs, s.size ≤ 9223372036854775807) := Lib.hid (fun s hs => by have := hz s hs; unfold maxLen at this; omega)
  obtain ⟨b, hb⟩ : ∃ b, b = longN zs 0 := ⟨_, rfl⟩
  rw [← hb]
  have HB := Lib.hid hb
  clear hr hz hb
  go_enter Try.func35, Try.ntmps35
  go_wp2
  go_loop [5, 10] (fun nv iv => ∃ k n : Nat, k ≤ zs.length ∧ iv = .int .i64 (k : Int) ∧ nv = .int .i64 (n : Int) ∧ n ≤ 400 ∧ Hid (b = longN (zs.drop k) n)) (fun _ iv => zs.length - (intOf iv).toNat)
  case atStart => exact ⟨0, 0, Nat.zero_le _, rfl, rfl, by omega, Lib.hid (by rw [HB.out]; rfl)⟩
  case round =>
    obtain ⟨k, n, hk, rfl, rfl, hn, HL⟩ := hrel
    by_cases hlt : k < zs.length
    · obtain ⟨ad, rfl, hcell⟩ := HR.out.at1 hlt
      have hs := HZ.out zs[k] (List.getElem_mem hlt)
      have HS := Lib.hid (HL.out.trans (longN_step zs k n hlt))
      generalize zs[k] = s at hcell hs HS
      have hw : IntKind.i64.wrap ((n : Int) + (1 + (s.size : Int))) = (n : Int) + (1 + (s.size : Int)) ∨ 400 < s.size := by
        by_cases h : 400 < s.size
        · exact .inr h
        · left; rw [IntKind.wrap_i64]; omega
      by_cases h4 : 400 < s.size
      · have h4' : (400 : Int) < (s.size : Int) := by omega
        have HT : Hid (b = true) := Lib.hid (HS.out.trans (if_pos h4))
        clear hw h4
        go_wp2
        go_ret
        exact ⟨by rw [HT.out]; rfl, rfl⟩
      · have h4' : ¬ (400 : Int) < (s.size : Int) := by omega
        have h4i : (s.size : Int) ≤ 400 := by omega
        have HS2 := Lib.hid (HS.out.trans (if_neg h4))
        clear hw
        by_cases h5 : 400 < n + (1 + s.size)
        · have h5' : (400 : Int) < (n : Int) + (1 + (s.size : Int)) := by omega
          have HT : Hid (b = true) := Lib.hid (HS2.out.trans (if_pos h5))
          clear h4 h5
          go_wp2
          go_ret
          exact ⟨by rw [HT.out]; rfl, rfl⟩
        · have h5' : ¬ (400 : Int) < (n : Int) + (1 + (s.size : Int)) := by omega
          have HT := Lib.hid (HS2.out.trans (if_neg h5))
          clear h4
          go_wp2
          go_round
          case rel => exact ⟨k + 1, n + (1 + s.size), by omega, by go_num, by go_num, by omega, HT⟩
          case measure => simp [intOf]; omega
    · have HT : Hid (b = false) := Lib.hid (by rw [HL.out, List.drop_of_length_le (by omega)]; rfl)
      go_wp2
      go_ret
      exact ⟨by rw [HT.out]; rfl, rfl⟩
/-- What the law lets go: more than 60 candidates, or zones that are too long. -/
def candLong (xs : List Cd) (z : Cd → List ByteArray) : Bool := decide (60 < xs.length) || xs.any (fun x => longN (z x) 0)
theorem any_step (xs : List Cd) (p : Cd → Bool) (k : Nat) (hk : k < xs.length) : (xs.drop k).any p = (p xs[k] || (xs.drop (k + 1)).any p) := by
  rw [List.drop_eq_getElem_cons hk]; rfl
set_option maxHeartbeats 2000000 in
theorem candlong_calls (v : Value) (xs : List Cd) (z : Cd → List ByteArray) (w : World) (hv : Cands w v xs z) (hz : ∀ x ∈ xs, ∀ s ∈ z x, s.size ≤ maxLen) :
    Calls Try.prog 9 #[v] w fun e w' => e = .returned (.bool (candLong xs z)) ∧ Below w.heap.size w w' := by
  obtain ⟨A, c, rfl, hc, hm, hr⟩ := hv.1.parts
  have HV : Hid (∀ W, Below w.heap.size w W → Cands W (.slice A xs.length c) xs z) := Lib.hid (fun W hW => hv.below hW)
  have HZ := Lib.hid hz
  have HBX := Lib.hid (fun (W : World) (x : Cd) => box_cd (P := Try.prog) W x 44 #[.bool false, .int .u8 0, .int .u8 0, .int .u8 0, .int .u8 0, .int .u8 0, .int .u8 0, .int .u8 0, .int .u8 0, .int .u8 0, .int .u8 0, .int .u8 0, .int .u8 0, .int .u8 0, .int .u8 0, .int .u8 0, .int .u8 0, .int .i64 0, .bool false, .bool false, .bool false, .bool false, .slice none 0 0] rfl)
  have hl : xs.length ≤ 9223372036854775807 := by omega
  unfold candLong
  by_cases h60 : 60 < xs.length
  · have h60' : (60 : Int) < (xs.length : Int) := by omega
    rw [decide_eq_true h60, Bool.true_or]
    clear hv hr hz h60
    go_enter Try.func9, Try.ntmps9
    go_wp2
    go_ret
    exact ⟨rfl, Below.refl _ _⟩
  · have h60' : ¬ (60 : Int) < (xs.length : Int) := by omega
    rw [decide_eq_false h60, Bool.false_or]
    obtain ⟨b, hb⟩ : ∃ b, b = xs.any (fun x => longN (z x) 0) := ⟨_, rfl⟩
    rw [← hb]
    have HB := Lib.hid hb
    clear hv hr hz h60 hb
    go_enter Try.func9, Try.ntmps9
    go_wp2
    go_loopw [10] (fun iv wr => ∃ k : Nat, k ≤ xs.length ∧ iv = .int .i64 (k : Int) ∧ Hid (b = (xs.drop k).any (fun x => longN (z x) 0)) ∧ Hid (Below w.heap.size w wr)) (fun iv _ => xs.length - (intOf iv).toNat)
    case atStart => exact ⟨0, Nat.zero_le _, rfl, HB, Lib.hid (Below.refl _ _)⟩
    case round =>
      obtain ⟨k, hk, rfl, HL, HW⟩ := hrel
      by_cases hlt : k < xs.length
      · obtain ⟨ad, rfl, _⟩ := (HV.out w (Below.refl _ _)).1.at hlt
        have hld : (loadCells (ad.add (k * 23)) 23).run Try.prog wr = .ok (xs[k].cells).toArray wr := row_load (HV.out _ HW.out).1 k hlt
        have hzr := (HV.out _ HW.out).2 xs[k] (List.getElem_mem hlt)
        have hzs := HZ.out xs[k] (List.getElem_mem hlt)
        have HS := Lib.hid (HL.out.trans (any_step xs _ k hlt))
        generalize xs[k] = x at hld hzr hzs HS
        obtain ⟨w2, s2, k2, b2⟩ := HBX.out wr x
        have hz22 : w2.cell? ⟨wr.heap.size, 22, none⟩ = some (.slice x.A x.n x.c) := k2.cell 22 _ x.at.2.2.2.2
        have hlen := hzr.len
        have HB2 := Lib.hid (HW.out.trans (b2.mono HW.out.size))
        have KL : Hid (Calls Try.prog 35 #[.slice x.A x.n x.c, .int .i64 400] w2 fun e w' => e = .returned (.bool (longN (z x) 0)) ∧ w2 = w') := Lib.hid (by rw [hlen] at hzr ⊢; exact long_calls _ _ _ _ (hzr.below b2) hzs)
        have hsl : (x.cells.toArray).toList = x.cells := rfl
        have hsz : (x.cells.toArray).size = 23 := Cd.len x
        clear hzr hzs hlen k2 b2
        generalize x.cells.toArray = xa at hld hsl hsz
        generalize longN (z x) 0 = q at KL HS
        cases q
        · have HT : Hid (b = (xs.drop (k + 1)).any (fun x => longN (z x) 0)) := HS
          go_wp2_with (go_at_call 35; ((with_reducible refine KL.out.mono ?_); rintro e w3 ⟨rfl, rfl⟩))
          go_roundw
          case rel => exact ⟨k + 1, by omega, by go_num, HT, HB2⟩
          case measure => simp [intOf]; omega
        · have HT : Hid (b = true) := HS
          go_wp2_with (go_at_call 35; ((with_reducible refine KL.out.mono ?_); rintro e w3 ⟨rfl, rfl⟩))
          go_ret
          exact ⟨by rw [HT.out]; rfl, HB2.out⟩
      · have HT : Hid (b = false) := Lib.hid (by rw [HL.out, List.drop_of_length_le (by omega)]; rfl)
        go_wp2
        go_ret
        exact ⟨by rw [HT.out]; rfl, HW.out⟩
end Go.Proofs.Ytcfgffkjbkpfhaa.Cand
