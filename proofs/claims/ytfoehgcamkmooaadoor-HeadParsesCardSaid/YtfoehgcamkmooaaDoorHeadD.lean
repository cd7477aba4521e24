/- The heads of parts: tcp, udp, own, summed. -/
import Derived.Test.YtfoehgcamkmooaaDoorHeadC
namespace Go.Proofs.YtfoehgcamkmooaaDoor.Head
open Go.RowKit Go.Proofs.YtfoehgcamkmooaaDoor.Mem Go.Proofs.YtfoehgcamkmooaaDoor.Num Go.Proofs.YtfoehgcamkmooaaDoor.Err
open Go.Proofs.YtfoehgcamkmooaaDoor.Addr hiding below_allocd
open Go.Proofs.YtfoehgcamkmooaaDoor.Sums Go.Proofs.YtfoehgcamkmooaaDoor.SumsP Go.Proofs.YtfoehgcamkmooaaDoor.Pseudo
set_option linter.unusedVariables false
set_option linter.unusedSimpArgs false
set_option maxRecDepth 100000
attribute [-go_sem] Builtin.append_
/-- How long TCP's own head is. -/
def ownN (l : List UInt8) : Nat := 4 * ((l.getD 12 0).toNat / 16)
def tcpR (l : List UInt8) : Nat := if ownN l < 20 ∨ l.length < ownN l then 4 else 0
def udpR (l : List UInt8) : Nat := if twoN l 4 ≠ l.length then 4 else 0
/-- What a method of a head leaves: the error's number, and, where there is none, the head. -/
def Met (es : List Addr) (b : Nat) (t : TypeId) (r : Nat) (h' : Hd) (w w' : World) (e : Ending) : Prop := ∃ u, e = .returned u ∧ ErrIs es r u ∧ (r = 0 → HBlk b h' t w') ∧ Alt (fun k => k = b) w w'
theorem err_at {w : World} {es : List Addr} (he : Errs w es) (k : Nat) (hk : k < 18) : ∃ a, w.cell? ⟨gl.getD k 0, 0, none⟩ = some (.iface 133 (.pointer (some a))) ∧ ErrIs es (k + 1) (.iface 133 (.pointer (some a))) := by
  have hl := he.1
  exact ⟨es[k]'(by omega), (he.2.2 k (by omega)).1, .inr ⟨k, by omega, rfl, rfl⟩⟩
theorem alt_of_drew (R : Nat → Prop) (w : World) (n : Nat) : Alt R w (w.drewN n) := (Alt.refl R w).drewN n
theorem tcp_calls (b : Nat) (h : Hd) (t : TypeId) (v : Value) (l : List UInt8) (w : World) (es : List Addr) (he : Errs w es) (hb : HBlk b h t w) (hv : Row eU8 w v l) (h20 : 20 ≤ l.length) (hl : l.length ≤ 600) (hpt : 0 ≤ h.pt) (hpt2 : h.pt ≤ 1000000) :
    Calls Tryd.prog 55 #[.pointer (some ⟨b, 0, none⟩), v] w fun e w' => Met es b t (tcpR l) { h with fl := ((l.getD 13 0).toNat : Int), bd := h.pt + (ownN l : Int) } w w' e := by
  unfold tcpR
  obtain ⟨A, c, rfl, hc, hm, hr⟩ := hv.parts
  obtain ⟨ad, rfl, hx⟩ := hr.atU8 (k := 12) (by omega)
  obtain ⟨ad', had, hy⟩ := hr.atU8 (k := 13) (by omega)
  cases had
  have hx' : w.cell? ⟨ad.block, ad.off + 12, none⟩ = some (.int .u8 (l[12].toNat : Int)) := hx
  have hy' : w.cell? ⟨ad.block, ad.off + 13, none⟩ = some (.int .u8 (l[13].toNat : Int)) := hy
  have e12 := getD_at l 12 (by omega)
  have e13 := getD_at l 13 (by omega)
  have hn : ownN l = 4 * (l[12].toNat / 16) := by unfold ownN; rw [e12]
  rw [e13]
  obtain ⟨g0, g1, g2, g3, g4, g5, g6⟩ := hb.vals
  obtain ⟨f0, f1, f2, f3, f4, f5⟩ := hb.frees
  obtain ⟨a3, hc3, hi3⟩ := err_at he 3 (by decide)
  have hc3' : w.cell? ⟨1, 0, none⟩ = some (.iface 133 (.pointer (some a3))) := hc3
  have HI3 := Lib.hid hi3
  have b12 := l[12].toNat_lt
  have b13 := l[13].toNat_lt
  have HB := Lib.hid hb
  have HNN := Lib.hid hn
  clear he hv hr hx hy e12 e13 hn hb hc3 hi3
  generalize l[12] = x at hx' b12 HNN
  generalize l[13] = y at hy' b13 ⊢
  have hxb : (x.toNat : Int) < 256 := by omega
  have hyb : (y.toNat : Int) < 256 := by omega
  by_cases h1 : ownN l < 20
  · rw [if_pos (.inl h1)]
    have h1' : 4 * ((x.toNat : Int) / 16) < 20 := by have := HNN.out; omega
    go_enter Tryd.func55, Tryd.ntmps55
    go_wp2
    go_ret
    exact ⟨_, rfl, HI3.out, fun h => by omega, Alt.refl _ _⟩
  · have h1' : ¬ 4 * ((x.toNat : Int) / 16) < 20 := by have := HNN.out; omega
    by_cases h2 : l.length < ownN l
    · rw [if_pos (.inr h2)]
      have h2' : (l.length : Int) < 4 * ((x.toNat : Int) / 16) := by have := HNN.out; omega
      go_enter Tryd.func55, Tryd.ntmps55
      go_wp2
      go_ret
      exact ⟨_, rfl, HI3.out, fun h => by omega, Alt.refl _ _⟩
    · rw [if_neg (fun h => h.elim h1 h2)]
      have h2' : 4 * ((x.toNat : Int) / 16) ≤ (l.length : Int) := by have := HNN.out; omega
      have hw1 : IntKind.i64.wrap (y.toNat : Int) = (y.toNat : Int) := by rw [IntKind.wrap_i64]; omega
      have hw2 : IntKind.i64.wrap (h.pt + 4 * ((x.toNat : Int) / 16)) = h.pt + 4 * ((x.toNat : Int) / 16) := by rw [IntKind.wrap_i64]; omega
      go_enter Tryd.func55, Tryd.ntmps55
      go_wp2
      go_region
      all_goals go_wp2
      go_ret
      have hk : HBlk b h t w := HB.out
      have hN := HNN.out
      have e1 : (h.pt + 4 * ((x.toNat : Int) / 16)) = h.pt + (ownN l : Int) := by omega
      rw [e1]
      exact ⟨_, rfl, .inl ⟨rfl, rfl⟩, fun _ => (hk.set 37 _ _ (h.sets _).2.2.2.1).set 39 _ _ ((Hd.sets _ _).2.2.2.2.2), ((Alt.set (R := fun k => k = b) (a := ⟨b, 37, none⟩) _ rfl).trans (Alt.set (a := ⟨b, 39, none⟩) _ rfl)).drewN 1⟩
theorem udp_calls (b : Nat) (h : Hd) (t : TypeId) (v : Value) (l : List UInt8) (w : World) (es : List Addr) (he : Errs w es) (hb : HBlk b h t w) (hv : Row eU8 w v l) (h8 : 8 ≤ l.length) (hl : l.length ≤ 600) (hpt : 0 ≤ h.pt) (hpt2 : h.pt ≤ 1000000) :
    Calls Tryd.prog 56 #[.pointer (some ⟨b, 0, none⟩), v] w fun e w' => Met es b t (udpR l) { h with bd := h.pt + 8 } w w' e := by
  unfold udpR
  obtain ⟨A, c, rfl, hc, hm, hr⟩ := hv.parts
  have KT := Lib.hid (fun W hv => two_calls (.slice A l.length c) l 4 4 W hv rfl (by omega) (by omega))
  have HR := Lib.hid hr
  obtain ⟨g0, g1, g2, g3, g4, g5, g6⟩ := hb.vals
  obtain ⟨f0, f1, f2, f3, f4, f5⟩ := hb.frees
  obtain ⟨a3, hc3, hi3⟩ := err_at he 3 (by decide)
  have hc3' : w.cell? ⟨1, 0, none⟩ = some (.iface 133 (.pointer (some a3))) := hc3
  have HI3 := Lib.hid hi3
  have HB := Lib.hid hb
  clear he hv hr hb hc3 hi3
  generalize twoN l 4 = m at KT ⊢
  by_cases h1 : m = l.length
  · subst h1
    rw [if_neg (by simp)]
    go_enter Tryd.func56, Tryd.ntmps56
    go_wp2_with (go_at_call 29; ((with_reducible refine (KT.out _ HR.out).mono ?_); rintro e w1 ⟨rfl, n1, rfl⟩))
    go_ret
    have hk : HBlk b h t (w.drewN n1) := HB.out
    exact ⟨_, rfl, .inl ⟨rfl, rfl⟩, fun _ => hk.set 39 _ _ ((Hd.sets _ _).2.2.2.2.2), ((Alt.refl _ w).drewN n1).trans (Alt.set _ rfl)⟩
  · have h1' : ((m : Int) == (l.length : Int)) = false := beq_eq_false_iff_ne.mpr (by omega)
    have h1'' : ((m : Int) != (l.length : Int)) = true := by simpa using (by omega : ¬ (m : Int) = (l.length : Int))
    rw [if_pos h1]
    go_enter Tryd.func56, Tryd.ntmps56
    go_wp2_with (go_at_call 29; ((with_reducible refine (KT.out _ HR.out).mono ?_); rintro e w1 ⟨rfl, n1, rfl⟩))
    go_ret
    exact ⟨_, rfl, HI3.out, fun h => by omega, (Alt.refl _ w).drewN n1⟩
/-- What a part's own head tells. -/
def ownR (h : Hd) (l : List UInt8) : Nat := if h.pr = 6 then tcpR l else udpR l
def ownH (h : Hd) (l : List UInt8) : Hd := if h.pr = 6 then { h with fl := ((l.getD 13 0).toNat : Int), bd := h.pt + (ownN l : Int) } else { h with bd := h.pt + 8 }
theorem own_calls (b : Nat) (h : Hd) (t : TypeId) (v : Value) (l : List UInt8) (w : World) (es : List Addr) (he : Errs w es) (hb : HBlk b h t w) (hv : Row eU8 w v l) (h20 : h.pr = 6 → 20 ≤ l.length) (h8 : 8 ≤ l.length) (hl : l.length ≤ 600) (hpt : 0 ≤ h.pt) (hpt2 : h.pt ≤ 1000000) :
    Calls Tryd.prog 30 #[.pointer (some ⟨b, 0, none⟩), v] w fun e w' => Met es b t (ownR h l) (ownH h l) w w' e := by
  have g0 := hb.vals.1
  unfold ownR ownH
  by_cases h6 : h.pr = 6
  · have kt := tcp_calls b h t v l w es he hb hv (h20 h6) hl hpt hpt2
    rw [if_pos h6, if_pos h6]
    generalize ({ h with fl := ((l.getD 13 0).toNat : Int), bd := h.pt + (ownN l : Int) } : Hd) = h' at kt ⊢
    generalize tcpR l = r at kt ⊢
    have KT := Lib.hid kt
    clear kt
    rw [h6] at g0
    clear h6 he hb hv h20
    go_enter Tryd.func30, Tryd.ntmps30
    go_wp2_with (go_at_call 55; ((with_reducible refine KT.out.mono ?_); rintro e w1 ⟨u, rfl, hu, hk, ha⟩; have HU := Lib.hid hu; have HK := Lib.hid hk; have HA := Lib.hid ha; clear hu hk ha))
    go_ret
    exact ⟨u, rfl, HU.out, HK.out, HA.out⟩
  · have kt := udp_calls b h t v l w es he hb hv h8 hl hpt hpt2
    rw [if_neg h6, if_neg h6]
    generalize ({ h with bd := h.pt + 8 } : Hd) = h' at kt ⊢
    generalize udpR l = r at kt ⊢
    have KT := Lib.hid kt
    clear kt
    have h6' : (h.pr == 6) = false := beq_eq_false_iff_ne.mpr h6
    clear he hb hv h20
    go_enter Tryd.func30, Tryd.ntmps30
    go_wp2_with (go_at_call 56; ((with_reducible refine KT.out.mono ?_); rintro e w1 ⟨u, rfl, hu, hk, ha⟩; have HU := Lib.hid hu; have HK := Lib.hid hk; have HA := Lib.hid ha; clear hu hk ha))
    go_ret
    exact ⟨u, rfl, HU.out, HK.out, HA.out⟩
end Go.Proofs.YtfoehgcamkmooaaDoor.Head
