/- The law OctetsBack. -/
import Derived.Test.YtmpdcdfnbkfabaaDoorOctB2
import Derived.Test.YtmpdcdfnbkfabaaDoorOpen
import Derived.OpenShut
namespace Go.Proofs.YtmpdcdfnbkfabaaDoor.Octets
open Go.RowKit Go.Proofs.YtmpdcdfnbkfabaaDoor.Mem Go.Proofs.YtmpdcdfnbkfabaaDoor.Err Go.Proofs.YtmpdcdfnbkfabaaDoor.Num
set_option linter.unusedVariables false
set_option linter.unusedSimpArgs false
set_option maxRecDepth 100000
attribute [-go_sem] Builtin.append_
theorem balive_calls (w : World) : Calls Tryd.prog 45 #[] w fun e w' => e = .returned (.bool true) ∧ Below w.heap.size w w' := by
  have hn : ∀ W, Calls Tryd.prog 47 #[.int .i64 258, .int .i64 2] W fun e w' => RetBytes W.heap.size w' [1, 2] e ∧ Below W.heap.size W w' := by
    intro W
    have := num_calls 258 2 W (by omega) (by omega) (by omega) (fun _ => by decide)
    rw [show beBytes 258 2 = [1, 2] by decide] at this
    exact this
  have HN := Lib.hid hn
  clear hn
  go_enter Tryd.func45, Tryd.ntmps45
  go_wp2_with (go_at_call 47; ((with_reducible refine (HN.out _).mono ?_); rintro e w1 ⟨⟨v, ho, rfl⟩, hb1⟩; have hcv := ho.row.conv' Tryd.underlying27 Tryd.underlying5 Tryd.underlying9; have HB := Lib.hid hb1; clear ho hb1))
  go_ret
  exact ⟨rfl, HB.out⟩
/-! Pieces behind each other. -/
def cat (f : Nat → List UInt8) (n : Nat) : List UInt8 := (List.range n).flatMap f
theorem cat_succ (f : Nat → List UInt8) (n : Nat) : cat f (n + 1) = cat f n ++ f n := by unfold cat; rw [List.range_succ, List.flatMap_append]; simp
theorem cat_len (f : Nat → List UInt8) (m n : Nat) (h : ∀ k, k < n → (f k).length ≤ m) : (cat f n).length ≤ n * m := by
  induction n with
  | zero => simp [cat]
  | succ n ih =>
    rw [cat_succ, List.length_append, Nat.succ_mul]
    have := ih (fun k hk => h k (by omega))
    have := h n (by omega)
    omega
theorem cat_split (f : Nat → List UInt8) (n k : Nat) (h : k < n) : ∃ r, cat f n = cat f k ++ (f k ++ r) := by
  induction n with
  | zero => omega
  | succ n ih =>
    by_cases hk : k = n
    · subst hk; exact ⟨[], by rw [cat_succ, List.append_nil]⟩
    · obtain ⟨r, hr⟩ := ih (by omega)
      exact ⟨r ++ f n, by rw [cat_succ, hr]; simp⟩
theorem mid (a b c : List UInt8) (p q : Nat) (hp : p = a.length) (hq : q = a.length + b.length) : ((a ++ (b ++ c)).take q).drop p = b := by
  subst hp hq
  rw [← List.append_assoc, List.take_append_of_le_length (by simp), List.take_of_length_le (by simp), List.drop_left]
def sN (l : List Int) (k : Nat) : List UInt8 := beBytes (l.getD k 0).toNat (1 + k % 8)
def OkN (l : List Int) (k : Nat) : Prop := ∃ m : Nat, l.getD k 0 = (m : Int) ∧ m ≤ 4611686018427387904 ∧ m < 256 ^ (1 + k % 8)
theorem sN_len (l : List Int) (k : Nat) : (sN l k).length = 1 + k % 8 := beBytes_len _ _
theorem num_ok (n : Int) (s : Nat) (h1 : 1 ≤ s) (h2 : s ≤ 8) (h : ¬ numBad n s) : ∃ m : Nat, n = (m : Int) ∧ m ≤ 4611686018427387904 ∧ m < 256 ^ s ∧ (s < 8 → m / 2 ^ (8 * s) = 0) := by
  have g1 : ¬ n < 0 := fun e => h (.inr (.inr (.inl e)))
  have g2 : ¬ 4611686018427387904 < n := fun e => h (.inr (.inr (.inr (.inl e))))
  obtain ⟨m, rfl⟩ : ∃ m : Nat, n = m := ⟨n.toNat, by omega⟩
  have e1 : (8 * (s : Int)).toNat = 8 * s := by omega
  have g3 : s < 8 → m / 2 ^ (8 * s) = 0 := by
    intro hs
    refine Decidable.byContradiction fun hn => h (.inr (.inr (.inr (.inr ⟨by omega, ?_⟩))))
    rw [e1]
    have : ((m : Int) / 2 ^ (8 * s)) = ((m / 2 ^ (8 * s) : Nat) : Int) := by simp
    rw [this]
    exact Int.natCast_pos.2 (Nat.pos_of_ne_zero hn)
  refine ⟨m, rfl, by omega, ?_, g3⟩
  by_cases hs : s < 8
  · have h0 := g3 hs
    rw [Nat.pow_mul] at h0
    exact (Nat.div_eq_zero_iff_lt (Nat.pow_pos (by decide))).1 h0
  · have : s = 8 := by omega
    subst this
    exact Nat.lt_of_le_of_lt (show m ≤ 4611686018427387904 by omega) (by decide)
def sT (t : List ByteArray) (k : Nat) : List UInt8 := textBytes (t.getD k ByteArray.empty)
def OkT (t : List ByteArray) (k : Nat) : Prop := (t.getD k ByteArray.empty).size ≤ 255
theorem sT_len (t : List ByteArray) (k : Nat) : (sT t k).length = 1 + (t.getD k ByteArray.empty).size := by
  unfold sT textBytes; rw [List.length_cons, ByteArray.toList_eq, Array.length_toList]; exact Nat.add_comm _ _
theorem okN_of {l : List Int} {k : Nat} (hk : k < l.length) {m : Nat} (h : l[k] = (m : Int)) (h1 : m ≤ 4611686018427387904) (h2 : m < 256 ^ (1 + k % 8)) : OkN l k ∧ sN l k = beBytes m (1 + k % 8) := by
  have e : l.getD k 0 = (m : Int) := by rw [List.getD_eq_getElem?_getD, List.getElem?_eq_getElem hk]; exact h
  exact ⟨⟨m, e, h1, h2⟩, by unfold sN; rw [e]; rfl⟩
set_option maxHeartbeats 8000000 in
theorem back_calls (A B : Option Addr) (ca cb : Nat) (l : List Int) (t : List ByteArray) (is : Bool) (w : World) (e1 e3 : Addr) (h1 : Holds w 2 e1) (h3 : Holds w 4 e3) (hl : Row eInt w (.slice A l.length ca) l) (ht : Row eStr w (.slice B t.length cb) t)
    (hla : l.length ≤ 9223372036854775807) (hta : t.length ≤ 9223372036854775807) (hsz : ∀ (i : Nat) (hi : i < t.length), t[i].size ≤ 9223372036854775807) :
    Calls Tryd.prog 10 #[.slice A l.length ca, .slice B t.length cb, .bool is] w fun e w' => e = .returned (.bool true) ∧ Below w.heap.size w w' := by
  have HE1 := Lib.hid h1
  have HE3 := Lib.hid h3
  have HL := Lib.hid hl
  have HT := Lib.hid ht
  have HSZ := Lib.hid hsz
  clear h1 h3 hl ht hsz
  by_cases h20 : 20 < l.length
  · go_enter Tryd.func10, Tryd.ntmps10
    go_wp2_with (go_at_call 45; ((with_reducible refine (balive_calls _).mono ?_); rintro e w0 ⟨rfl, hb0⟩))
    go_ret
    exact ⟨rfl, hb0⟩
  · by_cases h21 : 20 < t.length
    · go_enter Tryd.func10, Tryd.ntmps10
      go_wp2_with (go_at_call 45; ((with_reducible refine (balive_calls _).mono ?_); rintro e w0 ⟨rfl, hb0⟩))
      go_ret
      exact ⟨rfl, hb0⟩
    · have HF := Lib.hid (fun W => flag_calls is W)
      have hf1 : ([if is then (1 : UInt8) else 0]).length = 1 := rfl
      generalize hfl : [if is then (1 : UInt8) else 0] = fl at HF hf1
      have HFL := Lib.hid hfl
      have HF1 := Lib.hid hf1
      clear hfl hf1
      go_enter Tryd.func10, Tryd.ntmps10
      go_wp2_with (first
        | (go_at_call 45; ((with_reducible refine (balive_calls _).mono ?_); rintro e w0 ⟨rfl, hb0⟩; have HB0 := Lib.hid hb0; clear hb0))
        | (go_at_call 46; ((with_reducible refine (HF.out _).mono ?_); rintro e w1 ⟨⟨v1, ho1, rfl⟩, hb1⟩; have HO1 := Lib.hid (ho1.lower HB0.out.size); have HB1 := Lib.hid (below_next HB0.out hb1); clear ho1 hb1)))
      go_loopw [7, 35] (fun ov iv W => ∃ k : Nat, k ≤ l.length ∧ iv = .int .i64 (k : Int) ∧ Hid (Own eU8 5 w.heap.size W ov (fl ++ cat (sN l) k)) ∧ Hid (∀ j, j < k → OkN l j) ∧ Hid (Below w.heap.size w W)) (fun _ iv _ => l.length - (intOf iv).toNat)
      case atStart => exact ⟨0, Nat.zero_le _, rfl, Lib.hid (by rw [show cat (sN l) 0 = [] from rfl, List.append_nil]; exact HO1.out), Lib.hid (fun j h => absurd h (Nat.not_lt_zero j)), HB1⟩
      case round =>
        obtain ⟨k, hk, rfl, HO, HK, HB⟩ := hrel
        by_cases hlt : k < l.length
        · obtain ⟨ad, rfl, hcell⟩ := (HL.out.below HB.out).atInt hlt
          have hsz8 : ((1 + k % 8 : Nat) : Int) = 1 + (k : Int) % 8 := by omega
          have hklt : (k : Int) < (l.length : Int) := by omega
          by_cases hbad : numBad l[k] ((1 + k % 8 : Nat) : Int)
          · have KN := fun W he => num_no l[k] ((1 + k % 8 : Nat) : Int) W e1 hbad he (by omega)
            rw [hsz8] at KN
            have HN := Lib.hid KN
            clear KN hbad hsz8
            go_wp2_with (go_at_call 47; ((with_reducible refine (HN.out _ (HE1.out.below HB.out)).mono ?_); rintro e w2 ⟨rfl, m2, rfl⟩))
            go_ret
            exact ⟨rfl, below_drewN HB.out _⟩
          · obtain ⟨m, hm, hm1, hm2, hm3⟩ := num_ok l[k] (1 + k % 8) (by omega) (by omega) hbad
            obtain ⟨hok, hsn⟩ := okN_of hlt hm hm1 hm2
            have KN := fun W => num_calls m (1 + k % 8) W (by omega) (by omega) hm1 hm3
            rw [← hsn, hsz8, ← hm] at KN
            have HN := Lib.hid KN
            have HOK := Lib.hid hok
            have hlen : (fl ++ cat (sN l) k).length + (sN l k).length ≤ 1000 := by
              have h1 := cat_len (sN l) 8 k (fun j _ => by rw [sN_len]; omega)
              have h2 := sN_len l k
              rw [List.length_append, HF1.out]
              omega
            have HLEN := Lib.hid hlen
            clear KN hbad hsz8 hm hm1 hm2 hm3 hok hsn hlen
            go_wp2_with (first
              | (go_at_call 47; ((with_reducible refine (HN.out _).mono ?_); rintro e w2 ⟨⟨v2, ho2, rfl⟩, hb2⟩; have HB2 := Lib.hid (below_next HB.out hb2); have HO2 := Lib.hid (HO.out.below hb2); have HR2 := Lib.hid ho2.row; clear ho2 hb2))
              | (at_builtin; (refine wp_append (E := eU8) w.heap.size rfl (.tmp 53) (.tmp 54) 27 5 _ 1 rfl Tryd.underlying27 infoU8 rfl (by decide) _ _ (fl ++ cat (sN l) k) (sN l k) rfl rfl HO2.out HR2.out HB2.out.size (by have := HLEN.out; omega) ?_; intro v3 w3 ho3 hg3 hat3)))
            go_roundw
            case rel => exact ⟨k + 1, by omega, rfl, Lib.hid (by rw [cat_succ, ← List.append_assoc]; exact ho3), Lib.hid (fun j hj => by rcases Nat.lt_or_ge j k with h | h; exact HK.out j h; exact (show j = k by omega) ▸ HOK.out), Lib.hid (below_app HB2.out HB2.out.size HO2.out hg3)⟩
            case measure => simp [intOf]; omega
        · have hkl : k = l.length := by omega
          subst hkl
          have hpl : (fl ++ cat (sN l) l.length).length ≤ 161 := by
            have h1 := cat_len (sN l) 8 l.length (fun j _ => by rw [sN_len]; omega)
            rw [List.length_append, HF1.out]
            omega
          generalize hP : fl ++ cat (sN l) l.length = P at HO hpl
          have HP := Lib.hid hP
          have HPL := Lib.hid hpl
          clear hP hpl
          go_wp2
          go_loopw [7, 59] (fun ov iv W => ∃ k : Nat, k ≤ t.length ∧ iv = .int .i64 (k : Int) ∧ Hid (Own eU8 5 w.heap.size W ov (P ++ cat (sT t) k)) ∧ Hid (∀ j, j < k → OkT t j) ∧ Hid (Below w.heap.size w W)) (fun _ iv _ => t.length - (intOf iv).toNat)
          case atStart => exact ⟨0, Nat.zero_le _, rfl, Lib.hid (by rw [show cat (sT t) 0 = [] from rfl, List.append_nil]; exact HO.out), Lib.hid (fun j h => absurd h (Nat.not_lt_zero j)), HB⟩
          case round =>
            clear HO HB
            obtain ⟨k, hk2, rfl, HO, HK2, HB⟩ := hrel
            by_cases hlt : k < t.length
            · obtain ⟨ad, rfl, hcell⟩ := (HT.out.below HB.out).at1 hlt
              have hsk := HSZ.out k hlt
              have hget : t.getD k ByteArray.empty = t[k] := by rw [List.getD_eq_getElem?_getD, List.getElem?_eq_getElem hlt]; rfl
              have hsT : sT t k = textBytes t[k] := by unfold sT; rw [hget]
              have hoT : t[k].size ≤ 255 → OkT t k := fun h => by unfold OkT; rw [hget]; exact h
              have HST := Lib.hid hsT
              have HOT := Lib.hid hoT
              have hlT := sT_len t k
              rw [hget] at hlT
              have HLT := Lib.hid hlT
              clear hget hsT hoT hlT
              generalize t[k] = s at hcell hsk HST HOT HLT
              by_cases h300 : 300 < s.size
              · go_wp2
                go_ret
                exact ⟨rfl, HB.out⟩
              · by_cases h255 : 255 < s.size
                · go_wp2_with (go_at_call 48; ((with_reducible refine (text_no s _ e3 h255 (HE3.out.below HB.out) hsk).mono ?_); rintro e w2 ⟨rfl, m2, rfl⟩))
                  go_ret
                  exact ⟨rfl, below_drewN HB.out _⟩
                · have hle : s.size ≤ 255 := by omega
                  have hlen : (P ++ cat (sT t) k).length + (sT t k).length ≤ 100000 := by
                    have h1 := cat_len (sT t) 256 k (fun j hj => by rw [sT_len]; have := HK2.out j hj; unfold OkT at this; omega)
                    have h2 := HLT.out
                    have := HPL.out
                    rw [List.length_append]
                    omega
                  have HLEN := Lib.hid hlen
                  clear hlen
                  go_wp2_with (first
                    | (go_at_call 48; ((with_reducible refine (text_calls s _ hle).mono ?_); rintro e w2 ⟨⟨v2, ho2, rfl⟩, hb2⟩; have HB2 := Lib.hid (below_next HB.out hb2); have HO2 := Lib.hid (HO.out.below hb2); have HR2 := Lib.hid (HST.out.symm ▸ ho2.row); clear ho2 hb2))
                    | (at_builtin; (refine wp_append (E := eU8) w.heap.size rfl (.tmp 76) (.tmp 77) 27 5 _ 1 rfl Tryd.underlying27 infoU8 rfl (by decide) _ _ (P ++ cat (sT t) k) (sT t k) rfl rfl HO2.out HR2.out HB2.out.size (by have := HLEN.out; omega) ?_; intro v3 w3 ho3 hg3 hat3)))
                  go_roundw
                  case rel => exact ⟨k + 1, by omega, rfl, Lib.hid (by rw [cat_succ, ← List.append_assoc]; exact ho3), Lib.hid (fun j hj => by rcases Nat.lt_or_ge j k with h | h; exact HK2.out j h; exact (show j = k by omega) ▸ HOT.out hle), Lib.hid (below_app HB2.out HB2.out.size HO2.out hg3)⟩
                  case measure => simp [intOf]; omega
            · have hkl : k = t.length := by omega
              subst hkl
              have hql : (P ++ cat (sT t) t.length).length ≤ 100000 := by
                have h1 := cat_len (sT t) 256 t.length (fun j hj => by rw [sT_len]; have := HK2.out j hj; unfold OkT at this; omega)
                have := HPL.out
                rw [List.length_append]
                omega
              have hpos : 0 < (P ++ cat (sT t) t.length).length := by
                rw [← HP.out, List.length_append, List.length_append, HF1.out]; omega
              have hP1 : P.length = 1 + (cat (sN l) l.length).length := by rw [← HP.out, List.length_append, HF1.out]
              have hQ1 : (P ++ cat (sT t) t.length).length = P.length + (cat (sT t) t.length).length := List.length_append ..
              have hq0 : ((P ++ cat (sT t) t.length).take (0 + 1)).drop 0 = [if is then 1 else 0] := by
                rw [← HP.out, HFL.out, List.append_assoc, List.drop_zero, ← HF1.out, Nat.zero_add, List.take_left]
              have hqN : ∀ k, k < l.length → ((P ++ cat (sT t) t.length).take (1 + (cat (sN l) k).length + (1 + k % 8))).drop (1 + (cat (sN l) k).length) = sN l k := by
                intro k hk
                obtain ⟨r, hr⟩ := cat_split (sN l) l.length k hk
                rw [← HP.out, hr]
                have := mid (fl ++ cat (sN l) k) (sN l k) (r ++ cat (sT t) t.length) (1 + (cat (sN l) k).length) (1 + (cat (sN l) k).length + (1 + k % 8)) (by rw [List.length_append, HF1.out]) (by rw [List.length_append, HF1.out, sN_len])
                simpa [List.append_assoc] using this
              have hqT : ∀ k, k < t.length → ((P ++ cat (sT t) t.length).take (P.length + (cat (sT t) k).length + (1 + (t.getD k ByteArray.empty).size))).drop (P.length + (cat (sT t) k).length) = sT t k ∧ P.length + (cat (sT t) k).length + (1 + (t.getD k ByteArray.empty).size) ≤ (P ++ cat (sT t) t.length).length := by
                intro k hk
                obtain ⟨r, hr⟩ := cat_split (sT t) t.length k hk
                have := mid (P ++ cat (sT t) k) (sT t k) r (P.length + (cat (sT t) k).length) (P.length + (cat (sT t) k).length + (1 + (t.getD k ByteArray.empty).size)) (by rw [List.length_append]) (by rw [List.length_append, sT_len])
                rw [hr]
                refine ⟨by simpa [List.append_assoc] using this, ?_⟩
                simp only [List.length_append, sT_len]; omega
              have hqM : ∀ k, k < l.length → 1 + (cat (sN l) k).length + (1 + k % 8) ≤ P.length := by
                intro k hk
                obtain ⟨r, hr⟩ := cat_split (sN l) l.length k hk
                rw [hP1, hr]
                simp only [List.length_append, sN_len]; omega
              generalize P ++ cat (sT t) t.length = Q at HO hql hpos hQ1 hq0 hqN hqT
              have HQN := Lib.hid hqN
              have HQT := Lib.hid hqT
              have HQM := Lib.hid hqM
              have HP1 := Lib.hid hP1
              have HQ1 := Lib.hid hQ1
              have HQ0 := Lib.hid hq0
              clear hqN hqT hqM hP1 hQ1 hq0
              obtain ⟨A7, c7, rfl, hc7, hm7, _⟩ := HO.out.row.parts
              go_wp2_with (first
                | (go_at_call 49; ((with_reducible refine (at_calls _ Q _ HO.out.row (by omega) hpos).mono ?_); rintro e w4 ⟨⟨c, ad4, cc, rfl, hx4, hr4, hne4, hle4⟩, hb4⟩; have HX4 := Lib.hid hx4; have HR4 := Lib.hid hr4; have HNE := Lib.hid hne4; have HLE := Lib.hid (show w.heap.size ≤ c from Nat.le_trans HB.out.size hle4); have HB4 := Lib.hid (below_next HB.out hb4); clear hx4 hr4 hne4 hle4 hb4))
                | (go_at_call 50; ((with_reducible refine (cur_flag c ad4 Q.length cc 0 is Q _ HX4.out HR4.out (by omega) (by omega) HNE.out HQ0.out).mono ?_); rintro e w5 ⟨rfl, hx5, ha5⟩; have HX5 := Lib.hid hx5; have HA5 := Lib.hid ha5; clear hx5 ha5)))
              go_loopw [92] (fun iv W => ∃ k : Nat, k ≤ l.length ∧ iv = .int .i64 (k : Int) ∧ Hid (Box c (curA ad4 Q.length cc (1 + (cat (sN l) k).length)) W) ∧ Hid (Alt (fun b => b = c) w4 W)) (fun iv _ => l.length - (intOf iv).toNat)
              case atStart => exact ⟨0, Nat.zero_le _, rfl, HX5, HA5⟩
              case round =>
                clear HX5 HA5
                obtain ⟨k, hk3, rfl, HX5, HA5⟩ := hrel
                have HBW := Lib.hid (below_alt HB4.out HA5.out HB4.out.size (fun b hb => hb ▸ HLE.out))
                have HR5 := Lib.hid (HR4.out.alt HA5.out (fun a ha e => by cases ha; exact HNE.out e))
                by_cases hlt : k < l.length
                · obtain ⟨ad, rfl, hcell⟩ := (HL.out.below HBW.out).atInt hlt
                  obtain ⟨m, hm0, hm1, hm2⟩ := HK.out k hlt
                  have hget : l.getD k 0 = l[k] := by rw [List.getD_eq_getElem?_getD, List.getElem?_eq_getElem hlt]; rfl
                  have hsn : sN l k = beBytes m (1 + k % 8) := by unfold sN; rw [hm0]; rfl
                  rw [hget] at hm0
                  have hq := HQN.out k hlt
                  rw [hsn] at hq
                  have hsz8 : 1 + (k : Int) % 8 = ((1 + k % 8 : Nat) : Int) := by omega
                  have KN := Lib.hid (fun W hx hr => cur_num c ad4 Q.length cc (1 + (cat (sN l) k).length) (1 + k % 8) (1 + (k : Int) % 8) m Q W hx hr hsz8 (by omega) (by omega) (by have := HQM.out k hlt; have := HQ1.out; omega) (by omega) hq hm2 hm1)
                  have HST := Lib.hid (show 1 + (cat (sN l) (k + 1)).length = 1 + (cat (sN l) k).length + (1 + k % 8) by rw [cat_succ, List.length_append, sN_len]; omega)
                  have HM0 := Lib.hid hm0
                  rw [hm0] at hcell
                  clear hm0 hm1 hm2 hget hsn hq hsz8
                  go_wp2_with (go_at_call 51; ((with_reducible refine (KN.out _ HX5.out HR5.out).mono ?_); rintro e w6 ⟨rfl, hx6, ha6⟩; have HX6 := Lib.hid hx6; have HA6 := Lib.hid (HA5.out.trans ha6); clear hx6 ha6))
                  go_roundw
                  case rel => exact ⟨k + 1, by omega, rfl, Lib.hid (by rw [HST.out]; exact HX6.out), HA6⟩
                  case measure => simp [intOf]; omega
                · have hkl : k = l.length := by omega
                  subst hkl
                  rw [← HP1.out] at HX5
                  go_wp2
                  go_loopw [107] (fun iv W => ∃ k : Nat, k ≤ t.length ∧ iv = .int .i64 (k : Int) ∧ Hid (Box c (curA ad4 Q.length cc (P.length + (cat (sT t) k).length)) W) ∧ Hid (Alt (fun b => b = c) w4 W)) (fun iv _ => t.length - (intOf iv).toNat)
                  case atStart => exact ⟨0, Nat.zero_le _, rfl, HX5, HA5⟩
                  case round =>
                    clear HX5 HA5 HBW HR5
                    obtain ⟨k, hk4, rfl, HX5, HA5⟩ := hrel
                    have HBW := Lib.hid (below_alt HB4.out HA5.out HB4.out.size (fun b hb => hb ▸ HLE.out))
                    have HR5 := Lib.hid (HR4.out.alt HA5.out (fun a ha e => by cases ha; exact HNE.out e))
                    by_cases hlt : k < t.length
                    · obtain ⟨ad, rfl, hcell⟩ := (HT.out.below HBW.out).at1 hlt
                      have hget : t.getD k ByteArray.empty = t[k] := by rw [List.getD_eq_getElem?_getD, List.getElem?_eq_getElem hlt]; rfl
                      have hok := HK2.out k hlt
                      obtain ⟨hq, hq2⟩ := HQT.out k hlt
                      have hst := sT_len t k
                      unfold OkT at hok
                      unfold sT textBytes at hq
                      rw [hget] at hok hq hq2 hst
                      generalize t[k] = s at hcell hok hq hq2 hst
                      have hsl : s.toList.length = s.size := by rw [ByteArray.toList_eq, Array.length_toList]; rfl
                      rw [← hsl] at hq hq2 hst hok
                      have KN := Lib.hid (fun W hx hr => cur_text c ad4 Q.length cc (P.length + (cat (sT t) k).length) s.toList Q W hx hr hok hq2 (by omega) HNE.out hq)
                      have hss : str s.toList = s := by rw [ByteArray.toList_eq]
                      rw [hss] at KN
                      have HST := Lib.hid (show P.length + (cat (sT t) (k + 1)).length = P.length + (cat (sT t) k).length + (1 + s.toList.length) by rw [cat_succ, List.length_append, hst]; omega)
                      clear hget hok hq hq2 hst hsl hss
                      go_wp2_with (go_at_call 52; ((with_reducible refine (KN.out _ HX5.out HR5.out).mono ?_); rintro e w6 ⟨rfl, hx6, ha6⟩; have HX6 := Lib.hid hx6; have HA6 := Lib.hid (HA5.out.trans ha6); clear hx6 ha6))
                      go_roundw
                      case rel => exact ⟨k + 1, by omega, rfl, Lib.hid (by rw [HST.out]; exact HX6.out), HA6⟩
                      case measure => simp [intOf]; omega
                    · have hkl : k = t.length := by omega
                      subst hkl
                      rw [← HQ1.out] at HX5
                      go_wp2_with (first
                        | (go_at_call 53; ((with_reducible refine (end_calls c ad4 Q.length cc _ HX5.out (by omega)).mono ?_); rintro e w6 ⟨rfl, m6, rfl⟩; have HX6 := Lib.hid (HX5.out.below (below_drewN (Below.refl _ _) m6))))
                        | (go_at_call 54; ((with_reducible refine (left_calls c ad4 Q.length cc Q.length _ HX6.out (Nat.le_refl _) (by omega)).mono ?_); rintro e w7 ⟨rfl, m7, rfl⟩; have HX7 := Lib.hid (HX5.out.below (below_drewN (Below.refl _ _) (m6 + m7)))))
                        | (go_at_call 55; ((with_reducible refine (cplace_calls c ad4 Q.length cc Q.length _ HX7.out).mono ?_); rintro e w8 ⟨rfl, rfl⟩)))
                      go_ret
                      exact ⟨by simp, below_drewN HBW.out _⟩
open Go.Proofs.YtmpdcdfnbkfabaaDoor.Open Go.WideShapes
def IsInts (W : World) (v : Value) : Prop := ∃ xs : List Int, Row eInt W v xs
def IsTexts (W : World) (v : Value) : Prop := ∃ xs : List ByteArray, Row eStr W v xs ∧ ∀ (i : Nat) (hi : i < xs.length), xs[i].size ≤ maxLen
theorem isInts {H : Type} {enc : TypeId × Value → H} {W : World} {base : Nat} {sp : Nat → Bool} {held : Bool} {v : Value} {d : DataW H} {ps : List MemPlace} (hv : Value.okWide Tryd.prog W .any base 60 v) (h : DataW.Trod enc Tryd.prog W 0 sp held 60 v d ps) : IsInts W v := by
  have hc : Tryd.prog.cellsOf 3 = eInt.sz := by kernel_rfl
  obtain ⟨a, n, c, rfl⟩ := okWide_slice Tryd.underlying60 hv
  obtain ⟨u, xs, hu, hrow, _⟩ := (Rd.of h).row (E := eInt) (Q := fun _ => True) Tryd.underlying60 hc (fun ds hd => by obtain ⟨x, hx, _⟩ := hd.int Tryd.underlying3; exact ⟨x, hx, trivial⟩)
  cases hu
  exact ⟨xs, hrow⟩
theorem isTexts {H : Type} {enc : TypeId × Value → H} {W : World} {base : Nat} {sp : Nat → Bool} {held : Bool} {v : Value} {d : DataW H} {ps : List MemPlace} (hv : Value.okWide Tryd.prog W .any base 23 v) (h : DataW.Trod enc Tryd.prog W 0 sp held 23 v d ps) : IsTexts W v := by
  have hc : Tryd.prog.cellsOf 9 = eStr.sz := by kernel_rfl
  obtain ⟨a, n, c, rfl⟩ := okWide_slice Tryd.underlying23 hv
  obtain ⟨u, xs, hu, hrow, hq⟩ := (Rd.of h).row (E := eStr) (Q := fun s => s.size ≤ maxLen) Tryd.underlying23 hc (fun ds hd => by obtain ⟨x, hx, hl⟩ := hd.string Tryd.underlying9; exact ⟨x, hx, hl⟩)
  cases hu
  exact ⟨xs, hrow, hq⟩
theorem back_row (W : World) (es : List Addr) (el : es.length = 4) (en : es.Nodup) (eh : ∀ (k g : Nat) (a : Addr), [2, 3, 4, 1][k]? = some g → es[k]? = some a → Holds W g a) (v : Value) (hv : IsInts W v) (u : Value) (hu : IsTexts W u) (is : Bool) :
    Calls Tryd.prog 10 #[v, u, .bool is] W fun e W' => e = .returned (.bool true) ∧ Below W.heap.size W W' := by
  match es, el with
  | [e0, e1, e2, e3], _ =>
    obtain ⟨l, hr⟩ := hv
    obtain ⟨t, ht, hq⟩ := hu
    obtain ⟨A, c, rfl, h1, h2, hr'⟩ := hr.parts
    obtain ⟨B, d, rfl, h3, h4, ht'⟩ := ht.parts
    exact back_calls A B c d l t is W e0 e2 (eh 0 _ _ rfl rfl) (eh 2 _ _ rfl rfl) hr' ht' (by omega) (by omega) (fun i hi => by have := hq i hi; unfold maxLen at this; omega)
end Go.Proofs.YtmpdcdfnbkfabaaDoor.Octets
