/- The law SumsChanged. -/
import Derived.Shelf.RegionOpenPlain
import Derived.Test.YtfoehgcamkmooaaDoorSums4
namespace Go.Proofs.YtfoehgcamkmooaaDoor.Sums
open Go.RowKit Go.Proofs.YtfoehgcamkmooaaDoor.Mem Go.Proofs.YtfoehgcamkmooaaDoor.Num Go.Proofs.YtfoehgcamkmooaaDoor.SumsP
set_option linter.unusedVariables false
set_option linter.unusedSimpArgs false
/-- The checksum behind the first k changes. -/
def chgTo (c : Int) (l m : List UInt8) : Nat → Int
  | 0 => c
  | k + 1 => changeN (chgTo c l m k) (pairN (l.drop (2 * k))) (pairN (m.drop (2 * k)))
def chgAll (c : Int) (l m : List UInt8) : Int := chgTo (c % 65536) l m ((min l.length m.length + 1) / 2)
theorem changeN_range (c a b : Int) : 0 ≤ changeN c a b ∧ changeN c a b ≤ 65535 := by
  have := foldN_range (65535 - c % 65536 + 65535 - a % 65536 + b % 65536)
  unfold changeN; omega
theorem chgTo_range (c : Int) (l m : List UInt8) (k : Nat) : 0 ≤ chgTo (c % 65536) l m k ∧ chgTo (c % 65536) l m k ≤ 65535 := by
  cases k with
  | zero => have := mod65536 c; simp only [chgTo]; omega
  | succ k => exact changeN_range _ _ _
theorem changed_calls (c : Int) (v u : Value) (l m : List UInt8) (w : World) (hv : Row eU8 w v l) (hu : Row eU8 w u m) (hl : l.length ≤ 1000000) (hm : m.length ≤ 1000000) :
    Calls Tryd.prog 81 #[.int .i64 c, v, u] w fun e w' => e = .returned (.int .i64 (chgAll c l m)) ∧ ∃ n, w' = w.drewN n := by
  obtain ⟨A, ca, rfl, hca, hma, hra⟩ := hv.parts
  obtain ⟨B, cb, rfl, hcb, hmb, hrb⟩ := hu.parts
  have HA := Lib.hid hra
  have HB := Lib.hid hrb
  clear hv hu hra hrb
  have h1 := mask_any c
  have hmx : Tryd.prog.follows .mixedOrders = true := by kernel_rfl
  go_enter Tryd.func81, Tryd.ntmps81
  go_wp2
  go_loopw [0, 7] (fun cv i W => ∃ k : Nat, 2 * k < min l.length m.length + 2 ∧ i = .int .i64 (2 * (k : Int)) ∧ cv = .int .i64 (chgTo (c % 65536) l m k) ∧ ∃ n, W = w.drewN n) (fun _ i _ => (l.length + 2) - (intOf i).toNat)
  case atStart => exact ⟨0, by omega, rfl, rfl, 0, rfl⟩
  case round =>
    obtain ⟨k, hk, rfl, rfl, nd, rfl⟩ := hrel
    by_cases hlt : 2 * k < l.length
    · by_cases hlt2 : 2 * k < m.length
      · obtain ⟨A', _, _, hcA, hrowA⟩ := HA.out.cut (P := Tryd.prog) 22 5 Tryd.underlying22 infoU8 (2 * k) l.length (by omega) (Nat.le_refl _)
        obtain ⟨B', _, _, hcB, hrowB⟩ := HB.out.cut (P := Tryd.prog) 22 5 Tryd.underlying22 infoU8 (2 * k) m.length (by omega) (Nat.le_refl _)
        have hcutA : ∀ W, (Instr.slice 22 (.slice A l.length ca) (some (.int .i64 (2 * (k : Int)))) none none).run Tryd.prog W = .ok (.slice A' (l.length - 2 * k) (ca - 2 * k)) W := fun W => by simpa using hcA rfl W .i64
        have hcutB : ∀ W, (Instr.slice 22 (.slice B m.length cb) (some (.int .i64 (2 * (k : Int)))) none none).run Tryd.prog W = .ok (.slice B' (m.length - 2 * k) (cb - 2 * k)) W := fun W => by simpa using hcB rfl W .i64
        rw [List.take_length] at hrowA hrowB
        have HCA := Lib.hid (fun n => pair_calls _ _ (w.drewN n) (hrowA (w.drewN n) (fun _ _ h => h)) (by rw [List.length_drop]; omega))
        have HCB := Lib.hid (fun n => pair_calls _ _ (w.drewN n) (hrowB (w.drewN n) (fun _ _ h => h)) (by rw [List.length_drop]; omega))
        clear hrowA hrowB hcA hcB
        go_wp2
        go_region_with_o (first
          | (go_at_call 74; ((with_reducible refine (HCA.out _).mono ?_); rintro e w' ⟨rfl, rfl⟩))
          | (go_at_call 74; ((with_reducible refine (HCB.out _).mono ?_); rintro e w' ⟨rfl, rfl⟩))
          | (go_at_call 92; ((with_reducible refine (change_calls _ _ _ _).mono ?_); rintro e w' ⟨rfl, rfl⟩)))
        all_goals go_wp2
        all_goals go_roundw
        all_goals first
          | exact ⟨k + 1, by omega, by simp; omega, rfl, _, rfl⟩
          | (show l.length + 2 - (2 * (k : Int) + 2).toNat < l.length + 2 - (2 * (k : Int)).toNat; omega)
      · go_wp2
        go_ret
        exact ⟨ret_i64 (by unfold chgAll; congr 1; omega), nd, rfl⟩
    · go_wp2
      go_ret
      exact ⟨ret_i64 (by unfold chgAll; congr 1; omega), nd, rfl⟩
theorem refpair_calls (v : Value) (l : List UInt8) (k : Nat) (w : World) (hv : Row eU8 w v l) (hl : l.length ≤ 1000000) (hk : 2 * k < l.length) :
    Calls Tryd.prog 72 #[v, .int .i64 (2 * (k : Int))] w fun e w' => e = .returned (.int .i64 (pairN (l.drop (2 * k)) : Int)) ∧ w = w' := by
  obtain ⟨A, c, rfl, hc, hm, hr⟩ := hv.parts
  obtain ⟨ad, rfl, h0⟩ := hr.atU8 (k := 2 * k) hk
  have hx := l[2 * k].toNat_lt
  by_cases h2 : 2 * k + 1 < l.length
  · obtain ⟨ad', had, h1⟩ := hr.atU8 (k := 2 * k + 1) h2
    cases had
    have hp : pairN (l.drop (2 * k)) = l[2 * k].toNat * 256 + l[2 * k + 1].toNat := by
      rw [List.drop_eq_getElem_cons hk, List.drop_eq_getElem_cons h2]; rfl
    have hy := l[2 * k + 1].toNat_lt
    rw [hp]
    generalize l[2 * k] = X at h0 hx ⊢
    generalize l[2 * k + 1] = Y at h1 hy ⊢
    have h1' : w.cell? ⟨ad.block, ad.off + (2 * k + 1), none⟩ = some (.int .u8 (Y.toNat : Int)) := by simpa [Addr.add] using h1
    clear hr hv hp
    go_enter Tryd.func72, Tryd.ntmps72
    go_wp2
    go_ret
    exact ⟨ret_i64 (by simp), rfl⟩
  · have hp : pairN (l.drop (2 * k)) = l[2 * k].toNat * 256 := by
      rw [List.drop_eq_getElem_cons hk, List.drop_of_length_le (by omega)]; rfl
    rw [hp]
    generalize l[2 * k] = X at h0 hx ⊢
    clear hr hv hp
    go_enter Tryd.func72, Tryd.ntmps72
    go_wp2
    go_ret
    exact ⟨ret_i64 (by simp), rfl⟩
theorem refchanged_calls (c : Int) (v u : Value) (l m : List UInt8) (w : World) (hv : Row eU8 w v l) (hu : Row eU8 w u m) (hl : l.length ≤ 1000000) (hm : m.length ≤ 1000000) :
    Calls Tryd.prog 48 #[.int .i64 c, v, u] w fun e w' => e = .returned (.int .i64 (chgAll c l m)) ∧ ∃ n, w' = w.drewN n := by
  obtain ⟨A, ca, rfl, hca, hma, hra⟩ := hv.parts
  obtain ⟨B, cb, rfl, hcb, hmb, hrb⟩ := hu.parts
  have HA := Lib.hid hra
  have HB := Lib.hid hrb
  clear hv hu hra hrb
  have hmx : Tryd.prog.follows .mixedOrders = true := by kernel_rfl
  go_enter Tryd.func48, Tryd.ntmps48
  go_wp2_with (go_at_call 70; ((with_reducible refine (low_calls _ _).mono ?_); rintro e w' ⟨rfl, rfl⟩))
  go_loopw [7, 8] (fun cv i W => ∃ k : Nat, 2 * k < min l.length m.length + 2 ∧ i = .int .i64 (2 * (k : Int)) ∧ cv = .int .i64 (chgTo (c % 65536) l m k) ∧ ∃ n, W = w.drewN n) (fun _ i _ => (l.length + 2) - (intOf i).toNat)
  case atStart => exact ⟨0, by omega, rfl, rfl, 0, rfl⟩
  case round =>
    obtain ⟨k, hk, rfl, rfl, nd, rfl⟩ := hrel
    by_cases hlt : 2 * k < l.length
    · by_cases hlt2 : 2 * k < m.length
      · have HCA := Lib.hid (fun n => refpair_calls _ l k (w.drewN n) (HA.out.drewN n) hl hlt)
        have HCB := Lib.hid (fun n => refpair_calls _ m k (w.drewN n) (HB.out.drewN n) hm hlt2)
        go_wp2_with (first
          | (go_at_call 72; ((with_reducible refine (HCA.out _).mono ?_); rintro e w' ⟨rfl, rfl⟩))
          | (go_at_call 72; ((with_reducible refine (HCB.out _).mono ?_); rintro e w' ⟨rfl, rfl⟩))
          | (go_at_call 71; ((with_reducible refine (refchange_calls _ _ _ _).mono ?_); rintro e w' ⟨rfl, rfl⟩)))
        go_goals
        all_goals go_wp2
        all_goals go_roundw
        all_goals first
          | exact ⟨k + 1, by omega, by simp; omega, rfl, _, rfl⟩
          | (show l.length + 2 - (2 * (k : Int) + 2).toNat < l.length + 2 - (2 * (k : Int)).toNat; omega)
      · go_wp2
        go_ret
        exact ⟨ret_i64 (by unfold chgAll; congr 1; omega), nd, rfl⟩
    · go_wp2
      go_ret
      exact ⟨ret_i64 (by unfold chgAll; congr 1; omega), nd, rfl⟩
/-! The plain law. -/
theorem total_even (l m : List UInt8) (h : l.length % 2 = 0) : total (l ++ m) = total l + total m := by
  match l with
  | [] => simp [total]
  | [y] => simp at h
  | y :: z :: r =>
    have := total_even r m (by simp only [List.length_cons] at h; omega)
    simp only [List.cons_append, total, this]; omega
theorem changeN_mod (x a b : Int) (hx : 0 ≤ x) (hx' : x ≤ 65535) (ha : 0 ≤ a) (ha' : a ≤ 65535) (hb : 0 ≤ b) (hb' : b ≤ 65535) : (changeN x a b) % 65535 = (x + a - b) % 65535 := by
  unfold changeN foldN
  split <;> omega
theorem chgTo_mod (c : Int) (l m : List UInt8) (k : Nat) : (chgTo (c % 65536) l m k) % 65535 = (c % 65536 + (upTo l k : Nat) - (upTo m k : Nat)) % 65535 := by
  induction k with
  | zero => simp [chgTo, upTo_zero]
  | succ k ih =>
    have h1 := chgTo_range c l m k
    have h2 := pairN_le (l.drop (2 * k))
    have h3 := pairN_le (m.drop (2 * k))
    rw [chgTo, changeN_mod _ _ _ h1.1 h1.2 (by omega) (by omega) (by omega) (by omega), upTo_succ, upTo_succ]
    omega
theorem checkN_range (l : List UInt8) : 0 ≤ checkN l ∧ checkN l ≤ 65535 := by
  have := foldN_range (total l : Nat)
  unfold checkN; omega
theorem checkN_mod (l : List UInt8) : (checkN l) % 65535 = (-(total l : Nat) : Int) % 65535 := by
  unfold checkN foldN; split <;> omega
theorem same_law (b nw : List UInt8) (q r : Nat) (h : q * 2 + r * 2 ≤ b.length) (hn : nw.length = r * 2) :
    sameN (chgAll (checkN b) ((b.take (q * 2 + r * 2)).drop (q * 2)) nw) (checkN ((b.take (q * 2) ++ nw) ++ b.drop (q * 2 + r * 2))) = true := by
  have hwl : ((b.take (q * 2 + r * 2)).drop (q * 2)).length = r * 2 := by rw [List.length_drop, List.length_take]; omega
  have hk : (min ((b.take (q * 2 + r * 2)).drop (q * 2)).length nw.length + 1) / 2 = r := by rw [hwl, hn]; omega
  have h1 := chgTo_range (checkN b) ((b.take (q * 2 + r * 2)).drop (q * 2)) nw r
  have h2 := chgTo_mod (checkN b) ((b.take (q * 2 + r * 2)).drop (q * 2)) nw r
  have h3 := checkN_range b
  have h4 := checkN_mod b
  have h5 := checkN_range ((b.take (q * 2) ++ nw) ++ b.drop (q * 2 + r * 2))
  have h6 := checkN_mod ((b.take (q * 2) ++ nw) ++ b.drop (q * 2 + r * 2))
  rw [upTo_all _ r (by omega), upTo_all _ r (by omega)] at h2
  have ht : total b = total (b.take (q * 2)) + total ((b.take (q * 2 + r * 2)).drop (q * 2)) + total (b.drop (q * 2 + r * 2)) := by
    have e1 : b = b.take (q * 2) ++ ((b.take (q * 2 + r * 2)).drop (q * 2) ++ b.drop (q * 2 + r * 2)) := by
      rw [← List.append_assoc]
      have e2 : b.take (q * 2) ++ (b.take (q * 2 + r * 2)).drop (q * 2) = b.take (q * 2 + r * 2) := by
        have := List.take_append_drop (q * 2) (b.take (q * 2 + r * 2))
        rwa [List.take_take, Nat.min_eq_left (by omega)] at this
      rw [e2, List.take_append_drop]
    have e3 := congrArg total e1
    rw [total_even _ _ (by rw [List.length_take]; omega), total_even _ _ (by omega)] at e3
    omega
  have hn' : total ((b.take (q * 2) ++ nw) ++ b.drop (q * 2 + r * 2)) = total (b.take (q * 2)) + total nw + total (b.drop (q * 2 + r * 2)) := by
    rw [total_even _ _ (by rw [List.length_append, List.length_take]; omega), total_even _ _ (by rw [List.length_take]; omega)]
  rw [hn'] at h6
  unfold chgAll
  rw [hk]
  unfold sameN
  simp only [Bool.or_eq_true, Bool.and_eq_true, beq_iff_eq]
  omega
end Go.Proofs.YtfoehgcamkmooaaDoor.Sums
