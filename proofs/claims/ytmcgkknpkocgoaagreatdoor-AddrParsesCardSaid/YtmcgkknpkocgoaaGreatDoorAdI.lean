/- The law PortsWords. -/
import Derived.Test.YtmcgkknpkocgoaaGreatDoorAdH
namespace Go.Proofs.YtmcgkknpkocgoaaGreatDoor.Ad
open Go.RowKit Go.Proofs.YtmcgkknpkocgoaaGreatDoor.Mem Go.Proofs.YtmcgkknpkocgoaaGreatDoor.Num Go.Proofs.YtmcgkknpkocgoaaGreatDoor.Err Go.Proofs.YtmcgkknpkocgoaaGreatDoor.AdP Go.Proofs.YtmcgkknpkocgoaaGreatDoor.Key
set_option linter.unusedVariables false
set_option linter.unusedSimpArgs false
set_option maxRecDepth 100000
attribute [-go_sem] Builtin.append_ loadCells loadCellsFrom storeCells run_eql_struct
theorem numnil (W : World) : Calls Tryz.prog 24 #[.nilIface] W fun e w' => e = .returned (.int .i64 0) ∧ W = w' := num_nil W
theorem num17 (W : World) (es : List Addr) (h : Errs W es) (ep : Addr) (hp : es[16]? = some ep) : Calls Tryz.prog 24 #[ev ep] W fun e w' => e = .returned (.int .i64 17) ∧ Below W.heap.size W w' := by
  have hl := h.1
  have := num_calls W es h 16 (by omega)
  obtain ⟨h1, h2⟩ := List.getElem?_eq_some_iff.1 hp
  rw [h2] at this
  exact this
set_option maxHeartbeats 2000000 in
theorem pw_tcp (ea : Addr) (es : List Addr) (n : Int) (w : World) (hE : Env ea w) (he : Errs w es) (hn1 : -9223372036854775808 ≤ n) (hn2 : n ≤ 9223372036854775807) :
    Calls Tryz.prog 7 #[.int .i64 n, .string ⟨#[116, 99, 112]⟩] w fun e w' => e = .returned (.bool true) ∧ Below w.heap.size w w' := by
  have HE := Lib.hid hE
  have HER := Lib.hid he
  have hrb : ∃ b, rightB n = b := ⟨_, rfl⟩
  have hpb : ∃ b, protoB n = b := ⟨_, rfl⟩
  have K1 := Lib.hid (fun W => right_calls n W hn1 hn2)
  have K2 := Lib.hid (fun W => rright_calls n W hn1 hn2)
  have K3 := Lib.hid (fun W => proto_calls n W)
  have K4 := Lib.hid (fun W => rproto_calls n W)
  have K5 := Lib.hid (fun W => word_calls n W)
  obtain ⟨rb, hrb⟩ := hrb
  obtain ⟨pb, hpb⟩ := hpb
  rw [hrb] at K1 K2
  rw [hpb] at K3 K4
  clear hE he hrb hpb hn1 hn2
  by_cases h6 : n = 6
  · subst h6
    have K5 : Hid (∀ W, Calls Tryz.prog 43 #[.int .i64 6] W fun e w' => e = .returned (.string ⟨#[116, 99, 112]⟩) ∧ W = w') := K5
    cases rb <;> cases pb
    all_goals
      go_enter Tryz.func7, Tryz.ntmps7
      go_wp2_with (first
      | (go_at_call 37; ((with_reducible refine (alive4_calls ea w HE.out).mono ?_); rintro e w1 ⟨rfl, hb⟩; have HB1 := Lib.hid hb; clear hb))
      | (go_at_call 38; ((with_reducible refine (named_tcp _).mono ?_); rintro e w2 ⟨rfl, hb⟩; have HB2 := Lib.hid (HB1.out.trans (hb.mono HB1.out.size)); clear hb))
      | (go_at_call 39; ((with_reducible refine (K1.out _).mono ?_); rintro e w3 ⟨rfl, rfl⟩))
      | (go_at_call 40; ((with_reducible refine (K2.out _).mono ?_); rintro e w3 ⟨rfl, rfl⟩))
      | (go_at_call 41; ((with_reducible refine (K3.out _).mono ?_); rintro e w3 ⟨rfl, rfl⟩))
      | (go_at_call 42; ((with_reducible refine (K4.out _).mono ?_); rintro e w3 ⟨rfl, rfl⟩))
      | (go_at_call 43; ((with_reducible refine (K5.out _).mono ?_); rintro e w3 ⟨rfl, rfl⟩))
      | (go_at_call 24; ((with_reducible refine (numnil _).mono ?_); rintro e w3 ⟨rfl, rfl⟩)))
      go_ret
      exact ⟨rfl, HB2.out⟩
  · by_cases h17 : n = 17
    · subst h17
      have K5 : Hid (∀ W, Calls Tryz.prog 43 #[.int .i64 17] W fun e w' => e = .returned (.string ⟨#[117, 100, 112]⟩) ∧ W = w') := K5
      clear h6
      cases rb <;> cases pb
      all_goals
        go_enter Tryz.func7, Tryz.ntmps7
        go_wp2_with (first
      | (go_at_call 37; ((with_reducible refine (alive4_calls ea w HE.out).mono ?_); rintro e w1 ⟨rfl, hb⟩; have HB1 := Lib.hid hb; clear hb))
      | (go_at_call 38; ((with_reducible refine (named_tcp _).mono ?_); rintro e w2 ⟨rfl, hb⟩; have HB2 := Lib.hid (HB1.out.trans (hb.mono HB1.out.size)); clear hb))
      | (go_at_call 39; ((with_reducible refine (K1.out _).mono ?_); rintro e w3 ⟨rfl, rfl⟩))
      | (go_at_call 40; ((with_reducible refine (K2.out _).mono ?_); rintro e w3 ⟨rfl, rfl⟩))
      | (go_at_call 41; ((with_reducible refine (K3.out _).mono ?_); rintro e w3 ⟨rfl, rfl⟩))
      | (go_at_call 42; ((with_reducible refine (K4.out _).mono ?_); rintro e w3 ⟨rfl, rfl⟩))
      | (go_at_call 43; ((with_reducible refine (K5.out _).mono ?_); rintro e w3 ⟨rfl, rfl⟩))
      | (go_at_call 24; ((with_reducible refine (numnil _).mono ?_); rintro e w3 ⟨rfl, rfl⟩)))
        go_ret
        exact ⟨rfl, HB2.out⟩
    · have g6 : (n == 6) = false := beq_eq_false_iff_ne.mpr h6
      have g17 : (n == 17) = false := beq_eq_false_iff_ne.mpr h17
      have e : wordS n = ByteArray.empty := by unfold wordS; rw [if_neg h6, if_neg h17]
      rw [e] at K5
      clear e h6 h17
      cases rb <;> cases pb
      all_goals
        go_enter Tryz.func7, Tryz.ntmps7
        go_wp2_with (first
      | (go_at_call 37; ((with_reducible refine (alive4_calls ea w HE.out).mono ?_); rintro e w1 ⟨rfl, hb⟩; have HB1 := Lib.hid hb; clear hb))
      | (go_at_call 38; ((with_reducible refine (named_tcp _).mono ?_); rintro e w2 ⟨rfl, hb⟩; have HB2 := Lib.hid (HB1.out.trans (hb.mono HB1.out.size)); clear hb))
      | (go_at_call 39; ((with_reducible refine (K1.out _).mono ?_); rintro e w3 ⟨rfl, rfl⟩))
      | (go_at_call 40; ((with_reducible refine (K2.out _).mono ?_); rintro e w3 ⟨rfl, rfl⟩))
      | (go_at_call 41; ((with_reducible refine (K3.out _).mono ?_); rintro e w3 ⟨rfl, rfl⟩))
      | (go_at_call 42; ((with_reducible refine (K4.out _).mono ?_); rintro e w3 ⟨rfl, rfl⟩))
      | (go_at_call 43; ((with_reducible refine (K5.out _).mono ?_); rintro e w3 ⟨rfl, rfl⟩))
      | (go_at_call 24; ((with_reducible refine (numnil _).mono ?_); rintro e w3 ⟨rfl, rfl⟩)))
        go_ret
        exact ⟨rfl, HB2.out⟩
set_option maxHeartbeats 2000000 in
theorem pw_udp (ea : Addr) (es : List Addr) (n : Int) (w : World) (hE : Env ea w) (he : Errs w es) (hn1 : -9223372036854775808 ≤ n) (hn2 : n ≤ 9223372036854775807) :
    Calls Tryz.prog 7 #[.int .i64 n, .string ⟨#[117, 100, 112]⟩] w fun e w' => e = .returned (.bool true) ∧ Below w.heap.size w w' := by
  have HE := Lib.hid hE
  have HER := Lib.hid he
  have hrb : ∃ b, rightB n = b := ⟨_, rfl⟩
  have hpb : ∃ b, protoB n = b := ⟨_, rfl⟩
  have K1 := Lib.hid (fun W => right_calls n W hn1 hn2)
  have K2 := Lib.hid (fun W => rright_calls n W hn1 hn2)
  have K3 := Lib.hid (fun W => proto_calls n W)
  have K4 := Lib.hid (fun W => rproto_calls n W)
  have K5 := Lib.hid (fun W => word_calls n W)
  obtain ⟨rb, hrb⟩ := hrb
  obtain ⟨pb, hpb⟩ := hpb
  rw [hrb] at K1 K2
  rw [hpb] at K3 K4
  clear hE he hrb hpb hn1 hn2
  by_cases h6 : n = 6
  · subst h6
    have K5 : Hid (∀ W, Calls Tryz.prog 43 #[.int .i64 6] W fun e w' => e = .returned (.string ⟨#[116, 99, 112]⟩) ∧ W = w') := K5
    cases rb <;> cases pb
    all_goals
      go_enter Tryz.func7, Tryz.ntmps7
      go_wp2_with (first
      | (go_at_call 37; ((with_reducible refine (alive4_calls ea w HE.out).mono ?_); rintro e w1 ⟨rfl, hb⟩; have HB1 := Lib.hid hb; clear hb))
      | (go_at_call 38; ((with_reducible refine (named_udp _).mono ?_); rintro e w2 ⟨rfl, hb⟩; have HB2 := Lib.hid (HB1.out.trans (hb.mono HB1.out.size)); clear hb))
      | (go_at_call 39; ((with_reducible refine (K1.out _).mono ?_); rintro e w3 ⟨rfl, rfl⟩))
      | (go_at_call 40; ((with_reducible refine (K2.out _).mono ?_); rintro e w3 ⟨rfl, rfl⟩))
      | (go_at_call 41; ((with_reducible refine (K3.out _).mono ?_); rintro e w3 ⟨rfl, rfl⟩))
      | (go_at_call 42; ((with_reducible refine (K4.out _).mono ?_); rintro e w3 ⟨rfl, rfl⟩))
      | (go_at_call 43; ((with_reducible refine (K5.out _).mono ?_); rintro e w3 ⟨rfl, rfl⟩))
      | (go_at_call 24; ((with_reducible refine (numnil _).mono ?_); rintro e w3 ⟨rfl, rfl⟩)))
      go_ret
      exact ⟨rfl, HB2.out⟩
  · by_cases h17 : n = 17
    · subst h17
      have K5 : Hid (∀ W, Calls Tryz.prog 43 #[.int .i64 17] W fun e w' => e = .returned (.string ⟨#[117, 100, 112]⟩) ∧ W = w') := K5
      clear h6
      cases rb <;> cases pb
      all_goals
        go_enter Tryz.func7, Tryz.ntmps7
        go_wp2_with (first
      | (go_at_call 37; ((with_reducible refine (alive4_calls ea w HE.out).mono ?_); rintro e w1 ⟨rfl, hb⟩; have HB1 := Lib.hid hb; clear hb))
      | (go_at_call 38; ((with_reducible refine (named_udp _).mono ?_); rintro e w2 ⟨rfl, hb⟩; have HB2 := Lib.hid (HB1.out.trans (hb.mono HB1.out.size)); clear hb))
      | (go_at_call 39; ((with_reducible refine (K1.out _).mono ?_); rintro e w3 ⟨rfl, rfl⟩))
      | (go_at_call 40; ((with_reducible refine (K2.out _).mono ?_); rintro e w3 ⟨rfl, rfl⟩))
      | (go_at_call 41; ((with_reducible refine (K3.out _).mono ?_); rintro e w3 ⟨rfl, rfl⟩))
      | (go_at_call 42; ((with_reducible refine (K4.out _).mono ?_); rintro e w3 ⟨rfl, rfl⟩))
      | (go_at_call 43; ((with_reducible refine (K5.out _).mono ?_); rintro e w3 ⟨rfl, rfl⟩))
      | (go_at_call 24; ((with_reducible refine (numnil _).mono ?_); rintro e w3 ⟨rfl, rfl⟩)))
        go_ret
        exact ⟨rfl, HB2.out⟩
    · have g6 : (n == 6) = false := beq_eq_false_iff_ne.mpr h6
      have g17 : (n == 17) = false := beq_eq_false_iff_ne.mpr h17
      have e : wordS n = ByteArray.empty := by unfold wordS; rw [if_neg h6, if_neg h17]
      rw [e] at K5
      clear e h6 h17
      cases rb <;> cases pb
      all_goals
        go_enter Tryz.func7, Tryz.ntmps7
        go_wp2_with (first
      | (go_at_call 37; ((with_reducible refine (alive4_calls ea w HE.out).mono ?_); rintro e w1 ⟨rfl, hb⟩; have HB1 := Lib.hid hb; clear hb))
      | (go_at_call 38; ((with_reducible refine (named_udp _).mono ?_); rintro e w2 ⟨rfl, hb⟩; have HB2 := Lib.hid (HB1.out.trans (hb.mono HB1.out.size)); clear hb))
      | (go_at_call 39; ((with_reducible refine (K1.out _).mono ?_); rintro e w3 ⟨rfl, rfl⟩))
      | (go_at_call 40; ((with_reducible refine (K2.out _).mono ?_); rintro e w3 ⟨rfl, rfl⟩))
      | (go_at_call 41; ((with_reducible refine (K3.out _).mono ?_); rintro e w3 ⟨rfl, rfl⟩))
      | (go_at_call 42; ((with_reducible refine (K4.out _).mono ?_); rintro e w3 ⟨rfl, rfl⟩))
      | (go_at_call 43; ((with_reducible refine (K5.out _).mono ?_); rintro e w3 ⟨rfl, rfl⟩))
      | (go_at_call 24; ((with_reducible refine (numnil _).mono ?_); rintro e w3 ⟨rfl, rfl⟩)))
        go_ret
        exact ⟨rfl, HB2.out⟩
set_option maxHeartbeats 2000000 in
theorem pw_no (ea : Addr) (es : List Addr) (n : Int) (s : ByteArray) (h1 : s.toList ≠ [116, 99, 112]) (h2 : s.toList ≠ [117, 100, 112]) (hl : s.size ≤ 100) (w : World) (hE : Env ea w) (he : Errs w es) (hn1 : -9223372036854775808 ≤ n) (hn2 : n ≤ 9223372036854775807) :
    Calls Tryz.prog 7 #[.int .i64 n, .string s] w fun e w' => e = .returned (.bool true) ∧ Below w.heap.size w w' := by
  have HE := Lib.hid hE
  have HER := Lib.hid he
  obtain ⟨ep, hep⟩ : ∃ ep, es[16]? = some ep := ⟨_, List.getElem?_eq_getElem (by have := he.1; omega)⟩
  have hp : Holds w 16 ep := by
    obtain ⟨q1, q2⟩ := List.getElem?_eq_some_iff.1 hep
    have := he.2.2 16 q1
    rw [q2] at this
    exact this
  have HP := Lib.hid hp
  have HEP := Lib.hid hep
  have KN := Lib.hid (fun W hp => named_no s ep W hp h1 h2)
  have q1 : (s.toList == [116, 99, 112]) = false := beq_eq_false_iff_ne.mpr h1
  have q2 : (s.toList == [117, 100, 112]) = false := beq_eq_false_iff_ne.mpr h2
  have hli : (s.size : Int) ≤ 100 := by omega
  clear h1 h2 hl hp hep
  have hrb : ∃ b, rightB n = b := ⟨_, rfl⟩
  have hpb : ∃ b, protoB n = b := ⟨_, rfl⟩
  have K1 := Lib.hid (fun W => right_calls n W hn1 hn2)
  have K2 := Lib.hid (fun W => rright_calls n W hn1 hn2)
  have K3 := Lib.hid (fun W => proto_calls n W)
  have K4 := Lib.hid (fun W => rproto_calls n W)
  have K5 := Lib.hid (fun W => word_calls n W)
  obtain ⟨rb, hrb⟩ := hrb
  obtain ⟨pb, hpb⟩ := hpb
  rw [hrb] at K1 K2
  rw [hpb] at K3 K4
  clear hE he hrb hpb hn1 hn2
  by_cases h6 : n = 6
  · subst h6
    have K5 : Hid (∀ W, Calls Tryz.prog 43 #[.int .i64 6] W fun e w' => e = .returned (.string ⟨#[116, 99, 112]⟩) ∧ W = w') := K5
    cases rb <;> cases pb
    all_goals
      go_enter Tryz.func7, Tryz.ntmps7
      go_wp2_with (first
      | (go_at_call 37; ((with_reducible refine (alive4_calls ea w HE.out).mono ?_); rintro e w1 ⟨rfl, hb⟩; have HB1 := Lib.hid hb; clear hb))
      | (go_at_call 38; ((with_reducible refine (KN.out _ (HP.out.below HB1.out)).mono ?_); rintro e w2 ⟨rfl, hb⟩; have HB2 := Lib.hid (HB1.out.trans (hb.mono HB1.out.size)); clear hb))
      | (go_at_call 39; ((with_reducible refine (K1.out _).mono ?_); rintro e w3 ⟨rfl, rfl⟩))
      | (go_at_call 40; ((with_reducible refine (K2.out _).mono ?_); rintro e w3 ⟨rfl, rfl⟩))
      | (go_at_call 41; ((with_reducible refine (K3.out _).mono ?_); rintro e w3 ⟨rfl, rfl⟩))
      | (go_at_call 42; ((with_reducible refine (K4.out _).mono ?_); rintro e w3 ⟨rfl, rfl⟩))
      | (go_at_call 43; ((with_reducible refine (K5.out _).mono ?_); rintro e w3 ⟨rfl, rfl⟩))
      | (go_at_call 24; ((with_reducible refine (num17 _ es (HER.out.below HB2.out) ep HEP.out).mono ?_); rintro e w4 ⟨rfl, hb⟩; have HB3 := Lib.hid (HB2.out.trans (hb.mono HB2.out.size)); clear hb)))
      go_ret
      exact ⟨rfl, HB3.out⟩
  · by_cases h17 : n = 17
    · subst h17
      have K5 : Hid (∀ W, Calls Tryz.prog 43 #[.int .i64 17] W fun e w' => e = .returned (.string ⟨#[117, 100, 112]⟩) ∧ W = w') := K5
      clear h6
      cases rb <;> cases pb
      all_goals
        go_enter Tryz.func7, Tryz.ntmps7
        go_wp2_with (first
      | (go_at_call 37; ((with_reducible refine (alive4_calls ea w HE.out).mono ?_); rintro e w1 ⟨rfl, hb⟩; have HB1 := Lib.hid hb; clear hb))
      | (go_at_call 38; ((with_reducible refine (KN.out _ (HP.out.below HB1.out)).mono ?_); rintro e w2 ⟨rfl, hb⟩; have HB2 := Lib.hid (HB1.out.trans (hb.mono HB1.out.size)); clear hb))
      | (go_at_call 39; ((with_reducible refine (K1.out _).mono ?_); rintro e w3 ⟨rfl, rfl⟩))
      | (go_at_call 40; ((with_reducible refine (K2.out _).mono ?_); rintro e w3 ⟨rfl, rfl⟩))
      | (go_at_call 41; ((with_reducible refine (K3.out _).mono ?_); rintro e w3 ⟨rfl, rfl⟩))
      | (go_at_call 42; ((with_reducible refine (K4.out _).mono ?_); rintro e w3 ⟨rfl, rfl⟩))
      | (go_at_call 43; ((with_reducible refine (K5.out _).mono ?_); rintro e w3 ⟨rfl, rfl⟩))
      | (go_at_call 24; ((with_reducible refine (num17 _ es (HER.out.below HB2.out) ep HEP.out).mono ?_); rintro e w4 ⟨rfl, hb⟩; have HB3 := Lib.hid (HB2.out.trans (hb.mono HB2.out.size)); clear hb)))
        go_ret
        exact ⟨rfl, HB3.out⟩
    · have g6 : (n == 6) = false := beq_eq_false_iff_ne.mpr h6
      have g17 : (n == 17) = false := beq_eq_false_iff_ne.mpr h17
      have e : wordS n = ByteArray.empty := by unfold wordS; rw [if_neg h6, if_neg h17]
      rw [e] at K5
      clear e h6 h17
      cases rb <;> cases pb
      all_goals
        go_enter Tryz.func7, Tryz.ntmps7
        go_wp2_with (first
      | (go_at_call 37; ((with_reducible refine (alive4_calls ea w HE.out).mono ?_); rintro e w1 ⟨rfl, hb⟩; have HB1 := Lib.hid hb; clear hb))
      | (go_at_call 38; ((with_reducible refine (KN.out _ (HP.out.below HB1.out)).mono ?_); rintro e w2 ⟨rfl, hb⟩; have HB2 := Lib.hid (HB1.out.trans (hb.mono HB1.out.size)); clear hb))
      | (go_at_call 39; ((with_reducible refine (K1.out _).mono ?_); rintro e w3 ⟨rfl, rfl⟩))
      | (go_at_call 40; ((with_reducible refine (K2.out _).mono ?_); rintro e w3 ⟨rfl, rfl⟩))
      | (go_at_call 41; ((with_reducible refine (K3.out _).mono ?_); rintro e w3 ⟨rfl, rfl⟩))
      | (go_at_call 42; ((with_reducible refine (K4.out _).mono ?_); rintro e w3 ⟨rfl, rfl⟩))
      | (go_at_call 43; ((with_reducible refine (K5.out _).mono ?_); rintro e w3 ⟨rfl, rfl⟩))
      | (go_at_call 24; ((with_reducible refine (num17 _ es (HER.out.below HB2.out) ep HEP.out).mono ?_); rintro e w4 ⟨rfl, hb⟩; have HB3 := Lib.hid (HB2.out.trans (hb.mono HB2.out.size)); clear hb)))
        go_ret
        exact ⟨rfl, HB3.out⟩
theorem pw_long (ea : Addr) (s : ByteArray) (n : Int) (w : World) (hE : Env ea w) (hl : 100 < s.size) (hm : s.size ≤ 9223372036854775807) :
    Calls Tryz.prog 7 #[.int .i64 n, .string s] w fun e w' => e = .returned (.bool true) ∧ Below w.heap.size w w' := by
  have HE := Lib.hid hE
  have hli : (100 : Int) < (s.size : Int) := by omega
  clear hE hl
  go_enter Tryz.func7, Tryz.ntmps7
  go_wp2_with ((go_at_call 37; ((with_reducible refine (alive4_calls ea w HE.out).mono ?_); rintro e w1 ⟨rfl, hb⟩; have HB1 := Lib.hid hb; clear hb)))
  go_ret
  exact ⟨rfl, HB1.out⟩
theorem ports_words (ea : Addr) (es : List Addr) (n : Int) (s : ByteArray) (w : World) (hE : Env ea w) (he : Errs w es) (hn1 : -9223372036854775808 ≤ n) (hn2 : n ≤ 9223372036854775807) (hm : s.size ≤ 9223372036854775807) :
    Calls Tryz.prog 7 #[.int .i64 n, .string s] w fun e w' => e = .returned (.bool true) ∧ Below w.heap.size w w' := by
  by_cases hl : 100 < s.size
  · exact pw_long ea s n w hE hl hm
  · by_cases h1 : s.toList = [116, 99, 112]
    · have e : s = ⟨#[116, 99, 112]⟩ := by
        apply ByteArray.ext
        have h' := h1
        rw [ByteArray.toList_eq] at h'
        have := congrArg List.toArray h'
        simpa using this
      subst e
      exact pw_tcp ea es n w hE he hn1 hn2
    · by_cases h2 : s.toList = [117, 100, 112]
      · have e : s = ⟨#[117, 100, 112]⟩ := by
          apply ByteArray.ext
          have h' := h2
          rw [ByteArray.toList_eq] at h'
          have := congrArg List.toArray h'
          simpa using this
        subst e
        exact pw_udp ea es n w hE he hn1 hn2
      · exact pw_no ea es n s h1 h2 (by omega) w hE he hn1 hn2
end Go.Proofs.YtmcgkknpkocgoaaGreatDoor.Ad
