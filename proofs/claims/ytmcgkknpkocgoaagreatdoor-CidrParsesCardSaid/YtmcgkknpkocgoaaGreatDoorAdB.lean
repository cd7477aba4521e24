/- strings.Split at one byte; addr.row: the bytes of groups with colons between. -/
import Derived.Test.YtmcgkknpkocgoaaGreatDoorAdA
import Derived.Deep.DeepCutAuto
namespace Go.Proofs.YtmcgkknpkocgoaaGreatDoor.Ad
open Go.RowKit Go.Proofs.YtmcgkknpkocgoaaGreatDoor.Mem Go.Proofs.YtmcgkknpkocgoaaGreatDoor.Num Go.Proofs.YtmcgkknpkocgoaaGreatDoor.Err Go.Proofs.YtmcgkknpkocgoaaGreatDoor.AdP
set_option linter.unusedVariables false
set_option linter.unusedSimpArgs false
set_option maxRecDepth 100000
theorem parts_len (c : UInt8) : ∀ (l : List UInt8), ∀ x ∈ parts c l, x.length ≤ l.length
  | [], x, hx => by simp [parts] at hx; simp [hx]
  | b :: l, x, hx => by
    have ih := parts_len c l
    unfold parts at hx
    split at hx
    · rcases List.mem_cons.1 hx with rfl | hx
      · simp
      · have := ih x hx; simp; omega
    · cases hp : parts c l with
      | nil => exact absurd hp (parts_ne c l)
      | cons y r =>
        rw [hp] at hx ih
        rcases List.mem_cons.1 hx with rfl | hx
        · have := ih y (by simp); simp; omega
        · have := ih x (by simp [hx]); simp; omega
theorem parts_count (c : UInt8) : ∀ (l : List UInt8), (parts c l).length ≤ l.length + 1
  | [] => by simp [parts]
  | b :: l => by
    have ih := parts_count c l
    unfold parts
    split
    · simp; exact ih
    · cases hp : parts c l with
      | nil => simp
      | cons y r => rw [hp] at ih; simp at ih ⊢; omega
/-- A list of texts in a block of the call's own. -/
def Texts (w : World) (g : Nat) (xs : List ByteArray) : Prop := ∀ (j : Nat) (hj : j < xs.length), w.cell? ⟨g, j, none⟩ = some (.string xs[j])
theorem Texts.below {w w1 : World} {g : Nat} {xs : List ByteArray} (h : Texts w g xs) (hb : Below w.heap.size w w1) : Texts w1 g xs := fun j hj => cell_below hb (h j hj)
def RetSplit (w' : World) (ls : List (List UInt8)) (e : Ending) : Prop := ∃ g xs, e = .returned (.slice (some ⟨g, 0, none⟩) xs.length xs.length) ∧ xs.map (·.data.toList) = ls ∧ Texts w' g xs
theorem split_calls (ea : Addr) (s : ByteArray) (c : UInt8) (w : World) (hE : Env ea w) (hs : s.size ≤ 4294967000) :
    Calls Tryz.prog 136 #[.string s, .string ⟨#[c]⟩] w fun e w' => RetSplit w' (parts c s.data.toList) e ∧ Below w.heap.size w w' := by
  obtain ⟨m, hm⟩ := hE.mx
  refine (Tryz.strings_Split s ⟨#[c]⟩ m w (by omega) hm (by show 1 ≤ (#[c] : Array UInt8).size; simp)).mono ?_
  rintro e w' ⟨rfl, rfl⟩
  have hl : (Lib.splitB ⟨#[c]⟩ 0 (Lib.countB s ⟨#[c]⟩) s).length = Lib.countB s ⟨#[c]⟩ + 1 := Lib.splitB_all ⟨#[c]⟩ (by show 1 ≤ (#[c] : Array UInt8).size; simp) 0 _ s rfl
  refine ⟨⟨w.heap.size, Lib.splitB ⟨#[c]⟩ 0 (Lib.countB s ⟨#[c]⟩) s, by rw [hl], ?_, fun j hj => ?_⟩, (Below.refl _ _).alloc (Nat.le_refl _) _⟩
  · rw [Lib.splitB_data, ← split_one]
    rfl
  · unfold World.cell?
    rw [World.alloc_heap_new]
    simp [hj]
def two (n : Int) : List UInt8 := [UInt8.ofNat (n.toNat / 256), UInt8.ofNat (n.toNat % 256)]
def rowL : List (List UInt8) → Option (List UInt8)
  | [] => some []
  | x :: r => if number x 16 4 < 0 then none else (rowL r).map (two (number x 16 4) ++ ·)
/-- The bytes of groups with colons between. -/
def row (s : List UInt8) : Option (List UInt8) := if s = [] then some [] else rowL (parts 58 s)
def RetRow (base : Nat) (w' : World) (r : Option (List UInt8)) (e : Ending) : Prop := match r with
  | some b => ∃ v, e = .returned (.tuple #[v, .bool true]) ∧ Own eU8 5 base w' v b
  | none => e = .returned (.tuple #[.slice none 0 0, .bool false])
theorem numL_range : ∀ (l : List UInt8) (n : Int) (k : Nat), 0 ≤ n → n < 16 ^ k → numL 16 n l = -1 ∨ (0 ≤ numL 16 n l ∧ numL 16 n l < 16 ^ (k + l.length))
  | [], n, k, h1, h2 => .inr ⟨h1, h2⟩
  | c :: l, n, k, h1, h2 => by
    have hf := fig_range c
    unfold numL
    split
    · exact .inl rfl
    · have := numL_range l (n * 16 + fig c) (k + 1) (by omega) (by rw [Int.pow_succ]; omega)
      rw [show k + 1 + l.length = k + (c :: l).length by simp; omega] at this
      exact this
theorem number_range (s : List UInt8) : number s 16 4 = -1 ∨ (0 ≤ number s 16 4 ∧ number s 16 4 < 65536) := by
  unfold number
  split
  · exact .inl rfl
  · rcases numL_range s 0 0 (by omega) (by decide) with h | ⟨h1, h2⟩
    · exact .inl h
    · refine .inr ⟨h1, Int.lt_of_lt_of_le h2 ?_⟩
      have : s.length = 1 ∨ s.length = 2 ∨ s.length = 3 ∨ s.length = 4 := by omega
      rcases this with h | h | h | h <;> rw [h] <;> decide
theorem rowL_len : ∀ (l : List (List UInt8)) (b : List UInt8), rowL l = some b → b.length = 2 * l.length
  | [], b, h => by simp [rowL] at h; subst h; rfl
  | x :: r, b, h => by
    unfold rowL at h
    split at h
    · cases h
    · obtain ⟨t, h1, rfl⟩ := Option.map_eq_some_iff.1 h
      have := rowL_len r t h1
      simp [two]; omega
theorem two_cells (n : Int) (h0 : 0 ≤ n) (h1 : n < 65536) : (#[Value.int .u8 (n / 256), Value.int .u8 (n % 256)] : Array Value) = (eU8.all (two n)).toArray := by
  rw [show eU8.all (two n) = (two n).map (fun x => Value.int .u8 (x.toNat : Int)) from all_one1 _ _ _]
  unfold two
  have e1 : ((UInt8.ofNat (n.toNat / 256)).toNat : Int) = n / 256 := by rw [UInt8.toNat_ofNat_of_lt' (by show n.toNat / 256 < 256; omega)]; omega
  have e2 : ((UInt8.ofNat (n.toNat % 256)).toNat : Int) = n % 256 := by rw [UInt8.toNat_ofNat_of_lt' (by show n.toNat % 256 < 256; omega)]; omega
  rw [List.map_cons, List.map_cons, List.map_nil, e1, e2]
attribute [-go_sem] Builtin.append_
set_option maxHeartbeats 1000000 in
theorem row_calls (ea : Addr) (s : ByteArray) (w : World) (hE : Env ea w) (hs : s.size ≤ 1000) :
    Calls Tryz.prog 135 #[.string s] w fun e w' => RetRow w.heap.size w' (row s.data.toList) e ∧ Below w.heap.size w w' := by
  have hsl : s.data.toList.length = s.size := Array.length_toList
  by_cases h0 : s.size = 0
  · obtain rfl : s = ByteArray.empty := ByteArray.ext (Array.eq_empty_of_size_eq_zero h0)
    clear h0 hsl hs
    go_enter Tryz.func135, Tryz.ntmps135
    go_wp2
    go_ret2
    exact ⟨⟨_, rfl, Own.nil _ _ _ _⟩, Below.refl _ _⟩
  · have hnl : s.data.toList ≠ [] := fun h => by rw [h] at hsl; simp at hsl; omega
    have hne : s.toList.isEmpty = false := by
      rw [ByteArray.toList_eq]
      cases h : s.data.toList with
      | nil => exact absurd h hnl
      | cons a l => rfl
    have hne2 : (s.toList = []) = False := by
      rw [eq_iff_iff, iff_false]; intro e; rw [e] at hne; simp at hne
    have er : row s.data.toList = rowL (parts 58 s.data.toList) := by unfold row; rw [if_neg hnl]
    have KS := Lib.hid (fun W hE => split_calls ea s 58 W hE (by omega))
    have HPL := Lib.hid (parts_len 58 s.data.toList)
    rw [er]
    have HE := Lib.hid hE
    have HSL := Lib.hid (hsl ▸ hs : s.data.toList.length ≤ 1000)
    have HPC := Lib.hid (parts_count 58 s.data.toList)
    clear er hnl hsl hE h0 hs
    generalize parts 58 s.data.toList = ls at *
    go_enter Tryz.func135, Tryz.ntmps135
    go_wp2_with (go_at_call 136; ((with_reducible refine (KS.out _ HE.out).mono ?_); rintro e w1 ⟨⟨g, xs, rfl, hxs, htx⟩, hb1⟩; have HX := Lib.hid hxs; have HT := Lib.hid htx; have HB1 := Lib.hid hb1; clear hxs htx hb1; have hxl : (xs.length : Int) ≤ 1001 := by have h1 := congrArg List.length HX.out; have h2 := HPC.out; have h3 := HSL.out; simp at h1; omega))
    go_loopw [4, 13] (fun v iv wr => ∃ (k : Nat) (acc : List UInt8), k ≤ xs.length ∧ iv = .int .i64 (k : Int) ∧ Own eU8 5 w1.heap.size wr v acc ∧ Hid (acc.length = 2 * k) ∧ Hid (rowL ls = (rowL (ls.drop k)).map (acc ++ ·)) ∧ Below w1.heap.size w1 wr) (fun _ iv _ => xs.length - (intOf iv).toNat)
    case atStart => exact ⟨0, [], Nat.zero_le _, rfl, Own.nil _ _ _ _, Lib.hid rfl, Lib.hid (by simp), Below.refl _ _⟩
    case round =>
      obtain ⟨k, acc, hk, rfl, ho, HA, HR, hb⟩ := hrel
      have HO := Lib.hid ho
      have HBr := Lib.hid hb
      clear ho hb
      by_cases hlt : k < xs.length
      · have hcell := (HT.out.below HBr.out) k hlt
        have hll : xs.length = ls.length := by rw [← HX.out]; simp
        have hlk : ls[k]'(by omega) = xs[k].data.toList := by
          have := HX.out
          subst this
          simp
        have hd : ls.drop k = xs[k].data.toList :: ls.drop (k + 1) := by rw [← hlk]; exact List.drop_eq_getElem_cons (by omega)
        have hsz : xs[k].size ≤ 1000 := by
          have h1 := HPL.out xs[k].data.toList (by rw [← hlk]; exact List.getElem_mem _)
          have h2 : xs[k].data.toList.length = xs[k].size := Array.length_toList
          have h3 := HSL.out
          omega
        have hstep : rowL ls = (if number xs[k].data.toList 16 4 < 0 then none else (rowL (ls.drop (k + 1))).map (two (number xs[k].data.toList 16 4) ++ ·)).map (acc ++ ·) := by rw [HR.out, hd]; rfl
        have hnr := number_range xs[k].data.toList
        have KG := Lib.hid (fun W hE => group_calls ea xs[k] W hE (by omega))
        clear hlk hd hsz hll
        generalize number xs[k].data.toList 16 4 = n at *
        generalize xs[k] = x at *
        by_cases hneg : n < 0
        · have HST : Hid (rowL ls = none) := Lib.hid (by rw [hstep, if_pos hneg]; rfl)
          obtain rfl : n = -1 := by omega
          clear hstep hnr hneg
          go_wp2_with (go_at_call 164; ((with_reducible refine (KG.out _ ((HE.out.below HB1.out).below HBr.out)).mono ?_); rintro e w2 ⟨rfl, hb2⟩; have HB2 := Lib.hid (HBr.out.trans (hb2.mono HBr.out.size)); clear hb2))
          go_ret2
          exact ⟨by rw [HST.out]; rfl, HB1.out.trans (HB2.out.mono HB1.out.size)⟩
        · have HST : Hid (rowL ls = (rowL (ls.drop (k + 1))).map ((acc ++ two n) ++ ·)) := Lib.hid (by rw [hstep, if_neg hneg, Option.map_map]; congr 1; funext t; simp)
          have hn0 : 0 ≤ n := by omega
          have hn1 : n < 65536 := by omega
          clear hstep hnr hneg
          go_wp2_with (first
            | (go_at_call 164; ((with_reducible refine (KG.out _ ((HE.out.below HB1.out).below HBr.out)).mono ?_); rintro e w2 ⟨rfl, hb2⟩; have HO2 := Lib.hid (HO.out.below hb2); have HB2 := Lib.hid (HBr.out.trans (hb2.mono HBr.out.size)); clear hb2))
            | (at_builtin; refine wp_append (E := eU8) w1.heap.size rfl (.tmp 21) (.tmp 27) 39 5 _ 1 rfl Tryz.underlying39 infoU8 rfl (by decide) _ _ acc (two n) rfl rfl (HO2.out.alloc _) (Own.lit w2 0 eU8 5 (two n) 2 rfl _ (two_cells n hn0 hn1) (Nat.zero_le _) (by simp [two])).row (size_alloc_le HB2.out _) (by have := HA.out; simp [two]; omega) ?_; intro v1 w3 ho3 hg3 hat3))
          go_roundw
          case rel => exact ⟨k + 1, acc ++ two n, by omega, by go_num, ho3, Lib.hid (by have := HA.out; simp [two]; omega), HST, below_app (HB2.out.alloc HB2.out.size _) (size_alloc_le HB2.out _) (HO2.out.alloc _) hg3⟩
          case measure => simp [intOf]; omega
      · have HST : Hid (rowL ls = some acc) := Lib.hid (by
          have hll : xs.length = ls.length := by rw [← HX.out]; simp
          rw [HR.out, List.drop_of_length_le (by omega)]; simp [rowL])
        go_wp2
        go_ret2
        exact ⟨by rw [HST.out]; exact ⟨_, rfl, HO.out.lower HB1.out.size⟩, HB1.out.trans (HBr.out.mono HB1.out.size)⟩
end Go.Proofs.YtmcgkknpkocgoaaGreatDoor.Ad
