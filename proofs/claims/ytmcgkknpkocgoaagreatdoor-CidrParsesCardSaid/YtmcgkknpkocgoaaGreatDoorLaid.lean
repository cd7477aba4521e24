/- What a row's list of errors gives: each variable holds an error, no two at one place. -/
import Derived.Test.YtmcgkknpkocgoaaGreatDoorErr
import Derived.Stop.LaidErr
import Derived.LaidLaws
namespace Go.Proofs.YtmcgkknpkocgoaaGreatDoor.Laid
open Go.RowKit Go.ChangeShapes Go.Proofs.YtmcgkknpkocgoaaGreatDoor.Err

theorem row_star (u : TypeId) (h : Tryz.prog.typeName? 3 u = some "*errors.errorString") : u = 226 := by
  have star : "*" ++ "errors.errorString" = "*errors.errorString" := by decide
  exact typeName_ptr_named (nm := "errors.errorString") (by rw [star]; kernel_rfl) (by kernel_rfl) (by decide) u (by rw [star]; exact h)
theorem cellsE : Tryz.prog.cellsOf 228 = 1 := by kernel_rfl
theorem cellsS : Tryz.prog.cellsOf 9 = 1 := by kernel_rfl
def datum (t : List UInt8) : DataW Unit := .iface "*errors.errorString" (.ptr (.agg [.lit (.string t)]))

set_option maxRecDepth 100000 in
theorem laid_vars {W : World} : ∀ (l : List (String × List UInt8)) (gs : List Nat) (ps : List MemPlace),
    DataW.LaidVars Tryz.prog W (l.map fun x => (x.1, datum x.2)) ps → ps.Nodup →
    (∀ b off, MemPlace.cell b off ∈ ps → (∃ c t, W.heap[b]? = some (.cells c t (0, 0))) ∧ ∀ u v, W.cell? ⟨b, off, none⟩ = some (.iface u v) → Value.okWide Tryz.prog W .any 0 u v) →
    l.map (fun x => Tryz.prog.globalNamed x.1) = gs.map some → (∀ g ∈ gs, (Tryz.prog.globals[g]?).map (·.type) = some 29) →
    ∃ as1 : List Addr, as1.length = gs.length ∧ as1.Nodup ∧ (∀ a ∈ as1, MemPlace.cell a.block a.off ∈ ps) ∧ ∀ (k g : Nat) (a : Addr), gs[k]? = some g → as1[k]? = some a → Holds W g a := by
  intro l
  induction l with
  | nil =>
    intro gs ps _ _ _ hg _
    have : gs = [] := by simpa using hg.symm
    subst this
    exact ⟨[], rfl, List.nodup_nil, by simp, by simp⟩
  | cons x l ih =>
    intro gs ps hv hnd hrows hg ht
    obtain ⟨n, t⟩ := x
    cases gs with
    | nil => simp at hg
    | cons g gs =>
      simp only [List.map_cons, List.cons.injEq] at hg
      obtain ⟨hg1, hg2⟩ := hg
      obtain ⟨g0, t0, cs0, fuel, p, q, hg0, ht0, hv0, hd0, hrest, rfl⟩ := hv
      obtain rfl := Option.some.inj (hg1.symm.trans hg0)
      have ht1 := ht g (by simp)
      obtain rfl := Option.some.inj (ht1.symm.trans ht0)
      obtain ⟨l0⟩ := cs0
      have ok0 : ∀ u v, l0 = [.iface u v] → Value.okWide Tryz.prog W .any 0 u v := fun u v e => by
        subst e
        exact (hrows g 0 (by simp [MemPlace.row])).2 u v (by simpa using World.var?_cell hg0 hv0 0)
      obtain ⟨a0, s0, rfl, hc0, hs0, hz0, rfl⟩ := errorString_of_trod Tryz.underlying29 row_star Tryz.underlying226 Tryz.underlying228 rfl rfl Tryz.underlying9 cellsE cellsS hd0 ok0
      obtain ⟨as1, h1, h2, h3, h4⟩ := ih gs q hrest (List.Nodup.sublist (List.sublist_append_right _ _) hnd) (fun b off hm => hrows b off (List.mem_append_right _ hm)) hg2 (fun g' hg' => ht g' (by simp [hg']))
      obtain ⟨c0, t0, hb0⟩ := (hrows a0.block a0.off (by simp [MemPlace.row])).1
      refine ⟨a0 :: as1, by simp [h1], ?_, ?_, ?_⟩
      · refine List.nodup_cons.2 ⟨fun hm => ?_, h2⟩
        have hq := h3 a0 hm
        have := (List.nodup_append.1 hnd).2.2 (MemPlace.cell a0.block a0.off) (by simp [MemPlace.row]) _ hq
        exact this rfl
      · intro a ha
        rcases List.mem_cons.1 ha with rfl | ha
        · simp [MemPlace.row]
        · exact List.mem_append_right _ (h3 a ha)
      · intro k g' a hk ha
        cases k with
        | zero =>
          simp at hk ha
          subst hk; subst ha
          exact ⟨by simpa [ev] using World.var?_cell hg0 hv0 0, c0, t0, hb0⟩
        | succ k => exact h4 k g' a (by simpa using hk) (by simpa using ha)

theorem laid_all {W : World} (l : List (String × List UInt8)) (gs : List Nat) (h : laidMet Tryz.prog (l.map fun x => (x.1, datum x.2)) W)
    (hg : l.map (fun x => Tryz.prog.globalNamed x.1) = gs.map some) (ht : ∀ g ∈ gs, (Tryz.prog.globals[g]?).map (·.type) = some 29) :
    ∃ as1 : List Addr, as1.length = gs.length ∧ as1.Nodup ∧ ∀ (k g : Nat) (a : Addr), gs[k]? = some g → as1[k]? = some a → Holds W g a := by
  obtain ⟨ps, hv, hnd, hrows⟩ := h
  obtain ⟨as1, h1, h2, _, h4⟩ := laid_vars l gs ps hv hnd hrows hg ht
  exact ⟨as1, h1, h2, h4⟩
end Go.Proofs.YtmcgkknpkocgoaaGreatDoor.Laid
