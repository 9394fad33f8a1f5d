import Derived.Test.YtofjabejkcicjaaKOpen
namespace Go.Proofs.YtofjabejkcicjaaK
open Go.RowKit Go.ChangeShapes Go.WideShapes Go.ChangeAt Go.ChangeMaps
set_option linter.unusedSimpArgs false
set_option linter.unusedVariables false
section
variable {H : Type} {enc : TypeId × Value → H} {P : Program} {w : World} {base : Nat} {spare : Nat → Bool} {held : Bool}
theorem nums_of_trod {k : IntKind} {t e : TypeId} {fuel : Nat} {v : Value} {x : DataW H × List MemPlace} (ht : P.underlying t = some (.slice e)) (he : P.underlying e = some (.int k)) (hc : P.cellsOf e = 1)
    (h : DataW.trod enc P w base spare held fuel t [v] = some x) : ∃ xs, Is k w v xs ∧ ∀ y ∈ xs, (Lit.int k y).wf = true := by
  rcases open_ints ht he hc h with ⟨hcs, hx⟩ | ⟨a, len, cap, zs, hcs, _, hl, hm, hz, hx, hcell, hwz⟩
  · simp at hcs; subst hcs
    exact ⟨[], ⟨none, 0, rfl, by simp, by simp, At.nil w _⟩, by simp⟩
  · simp at hcs; subst hcs
    have hlz : len ≤ zs.length := by rw [hz]; split <;> omega
    refine ⟨zs.take len, ⟨some a, cap, by simp; omega, by simp; omega, by simp; simp only [maxLen] at hm; omega, ?_⟩, fun y hy => hwz _ (List.mem_of_mem_take hy)⟩
    intro j u hu
    refine ⟨a, rfl, ?_⟩
    have hj : j < len := by
      rcases Nat.lt_or_ge j len with h | h
      · exact h
      · rw [List.getElem?_eq_none (by simp; omega)] at hu; cases hu
    rw [hcell j (by omega)]
    have hjz : j < zs.length := by omega
    rw [List.getElem?_map, List.getElem?_take_of_lt hj, List.getElem?_eq_getElem hjz] at hu
    simp only [Option.map_some, Option.some.injEq] at hu
    rw [← hu]
    simp [List.getD_eq_getElem?_getD, List.getElem?_eq_getElem hjz]
theorem Is.slice {k : IntKind} {v : Value} {xs : List Int} (h : Is k w v xs) : ∃ A n c, v = .slice A n c ∧ n = xs.length := by
  obtain ⟨A, c, rfl, _⟩ := h
  exact ⟨A, _, c, rfl, rfl⟩
theorem open_nums {k : IntKind} {t e : TypeId} {v : Value} {d : DataW H} {ps : List MemPlace} {b2 : Nat} (ht : P.underlying t = some (.slice e)) (he : P.underlying e = some (.int k)) (hc : P.cellsOf e = 1)
    (hv : Value.okWide P w .any b2 t v) (h : DataW.Trod enc P w base spare held t v d ps) : ∃ A n c xs, v = .slice A n c ∧ n = xs.length ∧ Is k w (.slice A n c) xs ∧ ∀ y ∈ xs, (Lit.int k y).wf = true := by
  obtain ⟨fuel, hf⟩ := h
  rw [slice_cells ht hv] at hf
  obtain ⟨xs, hb, hw⟩ := nums_of_trod ht he hc hf
  obtain ⟨A, n, c, rfl, hn⟩ := hb.slice
  exact ⟨A, n, c, xs, rfl, hn, hb, hw⟩
end
end Go.Proofs.YtofjabejkcicjaaK
