import Derived.Test.YtofjabejkcicjaaKOpen2
import Derived.Test.YtofjabejkcicjaaKLvW
namespace Go.Proofs.YtofjabejkcicjaaK
open Go.RowKit Go.ChangeShapes Go.WideShapes Go.ChangeAt Go.ChangeMaps
set_option linter.unusedSimpArgs false
set_option linter.unusedVariables false
section
variable {H : Type} {enc : TypeId × Value → H} {P : Program} {w : World} {base : Nat} {spare : Nat → Bool} {held : Bool}
theorem bools_of_trod {t e : TypeId} {fuel : Nat} {v : Value} {x : DataW H × List MemPlace} (ht : P.underlying t = some (.slice e)) (he : P.underlying e = some .bool) (hc : P.cellsOf e = 1)
    (h : DataW.trod enc P w base spare held fuel t [v] = some x) : ∃ xs, Bl w v xs := by
  rcases Go.Deep.open_slice1 ht hc h with ⟨hcs, hx⟩ | ⟨a, len, cap, m, n, V, D, Pl, hcs, hb, hl, hm, hmm, hx, hel⟩
  · simp at hcs; subst hcs
    exact ⟨[], none, 0, rfl, by simp, by simp, At.nil w _⟩
  · simp at hcs; subst hcs
    have hlm : len ≤ m := by rw [hmm]; split <;> omega
    obtain ⟨xs, hpl, hp⟩ := list_of (R := fun i (y : Bool) => w.cell? (a.add i) = some (.bool y)) len (fun i hi => by
      obtain ⟨hcell, htr⟩ := hel i (by omega)
      obtain ⟨z, e0, _⟩ := DataW.trod_bool he htr
      simp at e0
      exact ⟨z, by rw [hcell, e0]⟩)
    refine ⟨xs, some a, cap, by rw [hpl], by omega, by simp only [maxLen] at hm; omega, fun j u hu => ⟨a, rfl, ?_⟩⟩
    have hj : j < xs.length := by
      rcases Nat.lt_or_ge j xs.length with h | h
      · exact h
      · rw [List.getElem?_eq_none (by simpa using h)] at hu; cases hu
    rw [List.getElem?_map, List.getElem?_eq_getElem hj] at hu
    simp only [Option.map_some, Option.some.injEq] at hu
    rw [hp j hj, hu]
theorem open_structs_bools {v : Value} {d : DataW H} {ps : List MemPlace} {b2 : Nat} (hv : Value.okWide Try.prog w .any b2 54 v) (h : DataW.Trod enc Try.prog w base spare held 54 v d ps) :
    ∃ A n c xs, v = .slice A n c ∧ n = xs.length ∧ Bl w (.slice A n c) xs := by
  obtain ⟨fuel, hf⟩ := h
  rw [slice_cells Try.underlying54 hv] at hf
  obtain ⟨xs, hb⟩ := bools_of_trod Try.underlying54 Try.underlying4 (by kernel_rfl) hf
  obtain ⟨A, c, rfl, h2⟩ := hb
  exact ⟨A, _, c, xs, rfl, rfl, A, c, rfl, h2⟩
end
end Go.Proofs.YtofjabejkcicjaaK
