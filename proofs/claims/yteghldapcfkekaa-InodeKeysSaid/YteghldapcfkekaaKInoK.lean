import Derived.Test.YteghldapcfkekaaKIno
namespace Go.Proofs.YteghldapcfkekaaK
open Go.RowKit
set_option linter.unusedSimpArgs false
set_option linter.unusedVariables false
/-! InodeKeys, but for its examples. -/
theorem keyI_in {a b : Int} (h : 1 ≤ a ∧ a ≤ 24 ∧ 0 ≤ b ∧ b ≤ 6) : keyI a b = a * 8 + b := by unfold keyI; rw [if_pos h]
theorem keyI_out {a b : Int} (h : ¬ (1 ≤ a ∧ a ≤ 24 ∧ 0 ≤ b ∧ b ≤ 6)) : keyI a b = -1 := by unfold keyI; rw [if_neg h]
theorem keyI_eq {a b c d : Int} (h : 1 ≤ a ∧ a ≤ 24 ∧ 0 ≤ b ∧ b ≤ 6) : (keyI a b == keyI c d) = (a == c && b == d) := by
  rw [keyI_in h]
  by_cases h2 : 1 ≤ c ∧ c ≤ 24 ∧ 0 ≤ d ∧ d ≤ 6
  · rw [keyI_in h2]
    by_cases e : a * 8 + b = c * 8 + d
    · have e1 : a = c := by omega
      have e2 : b = d := by omega
      subst e1 e2
      simp
    · have : ¬ (a = c ∧ b = d) := by rintro ⟨rfl, rfl⟩; exact e rfl
      rw [beq_eq_false_iff_ne.2 e]
      by_cases e1 : a = c
      · have e2 : ¬ b = d := fun h => this ⟨e1, h⟩
        rw [beq_eq_false_iff_ne.2 e2, Bool.and_false]
      · rw [beq_eq_false_iff_ne.2 e1, Bool.false_and]
  · rw [keyI_out h2]
    have e : ¬ a * 8 + b = -1 := by omega
    rw [beq_eq_false_iff_ne.2 e]
    by_cases e1 : a = c
    · have e2 : ¬ b = d := by rintro rfl; subst e1; exact h2 h
      rw [beq_eq_false_iff_ne.2 e2, Bool.and_false]
    · rw [beq_eq_false_iff_ne.2 e1, Bool.false_and]
end Go.Proofs.YteghldapcfkekaaK
