import Derived.Test.YteghldapcfkekaaKCmp
import Derived.Lib.Bytealg
namespace Go.Proofs.YteghldapcfkekaaK
open Go.RowKit
set_option linter.unusedSimpArgs false
set_option linter.unusedVariables false
/-! The reference's Right of a name. -/
theorem idx_none : ∀ (s : List UInt8) (c : UInt8), Lib.indexByte s c < 0 ↔ ∀ j, j < s.length → s.getD j 0 ≠ c := by
  intro s c
  induction s with
  | nil => simp [Lib.indexByte]
  | cons b l ih =>
    have hg := Lib.indexByte_ge l c
    unfold Lib.indexByte
    by_cases h : b = c
    · subst h
      simp only [if_true, beq_self_eq_true]
      constructor
      · intro h1; omega
      · intro h1; exact absurd rfl (h1 0 (by simp))
    · have hb : (b == c) = false := by simpa using h
      by_cases e : Lib.indexByte l c = -1
      · have he : (Lib.indexByte l c == -1) = true := by simpa using e
        simp only [hb, he, if_true, Bool.false_eq_true, if_false]
        constructor
        · intro _ j hj
          match j with
          | 0 => exact h
          | j + 1 => exact (ih.1 (by omega)) j (by simpa using hj)
        · intro _; decide
      · have he : (Lib.indexByte l c == -1) = false := by simpa using e
        simp only [hb, he, Bool.false_eq_true, if_false]
        constructor
        · intro h1; omega
        · intro h1
          have h2 := ih.2 (fun j hj => h1 (j + 1) (by simpa using hj))
          omega
theorem rightB_iff (s : List UInt8) : rightB s = true ↔ (s == []) = false ∧ (s.length : Int) ≤ 12 ∧ (s == [46]) = false ∧ (s == [46, 46]) = false ∧ ∀ j, j < s.length → s.getD j 0 ≠ 47 ∧ s.getD j 0 ≠ 0 := by
  unfold rightB
  simp only [Bool.and_eq_true, Bool.not_eq_true', decide_eq_true_eq]
  constructor
  · rintro ⟨⟨⟨⟨⟨h1, h2⟩, h3⟩, h4⟩, h5⟩, h6⟩
    exact ⟨h1, h2, h3, h4, fun j hj => ⟨(idx_none s 47).1 h5 j hj, (idx_none s 0).1 h6 j hj⟩⟩
  · rintro ⟨h1, h2, h3, h4, h5⟩
    exact ⟨⟨⟨⟨⟨h1, h2⟩, h3⟩, h4⟩, (idx_none s 47).2 (fun j hj => (h5 j hj).1)⟩, (idx_none s 0).2 (fun j hj => (h5 j hj).2)⟩
end Go.Proofs.YteghldapcfkekaaK
