import Derived.Test.YteghldapcfkekaaKInvA
namespace Go.Proofs.YteghldapcfkekaaK
open Go.RowKit
set_option linter.unusedSimpArgs false
set_option linter.unusedVariables false
/-- A slice of bytes, that reads. -/
def BsV (bs : List UInt8) (v : Value) (w : World) : Prop := ∃ A n c, v = .slice A n c ∧ Bs w (.slice A n c) bs
theorem BsV.below {bs : List UInt8} {v : Value} {w w' : World} (h : BsV bs v w) (hb : Below w.heap.size w w') : BsV bs v w' := by
  obtain ⟨A, n, c, h1, h2⟩ := h; exact ⟨A, n, c, h1, h2.below hb⟩
def yesP : Nat → Nat → Value → Value → Prop := fun _ _ _ _ => True
end Go.Proofs.YteghldapcfkekaaK
