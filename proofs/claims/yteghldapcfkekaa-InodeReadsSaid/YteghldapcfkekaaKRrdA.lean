import Derived.Test.YteghldapcfkekaaKRrd
import Derived.Test.YteghldapcfkekaaKRrdF
namespace Go.Proofs.YteghldapcfkekaaK
open Go.RowKit
set_option linter.unusedSimpArgs false
set_option linter.unusedVariables false
/-! The reference's Read, of any bytes. -/
theorem rread18_any (A : Option Addr) (n c : Nat) (bs : List UInt8) (w : World) (hX : Bs w (.slice A n c) bs) (hl : bs.length ≤ 1000) :
    Calls Try.prog 17 #[.slice A n c] w fun e w' => RdOut bs e w' ∧ Below w.heap.size w w' := by
  by_cases h2 : n < 2
  · exact rrd_no A n c bs w hX hl (.inl h2)
  by_cases hf : n = 3 ∧ bA bs 0 = 1
  · exact rrd_file A n c bs w hX hf.1 hf.2
  by_cases hk : bA bs 0 = 2
  · by_cases h8 : 8 < bA bs 1
    · exact rrd_no A n c bs w hX hl (.inr (.inr ⟨hk, h8⟩))
    · exact rrd_dir A n c bs w hX hl (Nat.le_of_not_lt h2) hk h8
  · exact rrd_no A n c bs w hX hl (.inr (.inl ⟨hf, hk⟩))
end Go.Proofs.YteghldapcfkekaaK
