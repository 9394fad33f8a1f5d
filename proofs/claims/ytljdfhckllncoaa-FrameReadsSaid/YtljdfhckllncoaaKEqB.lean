import Derived.Test.YtljdfhckllncoaaKMb
import Derived.Test.YtljdfhckllncoaaKMc
namespace Go.Proofs.YtljdfhckllncoaaK
open Go.RowKit
set_option linter.unusedSimpArgs false
set_option linter.unusedVariables false
theorem equal_bs (A1 : Option Addr) (n1 c1 : Nat) (A2 : Option Addr) (n2 c2 : Nat) (a b : List UInt8) (w : World) (h1 : Bs w (.slice A1 n1 c1) a) (h2 : Bs w (.slice A2 n2 c2) b) :
    Calls Try.prog 46 #[.slice A1 n1 c1, .slice A2 n2 c2] w fun e w' => e = .returned (.bool (decide (a = b))) ∧ w = w' := by
  refine (Try.bytes_Equal_strs _ _ (str a) (str b) w (run_str h1) (run_str h2)).mono ?_
  rintro e w' ⟨rfl, rfl⟩
  refine ⟨?_, rfl⟩
  congr 2
  by_cases h : a = b
  · subst h; simp
  · rw [decide_eq_false h]
    rw [beq_eq_false_iff_ne]
    intro e
    apply h
    apply str_inj
    rw [ByteArray.toList_eq, ByteArray.toList_eq] at e
    apply ByteArray.ext
    exact Array.toList_inj.1 e
end Go.Proofs.YtljdfhckllncoaaK
