import Derived.Test.YteghldapcfkekaaKPackV
import Derived.Test.YteghldapcfkekaaKStep
namespace Go.Proofs.YteghldapcfkekaaK
open Go.RowKit
set_option linter.unusedSimpArgs false
set_option linter.unusedVariables false
theorem grown_drewN {w w1 : World} {k : Nat} {row : Option Nat} (h : (w.drewN k).grownBy w1 row) : w.grownBy w1 row := ⟨h.os, h.tape, h.output, h.size, h.block⟩
theorem cut_mid (w : World) (A : Option Addr) (n c i k : Nat) (bs : List UInt8) (h : Bs w (.slice A n c) bs) (hk : i + k ≤ n) :
    ∃ A' c', (∀ W : World, (Instr.slice 30 (.slice A n c) (some (.int .i64 (i : Int))) (some (.int .i64 ((i : Int) + (k : Int)))) none).run Try.prog W = .ok (.slice A' k c') W) ∧
      (∀ W : World, Bs W (.slice A n c) bs → Bs W (.slice A' k c') ((bs.drop i).take k)) := by
  have hn := h.len
  refine ⟨if c = i then A else A.map (·.add i), c - i, fun W => ?_, fun W hW => ?_⟩
  · obtain ⟨inf, hi, hz⟩ := Option.map_eq_some_iff.1 info_u8
    simp only [Prod.mk.injEq] at hz
    have hel : Try.prog.elem 30 = 5 := by simp [Program.elem, Try.underlying30]
    have hu : Try.prog.underlying 30 = some (.slice (Try.prog.elem 30)) := by rw [hel]; exact Try.underlying30
    have hc : n ≤ c := by
      obtain ⟨_, _, he, h1, _⟩ := h
      injection he with e1 e2 e3
      omega
    rw [show ((i : Int) + (k : Int)) = ((i + k : Nat) : Int) from by omega]
    rw [run_slice_lh W 30 A n c hu .i64 .i64 (i : Int) ((i + k : Nat) : Int) (Int.natCast_nonneg _) (by omega) (by omega), hel]
    simp [sizeOf, typeInfo, hi, hz.2.1, sliced, Result.andThen]
    omega
  · have h1 := cut_to W (if c = i then A else A.map (·.add i)) (n - i) (c - i) k (bs.drop i) ?_ (by omega)
    · exact h1
    · obtain ⟨A', hrun, hdrop, _⟩ := cut_from W A n c i bs hW (by omega)
      obtain ⟨inf, hi, hz⟩ := Option.map_eq_some_iff.1 info_u8
      simp only [Prod.mk.injEq] at hz
      have hel : Try.prog.elem 30 = 5 := by simp [Program.elem, Try.underlying30]
      have hu : Try.prog.underlying 30 = some (.slice (Try.prog.elem 30)) := by rw [hel]; exact Try.underlying30
      have hr := hrun W
      rw [run_slice_l W 30 A n c hu .i64 (i : Int) (Int.natCast_nonneg _) (by omega), hel] at hr
      simp [sizeOf, typeInfo, hi, hz.2.1, sliced, Result.andThen] at hr
      rw [hr]
      exact hdrop W hW
end Go.Proofs.YteghldapcfkekaaK
