import Derived.Test.YteghldapcfkekaaKIchP
import Derived.Test.YteghldapcfkekaaKBox
import Derived.Deep.DeepCutAuto
namespace Go.Proofs.YteghldapcfkekaaK
open Go.RowKit
set_option linter.unusedSimpArgs false
set_option linter.unusedVariables false
/-! great. -/
set_option maxRecDepth 100000 in
set_option maxHeartbeats 8000000 in
theorem great_any (K Z : Int) (es : List (List UInt8 × Int)) (A : Option Addr) (n c : Nat) (w : World) (hE : Es w (.slice A n c) es) :
    Calls Try.prog 11 #[.agg #[.int .i64 K, .int .i64 Z, .slice A n c]] w fun e w' => ∃ b, e = .returned (.bool b) ∧ (b = false → n ≤ 40 ∧ ∀ j, j < es.length → (nmA es j).length ≤ 100) ∧ Below w.heap.size w w' := by
  obtain ⟨hn, hn63⟩ := hE.len
  have HN := Lib.hid hn
  have HE := Lib.hid hE
  clear hn hE
  by_cases h40 : 40 < n
  · go_enter Try.func11, Try.ntmps11
    go_wp2_with fail
    go_ret
    exact ⟨_, rfl, fun h => (by cases h), (Bx.here w _).below⟩
  go_enter Try.func11, Try.ntmps11
  go_wp2_with fail
  go_loopw [12] (fun v12 wr => ∃ i : Nat, i ≤ n ∧ v12 = .int .i64 (i : Int) ∧ (∀ j, j < es.length → j < i → (nmA es j).length ≤ 100) ∧ Bx w (.cells #[.int .i64 K, .int .i64 Z, .slice A n c] 28) wr) (fun v12 _ => n - (intOf v12).toNat)
  case atStart => exact ⟨0, by omega, rfl, fun j _ h => (by omega), Bx.here _ _⟩
  case round =>
    obtain ⟨i, hi, rfl, hF, hbr⟩ := hrel
    have HF := Lib.hid hF
    clear hF
    by_cases hlt : i < n
    · obtain ⟨a, rfl, hc0, hc1⟩ := (HE.out.below hbr.below).at_ i (by rw [← HN.out]; exact hlt)
      obtain ⟨s0, hs0⟩ : ∃ x, x = nmA es i := ⟨_, rfl⟩
      obtain ⟨y0, hy0⟩ : ∃ x, x = inA es i := ⟨_, rfl⟩
      rw [← hs0] at hc0
      rw [← hy0] at hc1
      have HS0 := Lib.hid hs0
      clear hs0 hy0
      have hii : (i : Int) < n := by omega
      have hLz := str_size s0
      by_cases hl : 100 < s0.length
      · go_wp2_with fail
        go_ret
        exact ⟨_, rfl, fun h => (by cases h), (hbr.alloc _).below⟩
      · have HL := Lib.hid hl
        go_wp2_with fail
        go_roundw
        case rel =>
          refine ⟨i + 1, by omega, by go_num, fun j hj hji => ?_, hbr.alloc _⟩
          by_cases e : j = i
          · subst e; rw [← HS0.out]; exact Nat.le_of_not_lt HL.out
          · exact HF.out j hj (by omega)
        case measure => simp [intOf]; omega
    · have hin : i = n := by omega
      subst hin
      have HH := Lib.hid h40
      go_wp2_with fail
      go_ret
      exact ⟨_, rfl, fun _ => ⟨Nat.le_of_not_lt HH.out, fun j hj => HF.out j hj (by rw [HN.out]; exact hj)⟩, hbr.below⟩
end Go.Proofs.YteghldapcfkekaaK
