import Derived.Test.YteghldapcfkekaaKIchP
import Derived.Test.YteghldapcfkekaaKBox
import Derived.Deep.RegionHeld3
import Derived.Deep.DeepCutAuto
namespace Go.Proofs.YteghldapcfkekaaK
open Go.RowKit
set_option linter.unusedSimpArgs false
set_option linter.unusedVariables false
/-! The reference's Same, of two inodes that are one. -/
set_option maxRecDepth 100000 in
set_option maxHeartbeats 8000000 in
theorem same_eq (K Z : Int) (es : List (List UInt8 × Int)) (A B : Option Addr) (n c n' c' : Nat) (w : World) (hE : Es w (.slice A n c) es) (hF : Es w (.slice B n' c') es) :
    Calls Try.prog 15 #[.agg #[.int .i64 K, .int .i64 Z, .slice A n c], .agg #[.int .i64 K, .int .i64 Z, .slice B n' c']] w fun e w' => e = .returned (.bool true) ∧ Below w.heap.size w w' := by
  obtain ⟨hn, hn63⟩ := hE.len
  obtain ⟨hn', _⟩ := hF.len
  obtain rfl : n' = n := by omega
  have HN := Lib.hid hn
  have HE := Lib.hid hE
  have HF := Lib.hid hF
  clear hn hn' hE hF
  have hb := ((Below.refl w.heap.size w).alloc (Nat.le_refl _) (.cells #[.int .i64 K, .int .i64 Z, .slice A n' c] 28)).alloc (by simp) (.cells #[.int .i64 K, .int .i64 Z, .slice B n' c'] 28)
  have hx1 : ((w.alloc (.cells #[.int .i64 K, .int .i64 Z, .slice A n' c] 28)).alloc (.cells #[.int .i64 K, .int .i64 Z, .slice B n' c'] 28)).cell? ⟨w.heap.size, 2, none⟩ = some (.slice A n' c) := ((Bx.here w _).alloc _).cell 2 _ rfl
  have hx2 : ((w.alloc (.cells #[.int .i64 K, .int .i64 Z, .slice A n' c] 28)).alloc (.cells #[.int .i64 K, .int .i64 Z, .slice B n' c'] 28)).cell? ⟨w.heap.size + 1, 2, none⟩ = some (.slice B n' c') := by
    simp
  go_enter Try.func15, Try.ntmps15
  go_wp2_with fail
  go_loopw [5] (fun v5 wr => ∃ i : Nat, i ≤ n' ∧ v5 = .int .i64 (i : Int) ∧ wr.cell? ⟨w.heap.size, 2, none⟩ = some (.slice A n' c) ∧ wr.cell? ⟨w.heap.size + 1, 2, none⟩ = some (.slice B n' c') ∧ Below w.heap.size w wr) (fun v5 _ => n' - (intOf v5).toNat)
  case atStart => exact ⟨0, by omega, rfl, hx1, hx2, hb⟩
  case round =>
    obtain ⟨i, hi, rfl, hx3, hx4, hbr⟩ := hrel
    by_cases hlt : i < n'
    · obtain ⟨a, rfl, hc0, hc1⟩ := (HE.out.below hbr).at_ i (by rw [← HN.out]; exact hlt)
      obtain ⟨b, rfl, hd0, hd1⟩ := (HF.out.below hbr).at_ i (by rw [← HN.out]; exact hlt)
      obtain ⟨s0, hs0⟩ : ∃ x, x = nmA es i := ⟨_, rfl⟩
      obtain ⟨y0, hy0⟩ : ∃ x, x = inA es i := ⟨_, rfl⟩
      rw [← hs0] at hc0 hd0
      rw [← hy0] at hc1 hd1
      clear hs0 hy0
      have hii : (i : Int) < n' := by omega
      go_wp2_with fail
      go_region
      go_wp2_with fail
      go_roundw
      case rel => exact ⟨i + 1, by omega, by go_num, hx3, hx4, hbr.drew⟩
      case measure => simp [intOf]; omega
    · have hin : i = n' := by omega
      subst hin
      go_wp2_with fail
      go_ret
      exact ⟨rfl, hbr⟩
end Go.Proofs.YteghldapcfkekaaK
