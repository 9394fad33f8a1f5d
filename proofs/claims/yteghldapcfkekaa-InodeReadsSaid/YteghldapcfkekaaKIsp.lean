import Derived.Test.YteghldapcfkekaaKIwr
import Derived.Test.YteghldapcfkekaaKIno
namespace Go.Proofs.YteghldapcfkekaaK
open Go.RowKit
set_option linter.unusedSimpArgs false
set_option linter.unusedVariables false
/-! The document's examples. -/
theorem isp_right : errI (rightI 2 0 [([97], 3)]) = 0 := by decide +kernel
theorem isp_bytes : wrI 2 0 [([97], 3)] = [2, 1, 3, 1, 97] := by decide +kernel
theorem isp_write (A : Option Addr) (w : World) (hE : Es w (.slice A 1 1) [([97], 3)]) : Calls Try.prog 12 #[.agg #[.int .i64 2, .int .i64 0, .slice A 1 1]] w fun e w' => ∃ v, e = .returned (.tuple #[v, .int .i64 0]) ∧ BsV [2, 1, 3, 1, 97] v w' ∧ Below w.heap.size w w' := by
  have := iwrite_any 2 0 A 1 1 _ w hE
  rw [isp_right, isp_bytes] at this
  exact this
theorem isp_row (w : World) (T : TypeId) : Es (w.alloc (.cells #[.string (str [97]), .int .i64 3] T)) (.slice (some ⟨w.heap.size, 0, none⟩) 1 1) [([97], 3)] :=
  ⟨_, _, rfl, Nat.le_refl _, by decide, At.new w _ T (0, 0)⟩
set_option maxHeartbeats 4000000 in
theorem inode_speaks (w : World) : Calls Try.prog 8 #[] w fun e w' => e = .returned (.bool true) ∧ Below w.heap.size w w' := by
  have HW := Lib.hid isp_write
  have HC := Lib.hid (fun W => chunks_any 129 (by decide) W)
  have hc2 : chunksI 129 = 2 := by decide
  have hq : (([2, 1, 3, 1, 97] : List UInt8) == [2, 1, 3, 1, 97]) = true := by decide
  rw [hc2] at HC
  clear hc2
  go_enter Try.func8, Try.ntmps8
  go_wp2_with (first
    | (go_at_call 12; refine (HW.out _ _ (isp_row _ _)).mono ?_; rintro e w1 ⟨v, rfl, ⟨A1, n1, c1, rfl, hb1⟩, hbel⟩; have hs := run_str hb1)
    | (go_at_call 10; refine (HC.out _).mono ?_; rintro e w2 ⟨rfl, rfl⟩))
  go_ret
  exact ⟨rfl, Bx.below (Bx.go (Bx.here w _) hbel)⟩
end Go.Proofs.YteghldapcfkekaaK
