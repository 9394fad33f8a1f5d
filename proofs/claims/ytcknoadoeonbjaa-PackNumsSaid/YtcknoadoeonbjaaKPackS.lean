import Derived.Test.YtcknoadoeonbjaaKPackV
namespace Go.Proofs.YtcknoadoeonbjaaK
open Go.RowKit
set_option linter.unusedSimpArgs false
set_option linter.unusedVariables false
theorem speaks_bytes : numsB 2 [1, 515] = [1, 0, 3, 2] := by decide +kernel
set_option maxHeartbeats 400000 in
theorem pack_speaks (w : World) : Calls Try.prog 15 #[] w fun e w' => e = .returned (.bool true) ∧ Below w.heap.size w w' := by
  have HC := Lib.hid (fun W (A : Option Addr) (c : Nat) (h : Is .u64 W (.slice A 2 c) [1, 515]) => nums_any 2 A 2 c [1, 515] W h (by decide) (by decide))
  rw [show wid 2 = 2 from rfl, speaks_bytes] at HC
  go_enter Try.func15, Try.ntmps15
  go_wp2_with (go_at_call 18; refine (HC.out _ _ _ (Is.new rfl rfl rfl (by decide))).mono ?_; rintro e w1 ⟨v, m, rfl, ho, hb⟩; obtain ⟨A, c, rfl, _, _⟩ := own_form ho; have hs := run_str (own_bs ho).2)
  go_ret
  exact ⟨rfl, Below.trans ((Below.refl _ _).alloc (Nat.le_refl _) _) (hb.mono (by simp))⟩
end Go.Proofs.YtcknoadoeonbjaaK
