import Derived.Test.YteghldapcfkekaaKNam
namespace Go.Proofs.YteghldapcfkekaaK
open Go.RowKit
set_option linter.unusedSimpArgs false
set_option linter.unusedVariables false
/-! inode.fits. -/
def fitsB (s : List UInt8) (i : Int) : Bool := rightB s && decide (1 ≤ i) && decide (i ≤ 24)
set_option maxHeartbeats 4000000 in
theorem fits_any (s : List UInt8) (i : Int) (w : World) : Calls Try.prog 28 #[.agg #[.string (str s), .int .i64 i]] w fun e w' => e = .returned (.bool (fitsB s i)) ∧ Below w.heap.size w w' := by
  have HR := Lib.hid (fun W => right_any s W)
  unfold fitsB
  obtain ⟨r, hr⟩ : ∃ r, r = rightB s := ⟨_, rfl⟩
  rw [← hr] at HR ⊢
  clear hr
  rcases r with _ | _
  · go_enter Try.func28, Try.ntmps28
    go_wp2_with (go_at_call 44; refine (HR.out _).mono ?_; rintro e w2 ⟨rfl, rfl⟩)
    go_ret
    exact ⟨rfl, (Below.refl _ _).alloc (Nat.le_refl _) _⟩
  rcases q1 : decide (1 ≤ i) with _ | _
  · go_enter Try.func28, Try.ntmps28
    go_wp2_with (go_at_call 44; refine (HR.out _).mono ?_; rintro e w2 ⟨rfl, rfl⟩)
    go_ret
    exact ⟨rfl, (Below.refl _ _).alloc (Nat.le_refl _) _⟩
  rcases q2 : decide (i ≤ 24) with _ | _
  · go_enter Try.func28, Try.ntmps28
    go_wp2_with (go_at_call 44; refine (HR.out _).mono ?_; rintro e w2 ⟨rfl, rfl⟩)
    go_ret
    exact ⟨rfl, (Below.refl _ _).alloc (Nat.le_refl _) _⟩
  go_enter Try.func28, Try.ntmps28
  go_wp2_with (go_at_call 44; refine (HR.out _).mono ?_; rintro e w2 ⟨rfl, rfl⟩)
  go_ret
  exact ⟨rfl, (Below.refl _ _).alloc (Nat.le_refl _) _⟩
end Go.Proofs.YteghldapcfkekaaK
