import Derived.Test.YteghldapcfkekaaKNamS
namespace Go.Proofs.YteghldapcfkekaaK
open Go.RowKit
set_option linter.unusedSimpArgs false
set_option linter.unusedVariables false
/-! The reference's Fits. -/
set_option maxHeartbeats 4000000 in
theorem rfits_any (s : List UInt8) (i : Int) (w : World) : Calls Try.prog 38 #[.agg #[.string (str s), .int .i64 i]] w fun e w' => e = .returned (.bool (fitsB s i)) ∧ Below w.heap.size w w' := by
  have HR := Lib.hid (fun W => rright_any s W)
  unfold fitsB
  obtain ⟨r, hr⟩ : ∃ r, r = rightB s := ⟨_, rfl⟩
  rw [← hr] at HR ⊢
  clear hr
  rcases r with _ | _
  · go_enter Try.func38, Try.ntmps38
    go_wp2_with (go_at_call 49; refine (HR.out _).mono ?_; rintro e w2 ⟨rfl, rfl⟩)
    go_ret
    exact ⟨rfl, (Below.refl _ _).alloc (Nat.le_refl _) _⟩
  rcases q1 : decide (1 ≤ i) with _ | _
  · go_enter Try.func38, Try.ntmps38
    go_wp2_with (go_at_call 49; refine (HR.out _).mono ?_; rintro e w2 ⟨rfl, rfl⟩)
    go_ret
    exact ⟨rfl, (Below.refl _ _).alloc (Nat.le_refl _) _⟩
  rcases q2 : decide (i ≤ 24) with _ | _
  · go_enter Try.func38, Try.ntmps38
    go_wp2_with (go_at_call 49; refine (HR.out _).mono ?_; rintro e w2 ⟨rfl, rfl⟩)
    go_ret
    exact ⟨rfl, (Below.refl _ _).alloc (Nat.le_refl _) _⟩
  go_enter Try.func38, Try.ntmps38
  go_wp2_with (go_at_call 49; refine (HR.out _).mono ?_; rintro e w2 ⟨rfl, rfl⟩)
  go_ret
  exact ⟨rfl, (Below.refl _ _).alloc (Nat.le_refl _) _⟩
end Go.Proofs.YteghldapcfkekaaK
