import Derived.Test.YteghldapcfkekaaKFit
namespace Go.Proofs.YteghldapcfkekaaK
open Go.RowKit
set_option linter.unusedSimpArgs false
set_option linter.unusedVariables false
/-! cmp.Compare on texts, inode.byName. -/
def cmpI (s t : List UInt8) : Int := if Op.bytesLess s t = true then -1 else if (s == t) = true then 0 else 1
set_option maxHeartbeats 4000000 in
theorem isnan_str (s : List UInt8) (w : World) : Calls Try.prog 54 #[.string (str s)] w fun e w' => e = .returned (.bool false) ∧ w = w' := by
  go_enter Try.func54, Try.ntmps54
  go_wp2
  go_ret
  exact ⟨rfl, rfl⟩
set_option maxHeartbeats 4000000 in
theorem cmp_str (s t : List UInt8) (w : World) : Calls Try.prog 45 #[.string (str s), .string (str t)] w fun e w' => e = .returned (.int .i64 (cmpI s t)) ∧ w = w' := by
  have HN := Lib.hid (fun s W => isnan_str s W)
  unfold cmpI
  rcases q1 : Op.bytesLess s t with _ | _
  · rw [if_neg (by decide)]
    rcases q2 : (s == t) with _ | _
    · rw [if_neg (by decide)]
      go_enter Try.func45, Try.ntmps45
      go_wp2_with (go_at_call 54; refine (HN.out _ _).mono ?_; rintro e w2 ⟨rfl, rfl⟩)
      go_ret
      exact ⟨rfl, rfl⟩
    · rw [if_pos rfl]
      go_enter Try.func45, Try.ntmps45
      go_wp2_with (go_at_call 54; refine (HN.out _ _).mono ?_; rintro e w2 ⟨rfl, rfl⟩)
      go_ret
      exact ⟨rfl, rfl⟩
  · rw [if_pos rfl]
    go_enter Try.func45, Try.ntmps45
    go_wp2_with (go_at_call 54; refine (HN.out _ _).mono ?_; rintro e w2 ⟨rfl, rfl⟩)
    go_ret
    exact ⟨rfl, rfl⟩
set_option maxHeartbeats 4000000 in
theorem byName_any (s t : List UInt8) (i j : Int) (w : World) : Calls Try.prog 29 #[.agg #[.string (str s), .int .i64 i], .agg #[.string (str t), .int .i64 j]] w fun e w' => e = .returned (.int .i64 (cmpI s t)) ∧ Below w.heap.size w w' := by
  have HC := Lib.hid (fun s t W => cmp_str s t W)
  go_enter Try.func29, Try.ntmps29
  go_wp2_with (go_at_call 45; refine (HC.out _ _ _).mono ?_; rintro e w2 ⟨rfl, rfl⟩)
  go_ret
  exact ⟨rfl, ((Below.refl _ _).alloc (Nat.le_refl _) _).alloc (by simp) _⟩
end Go.Proofs.YteghldapcfkekaaK
