import Derived.Test.YteghldapcfkekaaKShelf
import Derived.Test.YteghldapcfkekaaKStep
namespace Go.Proofs.YteghldapcfkekaaK
open Go.RowKit
set_option linter.unusedSimpArgs false
set_option linter.unusedVariables false
/-! name.Right. -/
set_option maxHeartbeats 4000000 in
theorem index_at (s : List UInt8) (c : Int) (w : World) : Calls Try.prog 53 #[.string (str s), .int .u8 c] w fun e w' => e = .returned (.int .i64 (Lib.indexByte s c.toNat.toUInt8)) ∧ w = w' := by
  refine (Try.strings_IndexByte (str s) c w).mono ?_
  rintro e w' ⟨h1, h2⟩
  exact ⟨h1, h2.symm⟩
def rightB (s : List UInt8) : Bool := !(s == []) && decide ((s.length : Int) ≤ 12) && !(s == [46]) && !(s == [46, 46]) && decide (Lib.indexByte s 47 < 0) && decide (Lib.indexByte s 0 < 0)
set_option maxHeartbeats 4000000 in
theorem right_any (s : List UInt8) (w : World) : Calls Try.prog 44 #[.string (str s)] w fun e w' => e = .returned (.bool (rightB s)) ∧ w = w' := by
  have HI := Lib.hid (fun c W => index_at s c W)
  unfold rightB
  have hsz := str_size s
  rcases q1 : (s == []) with _ | _
  rotate_left
  · go_enter Try.func44, Try.ntmps44
    go_wp2_with (go_at_call 53; refine (HI.out _ _).mono ?_; rintro e w2 ⟨rfl, rfl⟩)
    go_ret
    exact ⟨rfl, rfl⟩
  rcases q2 : decide ((s.length : Int) ≤ 12) with _ | _
  · go_enter Try.func44, Try.ntmps44
    go_wp2_with (go_at_call 53; refine (HI.out _ _).mono ?_; rintro e w2 ⟨rfl, rfl⟩)
    go_ret
    exact ⟨rfl, rfl⟩
  rcases q3 : (s == [46]) with _ | _
  rotate_left
  · go_enter Try.func44, Try.ntmps44
    go_wp2_with (go_at_call 53; refine (HI.out _ _).mono ?_; rintro e w2 ⟨rfl, rfl⟩)
    go_ret
    exact ⟨rfl, rfl⟩
  rcases q4 : (s == [46, 46]) with _ | _
  rotate_left
  · go_enter Try.func44, Try.ntmps44
    go_wp2_with (go_at_call 53; refine (HI.out _ _).mono ?_; rintro e w2 ⟨rfl, rfl⟩)
    go_ret
    exact ⟨rfl, rfl⟩
  rcases q5 : decide (Lib.indexByte s 47 < 0) with _ | _
  · go_enter Try.func44, Try.ntmps44
    go_wp2_with (go_at_call 53; refine (HI.out _ _).mono ?_; rintro e w2 ⟨rfl, rfl⟩)
    go_ret
    exact ⟨rfl, rfl⟩
  rcases q6 : decide (Lib.indexByte s 0 < 0) with _ | _
  · go_enter Try.func44, Try.ntmps44
    go_wp2_with (go_at_call 53; refine (HI.out _ _).mono ?_; rintro e w2 ⟨rfl, rfl⟩)
    go_ret
    exact ⟨rfl, rfl⟩
  go_enter Try.func44, Try.ntmps44
  go_wp2_with (go_at_call 53; refine (HI.out _ _).mono ?_; rintro e w2 ⟨rfl, rfl⟩)
  go_ret
  exact ⟨rfl, rfl⟩
end Go.Proofs.YteghldapcfkekaaK
