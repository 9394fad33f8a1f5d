import Derived.Test.YteghldapcfkekaaRows
import Derived.Test.YteghldapcfkekaaKStep
namespace Go.Proofs.YteghldapcfkekaaK
open Go.RowKit
set_option linter.unusedSimpArgs false
set_option linter.unusedVariables false
/-! Keys and chunks of inodes. -/
def keyI (a b : Int) : Int := if 1 ≤ a ∧ a ≤ 24 ∧ 0 ≤ b ∧ b ≤ 6 then a * 8 + b else -1
def chunksI (c : Int) : Int := if c ≤ 0 then 0 else (c - 1) / 128 + 1
set_option maxHeartbeats 4000000 in
theorem key_any (a b : Int) (w : World) : Calls Try.prog 9 #[.int .i64 a, .int .i64 b] w fun e w' => e = .returned (.int .i64 (keyI a b)) ∧ w = w' := by
  unfold keyI
  by_cases h : 1 ≤ a ∧ a ≤ 24 ∧ 0 ≤ b ∧ b ≤ 6
  · rw [if_pos h]
    obtain ⟨h1, h2, h3, h4⟩ := h
    have d1 : decide (a < 1) = false := decide_eq_false (by omega)
    have d2 : decide (24 < a) = false := decide_eq_false (by omega)
    have d3 : decide (b < 0) = false := decide_eq_false (by omega)
    have d4 : decide (6 < b) = false := decide_eq_false (by omega)
    have e1 : wrap64 (a * 8) = a * 8 := by unfold wrap64; omega
    have e2 : wrap64 (a * 8 + b) = a * 8 + b := by unfold wrap64; omega
    clear h1 h2 h3 h4
    go_enter Try.func9, Try.ntmps9
    go_wp2
    go_ret
    refine ⟨?_, rfl⟩
    show Ending.returned (.int .i64 (wrap64 (a * 8 + b))) = _
    rw [e2]
  · rw [if_neg h]
    by_cases h1 : a < 1
    · have d1 : decide (a < 1) = true := decide_eq_true h1
      clear h h1
      go_enter Try.func9, Try.ntmps9
      go_wp2
      go_ret
      exact ⟨rfl, rfl⟩
    · have d1 : decide (a < 1) = false := decide_eq_false h1
      by_cases h2 : 24 < a
      · have d2 : decide (24 < a) = true := decide_eq_true h2
        clear h h1 h2
        go_enter Try.func9, Try.ntmps9
        go_wp2
        go_ret
        exact ⟨rfl, rfl⟩
      · have d2 : decide (24 < a) = false := decide_eq_false h2
        by_cases h3 : b < 0
        · have d3 : decide (b < 0) = true := decide_eq_true h3
          clear h h1 h2 h3
          go_enter Try.func9, Try.ntmps9
          go_wp2
          go_ret
          exact ⟨rfl, rfl⟩
        · have d3 : decide (b < 0) = false := decide_eq_false h3
          have d4 : decide (6 < b) = true := decide_eq_true (by omega)
          clear h h1 h2 h3
          go_enter Try.func9, Try.ntmps9
          go_wp2
          go_ret
          exact ⟨rfl, rfl⟩
set_option maxHeartbeats 4000000 in
theorem chunks_any (c : Int) (hc : c ≤ 9223372036854775807) (w : World) : Calls Try.prog 10 #[.int .i64 c] w fun e w' => e = .returned (.int .i64 (chunksI c)) ∧ w = w' := by
  unfold chunksI
  by_cases h : c ≤ 0
  · rw [if_pos h]
    by_cases h1 : c < 0
    · clear hc h
      go_enter Try.func10, Try.ntmps10
      go_wp2
      go_ret
      exact ⟨rfl, rfl⟩
    · have h2 : c = 0 := by omega
      subst h2
      clear hc h h1
      go_enter Try.func10, Try.ntmps10
      go_wp2
      go_ret
      exact ⟨rfl, rfl⟩
  · rw [if_neg h]
    have h1 : ¬ c < 0 := by omega
    have T1 := Lib.hid (Int.tdiv_eq_ediv_of_nonneg (a := c) (b := 128) (by omega))
    have E0 : Hid (wrap64 (c / 128) = c / 128) := Lib.hid (by unfold wrap64; omega)
    by_cases hr : 0 < c % 128
    · have d1 : decide (0 < c % 128) = true := decide_eq_true hr
      have E1 : Hid (wrap64 (c / 128 + 1) = (c - 1) / 128 + 1) := Lib.hid (by unfold wrap64; omega)
      clear hc h
      go_enter Try.func10, Try.ntmps10
      go_wp2
      go_ret
      refine ⟨?_, rfl⟩
      show Ending.returned (.int .i64 (wrap64 (wrap64 (c.tdiv 128) + 1))) = _
      rw [T1.out, E0.out, E1.out]
    · have d1 : decide (0 < c % 128) = false := decide_eq_false hr
      have e1 : c / 128 = (c - 1) / 128 + 1 := by omega
      have E1 := Lib.hid e1
      clear hc h e1
      go_enter Try.func10, Try.ntmps10
      go_wp2
      go_ret
      refine ⟨?_, rfl⟩
      show Ending.returned (.int .i64 (wrap64 (c.tdiv 128))) = _
      rw [T1.out, E0.out, E1.out]
end Go.Proofs.YteghldapcfkekaaK
