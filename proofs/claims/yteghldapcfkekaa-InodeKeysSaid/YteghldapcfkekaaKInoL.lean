import Derived.Test.YteghldapcfkekaaKInoK
namespace Go.Proofs.YteghldapcfkekaaK
open Go.RowKit
set_option linter.unusedSimpArgs false
set_option linter.unusedVariables false
theorem chunksI_pos {c : Int} (h : ¬ c ≤ 0) : chunksI c = (c - 1) / 128 + 1 := by unfold chunksI; rw [if_neg h]
set_option maxRecDepth 100000 in
set_option maxHeartbeats 8000000 in
theorem inodeKeys_from (a b c d : Int) (hc1 : -9223372036854775808 ≤ c) (hc : c ≤ 9223372036854775807) (w : World) (hs : ∀ W, Calls Try.prog 8 #[] W fun e w' => e = .returned (.bool true) ∧ Below W.heap.size W w') :
    Calls Try.prog 3 #[.int .i64 a, .int .i64 b, .int .i64 c, .int .i64 d] w fun e w' => e = .returned (.bool true) ∧ Below w.heap.size w w' := by
  have HS := Lib.hid hs
  have HK := Lib.hid (fun a b W => key_any a b W)
  have HC := Lib.hid (fun W => chunks_any c hc W)
  clear hs
  by_cases hz : c ≤ 0
  · have dz : decide (c ≤ 0) = true := decide_eq_true hz
    have cz : chunksI c = 0 := by unfold chunksI; rw [if_pos hz]
    clear hz hc hc1
    by_cases p0 : 1 ≤ a
    rotate_left
    · have fk : keyI a b = -1 := keyI_out (fun h => p0 h.1)
      have d0 : decide (1 ≤ a) = false := decide_eq_false p0
      clear p0
      go_enter Try.func3, Try.ntmps3
      go_wp2_with (first
        | (go_at_call 8; refine (HS.out _).mono ?_; rintro e w1 ⟨rfl, hb1⟩)
        | (go_at_call 9; refine (HK.out _ _ _).mono ?_; rintro e w2 ⟨rfl, rfl⟩)
        | (go_at_call 10; refine (HC.out _).mono ?_; rintro e w3 ⟨rfl, rfl⟩))
      go_ret
      exact ⟨rfl, hb1⟩
    have d0 : decide (1 ≤ a) = true := decide_eq_true p0
    by_cases p1 : a ≤ 24
    rotate_left
    · have fk : keyI a b = -1 := keyI_out (fun h => p1 h.2.1)
      have d1 : decide (a ≤ 24) = false := decide_eq_false p1
      clear p0 p1
      go_enter Try.func3, Try.ntmps3
      go_wp2_with (first
        | (go_at_call 8; refine (HS.out _).mono ?_; rintro e w1 ⟨rfl, hb1⟩)
        | (go_at_call 9; refine (HK.out _ _ _).mono ?_; rintro e w2 ⟨rfl, rfl⟩)
        | (go_at_call 10; refine (HC.out _).mono ?_; rintro e w3 ⟨rfl, rfl⟩))
      go_ret
      exact ⟨rfl, hb1⟩
    have d1 : decide (a ≤ 24) = true := decide_eq_true p1
    by_cases p2 : 0 ≤ b
    rotate_left
    · have fk : keyI a b = -1 := keyI_out (fun h => p2 h.2.2.1)
      have d2 : decide (0 ≤ b) = false := decide_eq_false p2
      clear p0 p1 p2
      go_enter Try.func3, Try.ntmps3
      go_wp2_with (first
        | (go_at_call 8; refine (HS.out _).mono ?_; rintro e w1 ⟨rfl, hb1⟩)
        | (go_at_call 9; refine (HK.out _ _ _).mono ?_; rintro e w2 ⟨rfl, rfl⟩)
        | (go_at_call 10; refine (HC.out _).mono ?_; rintro e w3 ⟨rfl, rfl⟩))
      go_ret
      exact ⟨rfl, hb1⟩
    have d2 : decide (0 ≤ b) = true := decide_eq_true p2
    by_cases p3 : b ≤ 6
    rotate_left
    · have fk : keyI a b = -1 := keyI_out (fun h => p3 h.2.2.2)
      have d3 : decide (b ≤ 6) = false := decide_eq_false p3
      clear p0 p1 p2 p3
      go_enter Try.func3, Try.ntmps3
      go_wp2_with (first
        | (go_at_call 8; refine (HS.out _).mono ?_; rintro e w1 ⟨rfl, hb1⟩)
        | (go_at_call 9; refine (HK.out _ _ _).mono ?_; rintro e w2 ⟨rfl, rfl⟩)
        | (go_at_call 10; refine (HC.out _).mono ?_; rintro e w3 ⟨rfl, rfl⟩))
      go_ret
      exact ⟨rfl, hb1⟩
    have d3 : decide (b ≤ 6) = true := decide_eq_true p3
    have hin : 1 ≤ a ∧ a ≤ 24 ∧ 0 ≤ b ∧ b ≤ 6 := ⟨p0, p1, p2, p3⟩
    have hke := keyI_eq (c := c) (d := d) hin
    have f1 : decide (0 ≤ keyI a b) = true := decide_eq_true (by rw [keyI_in hin]; omega)
    have f2 : decide (255 < keyI a b) = false := decide_eq_false (by rw [keyI_in hin]; omega)
    clear p0 p1 p2 p3 hin
    rcases g1 : (a == c) with _ | _
    · rw [g1, Bool.false_and] at hke
      go_enter Try.func3, Try.ntmps3
      go_wp2_with (first
        | (go_at_call 8; refine (HS.out _).mono ?_; rintro e w1 ⟨rfl, hb1⟩)
        | (go_at_call 9; refine (HK.out _ _ _).mono ?_; rintro e w2 ⟨rfl, rfl⟩)
        | (go_at_call 10; refine (HC.out _).mono ?_; rintro e w3 ⟨rfl, rfl⟩))
      go_ret
      exact ⟨rfl, hb1⟩
    · rw [g1, Bool.true_and] at hke
      rcases g2 : (b == d) with _ | _
      · rw [g2] at hke
        go_enter Try.func3, Try.ntmps3
        go_wp2_with (first
          | (go_at_call 8; refine (HS.out _).mono ?_; rintro e w1 ⟨rfl, hb1⟩)
          | (go_at_call 9; refine (HK.out _ _ _).mono ?_; rintro e w2 ⟨rfl, rfl⟩)
          | (go_at_call 10; refine (HC.out _).mono ?_; rintro e w3 ⟨rfl, rfl⟩))
        go_ret
        exact ⟨rfl, hb1⟩
      · rw [g2] at hke
        go_enter Try.func3, Try.ntmps3
        go_wp2_with (first
          | (go_at_call 8; refine (HS.out _).mono ?_; rintro e w1 ⟨rfl, hb1⟩)
          | (go_at_call 9; refine (HK.out _ _ _).mono ?_; rintro e w2 ⟨rfl, rfl⟩)
          | (go_at_call 10; refine (HC.out _).mono ?_; rintro e w3 ⟨rfl, rfl⟩))
        go_ret
        exact ⟨rfl, hb1⟩
  · have dz : decide (c ≤ 0) = false := decide_eq_false hz
    have cp := chunksI_pos hz
    have k1 : decide (1 ≤ chunksI c) = true := decide_eq_true (by rw [cp]; omega)
    have k2 : wrap64 (chunksI c - 1) = (c - 1) / 128 := by rw [cp]; unfold wrap64; omega
    have k3 : wrap64 (c - 1) = c - 1 := by unfold wrap64; omega
    have k4 : (c - 1).tdiv 128 = (c - 1) / 128 := Int.tdiv_eq_ediv_of_nonneg (by omega)
    have k5 : wrap64 ((c - 1) / 128) = (c - 1) / 128 := by unfold wrap64; omega
    clear hz hc hc1 cp
    by_cases p0 : 1 ≤ a
    rotate_left
    · have fk : keyI a b = -1 := keyI_out (fun h => p0 h.1)
      have d0 : decide (1 ≤ a) = false := decide_eq_false p0
      clear p0
      go_enter Try.func3, Try.ntmps3
      go_wp2_with (first
        | (go_at_call 8; refine (HS.out _).mono ?_; rintro e w1 ⟨rfl, hb1⟩)
        | (go_at_call 9; refine (HK.out _ _ _).mono ?_; rintro e w2 ⟨rfl, rfl⟩)
        | (go_at_call 10; refine (HC.out _).mono ?_; rintro e w3 ⟨rfl, rfl⟩))
      go_ret
      exact ⟨rfl, hb1⟩
    have d0 : decide (1 ≤ a) = true := decide_eq_true p0
    by_cases p1 : a ≤ 24
    rotate_left
    · have fk : keyI a b = -1 := keyI_out (fun h => p1 h.2.1)
      have d1 : decide (a ≤ 24) = false := decide_eq_false p1
      clear p0 p1
      go_enter Try.func3, Try.ntmps3
      go_wp2_with (first
        | (go_at_call 8; refine (HS.out _).mono ?_; rintro e w1 ⟨rfl, hb1⟩)
        | (go_at_call 9; refine (HK.out _ _ _).mono ?_; rintro e w2 ⟨rfl, rfl⟩)
        | (go_at_call 10; refine (HC.out _).mono ?_; rintro e w3 ⟨rfl, rfl⟩))
      go_ret
      exact ⟨rfl, hb1⟩
    have d1 : decide (a ≤ 24) = true := decide_eq_true p1
    by_cases p2 : 0 ≤ b
    rotate_left
    · have fk : keyI a b = -1 := keyI_out (fun h => p2 h.2.2.1)
      have d2 : decide (0 ≤ b) = false := decide_eq_false p2
      clear p0 p1 p2
      go_enter Try.func3, Try.ntmps3
      go_wp2_with (first
        | (go_at_call 8; refine (HS.out _).mono ?_; rintro e w1 ⟨rfl, hb1⟩)
        | (go_at_call 9; refine (HK.out _ _ _).mono ?_; rintro e w2 ⟨rfl, rfl⟩)
        | (go_at_call 10; refine (HC.out _).mono ?_; rintro e w3 ⟨rfl, rfl⟩))
      go_ret
      exact ⟨rfl, hb1⟩
    have d2 : decide (0 ≤ b) = true := decide_eq_true p2
    by_cases p3 : b ≤ 6
    rotate_left
    · have fk : keyI a b = -1 := keyI_out (fun h => p3 h.2.2.2)
      have d3 : decide (b ≤ 6) = false := decide_eq_false p3
      clear p0 p1 p2 p3
      go_enter Try.func3, Try.ntmps3
      go_wp2_with (first
        | (go_at_call 8; refine (HS.out _).mono ?_; rintro e w1 ⟨rfl, hb1⟩)
        | (go_at_call 9; refine (HK.out _ _ _).mono ?_; rintro e w2 ⟨rfl, rfl⟩)
        | (go_at_call 10; refine (HC.out _).mono ?_; rintro e w3 ⟨rfl, rfl⟩))
      go_ret
      exact ⟨rfl, hb1⟩
    have d3 : decide (b ≤ 6) = true := decide_eq_true p3
    have hin : 1 ≤ a ∧ a ≤ 24 ∧ 0 ≤ b ∧ b ≤ 6 := ⟨p0, p1, p2, p3⟩
    have hke := keyI_eq (c := c) (d := d) hin
    have f1 : decide (0 ≤ keyI a b) = true := decide_eq_true (by rw [keyI_in hin]; omega)
    have f2 : decide (255 < keyI a b) = false := decide_eq_false (by rw [keyI_in hin]; omega)
    clear p0 p1 p2 p3 hin
    rcases g1 : (a == c) with _ | _
    · rw [g1, Bool.false_and] at hke
      go_enter Try.func3, Try.ntmps3
      go_wp2_with (first
        | (go_at_call 8; refine (HS.out _).mono ?_; rintro e w1 ⟨rfl, hb1⟩)
        | (go_at_call 9; refine (HK.out _ _ _).mono ?_; rintro e w2 ⟨rfl, rfl⟩)
        | (go_at_call 10; refine (HC.out _).mono ?_; rintro e w3 ⟨rfl, rfl⟩))
      go_ret
      exact ⟨rfl, hb1⟩
    · rw [g1, Bool.true_and] at hke
      rcases g2 : (b == d) with _ | _
      · rw [g2] at hke
        go_enter Try.func3, Try.ntmps3
        go_wp2_with (first
          | (go_at_call 8; refine (HS.out _).mono ?_; rintro e w1 ⟨rfl, hb1⟩)
          | (go_at_call 9; refine (HK.out _ _ _).mono ?_; rintro e w2 ⟨rfl, rfl⟩)
          | (go_at_call 10; refine (HC.out _).mono ?_; rintro e w3 ⟨rfl, rfl⟩))
        go_ret
        exact ⟨rfl, hb1⟩
      · rw [g2] at hke
        go_enter Try.func3, Try.ntmps3
        go_wp2_with (first
          | (go_at_call 8; refine (HS.out _).mono ?_; rintro e w1 ⟨rfl, hb1⟩)
          | (go_at_call 9; refine (HK.out _ _ _).mono ?_; rintro e w2 ⟨rfl, rfl⟩)
          | (go_at_call 10; refine (HC.out _).mono ?_; rintro e w3 ⟨rfl, rfl⟩))
        go_ret
        exact ⟨rfl, hb1⟩
end Go.Proofs.YteghldapcfkekaaK
