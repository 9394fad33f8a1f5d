import Derived.Test.YtljdfhckllncoaaKNode
namespace Go.Proofs.YtljdfhckllncoaaK
open Go.RowKit
set_option linter.unusedSimpArgs false
set_option linter.unusedVariables false
theorem str_inj {a b : List UInt8} (h : str a = str b) : a = b := by
  have h1 : (str a).toList = (str b).toList := by rw [h]
  rwa [str_toList, str_toList] at h1
set_option maxRecDepth 10000 in
set_option maxHeartbeats 2000000 in
theorem same_any (k1 e1 k2 e2 : Int) (A1 : Option Addr) (n1 c1 : Nat) (b1 : List UInt8) (A2 : Option Addr) (n2 c2 : Nat) (b2 : List UInt8) (w : World) (hX1 : Bs w (.slice A1 n1 c1) b1) (hX2 : Bs w (.slice A2 n2 c2) b2) :
    Calls Try.prog 22 #[.agg #[.int .i64 k1, .int .u64 e1, .slice A1 n1 c1], .agg #[.int .i64 k2, .int .u64 e2, .slice A2 n2 c2]] w fun e w' => e = .returned (.bool (decide (k1 = k2 ∧ e1 = e2 ∧ b1 = b2))) ∧ Below w.heap.size w w' := by
  obtain ⟨W, hW⟩ : ∃ W, W = (w.alloc (.cells #[.int .i64 k1, .int .u64 e1, .slice A1 n1 c1] 45)).alloc (.cells #[.int .i64 k2, .int .u64 e2, .slice A2 n2 c2] 45) := ⟨_, rfl⟩
  have hb0 : Below w.heap.size w W := by rw [hW]; exact ((Below.refl _ _).alloc (Nat.le_refl _) _).alloc (by simp) _
  have hs1 := run_str (hX1.below hb0)
  have hs2 := run_str (hX2.below hb0)
  by_cases h1 : k1 = k2
  · by_cases h2 : e1 = e2
    · by_cases h3 : b1 = b2
      · rw [decide_eq_true (p := k1 = k2 ∧ e1 = e2 ∧ b1 = b2) ⟨h1, h2, h3⟩]
        subst h1 h2 h3
        rw [hW] at hs1 hs2
        go_enter Try.func22, Try.ntmps22
        go_wp2
        go_ret
        exact ⟨rfl, by rw [hW] at hb0; exact hb0⟩
      · rw [decide_eq_false (p := k1 = k2 ∧ e1 = e2 ∧ b1 = b2) (fun h => h3 h.2.2)]
        subst h1 h2
        have h4 : ¬ str b1 = str b2 := fun h => h3 (str_inj h)
        rw [hW] at hs1 hs2
        go_enter Try.func22, Try.ntmps22
        go_wp2
        go_ret
        refine ⟨?_, by rw [hW] at hb0; exact hb0⟩
        show Ending.returned (Value.bool _) = _
        have h5 : (b1 == b2) = false := by rw [beq_eq_false_iff_ne]; exact h3
        rw [h5]
    · rw [decide_eq_false (p := k1 = k2 ∧ e1 = e2 ∧ b1 = b2) (fun h => h2 h.2.1)]
      subst h1
      have h4 : (e1 == e2) = false := by simpa using h2
      clear hs1 hs2 h2
      go_enter Try.func22, Try.ntmps22
      go_wp2
      go_ret
      exact ⟨rfl, by rw [hW] at hb0; exact hb0⟩
  · rw [decide_eq_false (p := k1 = k2 ∧ e1 = e2 ∧ b1 = b2) (fun h => h1 h.1)]
    have h4 : (k1 == k2) = false := by simpa using h1
    clear hs1 hs2 h1
    go_enter Try.func22, Try.ntmps22
    go_wp2
    go_ret
    exact ⟨rfl, by rw [hW] at hb0; exact hb0⟩
end Go.Proofs.YtljdfhckllncoaaK
