import Derived.Test.YtoeonmdcoiemmaaKWearG
namespace Go.Proofs.YtoeonmdcoiemmaaK
open Go.RowKit
set_option linter.unusedSimpArgs false
set_option linter.unusedVariables false
def wr' (ls : List Ld) (i : Nat) : Int := (ls.getD i ldZ).wear
theorem maxW_ge (ls : List Ld) : ∀ k i, i < k → wr' ls i ≤ maxW ls k
  | 0, i, h => by omega
  | k + 1, i, h => by
    show wr' ls i ≤ max (maxW ls k) (wr' ls k)
    by_cases e : i = k
    · subst e; omega
    · have := maxW_ge ls k i (by omega); omega
theorem minW_le (ls : List Ld) : ∀ k i, i < k → minW ls k ≤ wr' ls i
  | 0, i, h => by omega
  | k + 1, i, h => by
    show min (minW ls k) (wr' ls k) ≤ wr' ls i
    by_cases e : i = k
    · subst e; omega
    · have := minW_le ls k i (by omega); omega
theorem maxW_mem (ls : List Ld) (n : Nat) (hn : 0 < n) : ∀ k, k ≤ n → ∃ i, i < n ∧ maxW ls k = wr' ls i
  | 0, _ => ⟨0, hn, rfl⟩
  | k + 1, h => by
    obtain ⟨i, hi, he⟩ := maxW_mem ls n hn k (by omega)
    show ∃ i, i < n ∧ max (maxW ls k) (wr' ls k) = wr' ls i
    by_cases e : maxW ls k ≤ wr' ls k
    · exact ⟨k, by omega, by omega⟩
    · exact ⟨i, hi, by omega⟩
theorem minW_mem (ls : List Ld) (n : Nat) (hn : 0 < n) : ∀ k, k ≤ n → ∃ i, i < n ∧ minW ls k = wr' ls i
  | 0, _ => ⟨0, hn, rfl⟩
  | k + 1, h => by
    obtain ⟨i, hi, he⟩ := minW_mem ls n hn k (by omega)
    show ∃ i, i < n ∧ min (minW ls k) (wr' ls k) = wr' ls i
    by_cases e : wr' ls k ≤ minW ls k
    · exact ⟨k, by omega, by omega⟩
    · exact ⟨i, hi, by omega⟩
/-- The gap that was seen: rows ahead of k wholly, and of row k what is ahead of j. -/
def Seen (ls : List Ld) (n k j : Nat) (g : Int) : Prop :=
  0 ≤ g ∧ (∀ i q, i < k → q < n → wr' ls i - wr' ls q ≤ g) ∧ (∀ q, q < j → wr' ls k - wr' ls q ≤ g) ∧ (g = 0 ∨ ∃ i q, i < n ∧ q < n ∧ g = wr' ls i - wr' ls q)
theorem seen_zero (ls : List Ld) (n : Nat) : Seen ls n 0 0 0 := ⟨by omega, fun i q h => by omega, fun q h => by omega, .inl rfl⟩
theorem Seen.row {ls : List Ld} {n k : Nat} {g : Int} (h : Seen ls n k n g) : Seen ls n (k + 1) 0 g :=
  ⟨h.1, fun i q hi hq => by
    by_cases e : i = k
    · subst e; exact h.2.2.1 q hq
    · exact h.2.1 i q (by omega) hq, fun q hq => by omega, h.2.2.2⟩
theorem Seen.step {ls : List Ld} {n k j : Nat} {g g' : Int} (h : Seen ls n k j g) (hk : k < n) (hj : j < n) (hg : g' = if wr' ls j < wr' ls k then max g (wr' ls k - wr' ls j) else g) : Seen ls n k (j + 1) g' := by
  obtain ⟨h1, h2, h3, h4⟩ := h
  by_cases e : wr' ls j < wr' ls k
  · rw [if_pos e] at hg
    refine ⟨by omega, fun i q hi hq => by have := h2 i q hi hq; omega, fun q hq => ?_, ?_⟩
    · by_cases e2 : q = j
      · subst e2; omega
      · have := h3 q (by omega); omega
    · by_cases e3 : g ≤ wr' ls k - wr' ls j
      · exact .inr ⟨k, j, hk, hj, by clear h4; omega⟩
      · have : g' = g := by clear h4; omega
        rw [this]; exact h4
  · rw [if_neg e] at hg
    subst hg
    refine ⟨h1, h2, fun q hq => ?_, h4⟩
    by_cases e2 : q = j
    · subst e2; omega
    · exact h3 q (by omega)
theorem Seen.all {ls : List Ld} {n : Nat} {g : Int} (h : Seen ls n n 0 g) (hn : 0 < n) : maxW ls n - minW ls n = g := by
  obtain ⟨i, hi, he⟩ := maxW_mem ls n hn n (Nat.le_refl _)
  obtain ⟨q, hq, hf⟩ := minW_mem ls n hn n (Nat.le_refl _)
  have h1 := h.2.1 i q hi hq
  have h0 := h.1
  rcases h.2.2.2 with e | ⟨a, b, ha, hb, e⟩
  · have := maxW_ge ls n q hq
    omega
  · have := maxW_ge ls n a ha
    have := minW_le ls n b hb
    omega
theorem gap_none (A : Option Addr) (c : Nat) (w : World) : Calls Try.prog 23 #[.slice A 0 c] w fun e w' => e = .returned (.int .u64 0) ∧ w = w' := by
  go_enter Try.func23, Try.ntmps23
  go_wp2
  go_ret
  exact ⟨rfl, rfl⟩
end Go.Proofs.YtoeonmdcoiemmaaK
