import Derived.Test.YtoeonmdcoiemmaaKWearZ
namespace Go.Proofs.YtoeonmdcoiemmaaK
open Go.RowKit
set_option linter.unusedSimpArgs false
set_option linter.unusedVariables false
theorem lessB_iff (a b : Ld) : lessB a b = true ↔ (a.cnt < b.cnt ∨ (a.cnt = b.cnt ∧ (a.wear < b.wear ∨ (a.wear = b.wear ∧ a.blk < b.blk)))) := by
  unfold lessB
  by_cases h1 : a.cnt = b.cnt
  · rw [if_pos h1]
    by_cases h2 : a.wear = b.wear
    · rw [if_pos h2]; simp; omega
    · rw [if_neg h2]; simp; omega
  · rw [if_neg h1]; simp; omega
/-- What is chosen: none is ahead of it but the one that is left out. -/
theorem best_spec (ls : List Ld) (but : Int) : ∀ k b, bestP ls but k = some b → (b : Int) ≠ but ∧ b < k ∧ ∀ i : Nat, i < k → (i : Int) ≠ but → lessB (ls.getD i ldZ) (ls.getD b ldZ) = false := by
  intro k
  induction k with
  | zero => intro b h; cases h
  | succ k ih =>
    intro b h
    unfold bestP at h
    split at h
    · rename_i hb
      obtain ⟨h1, h2, h3⟩ := ih b h
      refine ⟨h1, by omega, fun i hi hn => ?_⟩
      by_cases e : i = k
      · subst e; exact absurd hb hn
      · exact h3 i (by omega) hn
    · rename_i hb
      split at h
      · rename_i hnone
        injection h with h
        subst h
        refine ⟨hb, by omega, fun i hi hn => ?_⟩
        by_cases e : i = k
        · subst e
          rw [Bool.eq_false_iff]
          intro hh
          rw [lessB_iff] at hh
          omega
        · exfalso
          have hex : ∀ m, (∃ i : Nat, i < m ∧ (i : Int) ≠ but) → bestP ls but m ≠ none := by
            intro m
            induction m with
            | zero => rintro ⟨i, hi, _⟩; omega
            | succ m ihm =>
              rintro ⟨i, hi, hn⟩
              unfold bestP
              split
              · rename_i he
                exact ihm ⟨i, by have : i ≠ m := by intro e; subst e; exact hn he
                                 omega, hn⟩
              · split
                · simp
                · split <;> simp
          exact hex k ⟨i, by omega, hn⟩ hnone
      · rename_i b' hb'
        obtain ⟨h1, h2, h3⟩ := ih b' hb'
        by_cases hl : lessB (ls.getD k ldZ) (ls.getD b' ldZ) = true
        · rw [if_pos hl] at h
          injection h with h
          subst h
          refine ⟨hb, by omega, fun i hi hn => ?_⟩
          rw [Bool.eq_false_iff]
          intro hh
          rw [lessB_iff] at hh hl
          by_cases e : i = k
          · subst e; omega
          · have h4 := h3 i (by omega) hn
            rw [Bool.eq_false_iff] at h4
            apply h4
            rw [lessB_iff]
            omega
        · rw [if_neg hl] at h
          injection h with h
          subst h
          refine ⟨h1, by omega, fun i hi hn => ?_⟩
          by_cases e : i = k
          · subst e; simpa using hl
          · exact h3 i (by omega) hn
theorem best_some (ls : List Ld) (but : Int) : ∀ m, (∃ i : Nat, i < m ∧ (i : Int) ≠ but) → ∃ b, bestP ls but m = some b := by
  intro m
  induction m with
  | zero => rintro ⟨i, hi, _⟩; omega
  | succ m ihm =>
    rintro ⟨i, hi, hn⟩
    unfold bestP
    split
    · rename_i he
      exact ihm ⟨i, by have : i ≠ m := by intro e; subst e; exact hn he
                       omega, hn⟩
    · split
      · exact ⟨_, rfl⟩
      · split <;> exact ⟨_, rfl⟩
/-- The last one's number is above the others'. -/
theorem last_spec (ls : List Ld) : ∀ k i, i < k → (ls.getD i ldZ).seq ≤ (ls.getD (lastP ls k) ldZ).seq := by
  intro k
  induction k with
  | zero => intro i h; omega
  | succ k ih =>
    intro i hi
    unfold lastP
    split
    · rename_i hl
      by_cases e : i = k
      · subst e; omega
      · have := ih i (by omega); omega
    · rename_i hl
      by_cases e : i = k
      · subst e; omega
      · exact ih i (by omega)
theorem flat_set {α : Type} {f : α → List Value} (m : Nat) (hf : ∀ x, (f x).length = m) : ∀ (ls : List α) (j i : Nat) (u : Value) (y : α), (∀ x, ls[j]? = some x → (f x).set i u = f y) → i < m → (ls.flatMap f).set (j * m + i) u = (ls.set j y).flatMap f
  | [], j, i, u, y, _, _ => by simp
  | x :: l, 0, i, u, y, h, hi => by
    rw [List.flatMap_cons, List.set_append_left _ _ (by rw [hf]; omega)]
    simp [h x rfl]
  | x :: l, j + 1, i, u, y, h, hi => by
    rw [List.flatMap_cons, List.set_append_right _ _ (by rw [hf, Nat.succ_mul]; omega), hf]
    have e : (j + 1) * m + i - m = j * m + i := by rw [Nat.succ_mul]; omega
    rw [e, flat_set m hf l j i u y (fun z hz => h z (by simpa using hz)) hi]
    rfl
theorem info_ref : (Try.prog.info? 51).map (fun i => (i.zero, i.size, i.bytes)) = some (some (.agg #[.int .u64 0, .int .u64 0, .int .i64 0, .int .i64 0]), 4, 32) := by kernel_rfl
theorem encR_one (ls : List Ld) : ∀ u ∈ ls.flatMap encR, u.oneCell' = true := by
  intro u hu
  obtain ⟨l, _, hl⟩ := List.mem_flatMap.1 hu
  simp [encR] at hl
  rcases hl with rfl | rfl | rfl | rfl <;> rfl
theorem own_rs {w : World} {base n : Nat} {e : TypeId} {v : Value} {ls : List Ld} (hn : n = ls.length) (h : w.ownsRow base e 4 v n (ls.flatMap encR)) : RS w v ls := by
  obtain ⟨A, c, rfl, h1, h2⟩ := own_form h
  subst hn
  exact ⟨A, c, rfl, h1, h2, own_at h⟩
theorem RS.at {w : World} {A : Option Addr} {n c : Nat} {ls : List Ld} (h : RS w (.slice A n c) ls) : At w A (ls.flatMap encR) := by
  obtain ⟨A', c', he, _, _, h4⟩ := h
  injection he with e1 e2 e3
  rw [e1]; exact h4
theorem flat_len4 (ls : List Ld) : (ls.flatMap encR).length = ls.length * 4 := by
  induction ls with
  | nil => simp
  | cons x l ih => rw [List.flatMap_cons, List.length_append, ih, List.length_cons]; show 4 + _ = _; omega
end Go.Proofs.YtoeonmdcoiemmaaK
