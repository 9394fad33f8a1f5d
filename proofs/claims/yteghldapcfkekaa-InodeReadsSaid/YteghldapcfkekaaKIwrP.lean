import Derived.Test.YteghldapcfkekaaKIch
import Derived.Test.YteghldapcfkekaaKStB
namespace Go.Proofs.YteghldapcfkekaaK
open Go.RowKit
set_option linter.unusedSimpArgs false
set_option linter.unusedVariables false
/-! An inode's bytes: plain. -/
def encW (e : List UInt8 × Int) : List UInt8 := numsB 1 [e.2, (e.1.length : Int)] ++ e.1
def wrI (K Z : Int) (es : List (List UInt8 × Int)) : List UInt8 :=
  if rightI K Z es = true then (if K = 1 then numB 1 1 ++ numB 2 Z.toNat else numsB 1 [2, (es.length : Int)] ++ es.flatMap encW) else []
theorem wrI_no {K Z : Int} {es : List (List UInt8 × Int)} (h : rightI K Z es = false) : wrI K Z es = [] := by unfold wrI; rw [h]; rfl
theorem wrI_file {Z : Int} {es : List (List UInt8 × Int)} (h : rightI 1 Z es = true) : wrI 1 Z es = numB 1 1 ++ numB 2 Z.toNat := by unfold wrI; rw [if_pos h, if_pos rfl]
theorem wrI_dir {K Z : Int} {es : List (List UInt8 × Int)} (h : rightI K Z es = true) (hk : ¬ K = 1) : wrI K Z es = numsB 1 [2, (es.length : Int)] ++ es.flatMap encW := by unfold wrI; rw [if_pos h, if_neg hk]
theorem right_file {Z : Int} {es : List (List UInt8 × Int)} (h : rightI 1 Z es = true) : 0 ≤ Z ∧ Z ≤ 768 := by
  unfold rightI at h
  rw [if_pos rfl] at h
  simp only [Bool.and_eq_true, decide_eq_true_eq] at h
  exact h.1
theorem ordB_at {es : List (List UInt8 × Int)} : ∀ k, ordB es k = true → ∀ j, j < k → okAt es j = true := by
  intro k
  induction k with
  | zero => intro _ j hj; omega
  | succ k ih =>
    intro h j hj
    rw [ordB_step, Bool.and_eq_true] at h
    by_cases e : j = k
    · subst e; exact h.2
    · exact ih h.1 j (by omega)
theorem okAt_fits {es : List (List UInt8 × Int)} {j : Nat} (h : okAt es j = true) : fitsB (nmA es j) (inA es j) = true := by
  cases hf : fitsB (nmA es j) (inA es j) with
  | true => rfl
  | false => rw [ck_nofit hf] at h; cases h
theorem fits_le {s : List UInt8} {i : Int} (h : fitsB s i = true) : s.length ≤ 12 ∧ 1 ≤ i ∧ i ≤ 24 := by
  unfold fitsB at h
  simp only [Bool.and_eq_true, decide_eq_true_eq] at h
  obtain ⟨⟨h1, h2⟩, h3⟩ := h
  have := (rightB_iff s).1 h1
  exact ⟨by omega, h2, h3⟩
theorem right_dir {K Z : Int} {es : List (List UInt8 × Int)} (h : rightI K Z es = true) (hk : ¬ K = 1) : K = 2 ∧ Z = 0 ∧ es.length ≤ 8 ∧ ∀ j, j < es.length → (nmA es j).length ≤ 12 ∧ 1 ≤ inA es j ∧ inA es j ≤ 24 := by
  by_cases h2 : K = 2
  · subst h2
    rw [right2] at h
    simp only [Bool.and_eq_true, decide_eq_true_eq] at h
    exact ⟨rfl, h.1.1, h.1.2, fun j hj => fits_le (okAt_fits (ordB_at _ h.2 j hj))⟩
  · rw [right_other hk h2] at h; cases h
theorem encW_len (e : List UInt8 × Int) : (encW e).length = 2 + e.1.length := by
  unfold encW; rw [List.length_append, numsB_length]; rfl
theorem flatW_le {es : List (List UInt8 × Int)} (h : ∀ j, j < es.length → (nmA es j).length ≤ 12) : ∀ k, k ≤ es.length → ((es.take k).flatMap encW).length ≤ 14 * k := by
  intro k
  induction k with
  | zero => intro _; simp
  | succ k ih =>
    intro hk
    have h1 := ih (by omega)
    have h2 := h k (by omega)
    rw [nmA_get (by omega : k < es.length)] at h2
    rw [List.take_succ_eq_append_getElem (by omega), List.flatMap_append, List.length_append]
    simp only [List.flatMap_cons, List.flatMap_nil, List.append_nil]
    rw [encW_len]
    omega
theorem flatW_step {es : List (List UInt8 × Int)} {k : Nat} (hk : k < es.length) : (es.take (k + 1)).flatMap encW = (es.take k).flatMap encW ++ (numsB 1 [inA es k, ((nmA es k).length : Int)] ++ nmA es k) := by
  rw [List.take_succ_eq_append_getElem hk, List.flatMap_append]
  simp only [List.flatMap_cons, List.flatMap_nil, List.append_nil]
  rw [nmA_get hk, inA_get hk]
  rfl
theorem check_ok {K Z : Int} {es : List (List UInt8 × Int)} (h : rightI K Z es = true) (A : Option Addr) (n c : Nat) (w : World) (hE : Es w (.slice A n c) es) :
    Calls Try.prog 14 #[.agg #[.int .i64 K, .int .i64 Z, .slice A n c]] w fun e w' => e = .returned (.int .i64 0) ∧ Below w.heap.size w w' := by
  have := check_any K Z A n c es w hE
  rw [h] at this
  exact this
theorem check_no {K Z : Int} {es : List (List UInt8 × Int)} (h : rightI K Z es = false) (A : Option Addr) (n c : Nat) (w : World) (hE : Es w (.slice A n c) es) :
    Calls Try.prog 14 #[.agg #[.int .i64 K, .int .i64 Z, .slice A n c]] w fun e w' => e = .returned (.int .i64 1) ∧ Below w.heap.size w w' := by
  have := check_any K Z A n c es w hE
  rw [h] at this
  exact this
end Go.Proofs.YteghldapcfkekaaK
