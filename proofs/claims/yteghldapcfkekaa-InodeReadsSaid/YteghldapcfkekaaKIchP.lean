import Derived.Test.YteghldapcfkekaaKEnt
import Derived.Test.YteghldapcfkekaaKCmp
namespace Go.Proofs.YteghldapcfkekaaK
open Go.RowKit
set_option linter.unusedSimpArgs false
set_option linter.unusedVariables false
/-! When an inode is right: plain. -/
/-- OK or ErrArg. -/
def errI (b : Bool) : Int := if b = true then 0 else 1
def nmA (es : List (List UInt8 × Int)) (i : Nat) : List UInt8 := (es.getD i ([], 0)).1
def inA (es : List (List UInt8 × Int)) (i : Nat) : Int := (es.getD i ([], 0)).2
def okAt (es : List (List UInt8 × Int)) : Nat → Bool
  | 0 => fitsB (nmA es 0) (inA es 0)
  | i + 1 => fitsB (nmA es (i + 1)) (inA es (i + 1)) && decide (cmpI (nmA es i) (nmA es (i + 1)) < 0)
def ordB (es : List (List UInt8 × Int)) : Nat → Bool
  | 0 => true
  | i + 1 => ordB es i && okAt es i
def rightI (K Z : Int) (es : List (List UInt8 × Int)) : Bool :=
  if K = 1 then decide (0 ≤ Z) && decide (Z ≤ 768) && decide (es.length = 0)
  else if K = 2 then (decide (Z = 0) && decide (es.length ≤ 8)) && ordB es es.length
  else false
theorem nmA_get {es : List (List UInt8 × Int)} {i : Nat} (h : i < es.length) : nmA es i = es[i].1 := by
  unfold nmA; rw [List.getD_eq_getElem?_getD, List.getElem?_eq_getElem h]; rfl
theorem inA_get {es : List (List UInt8 × Int)} {i : Nat} (h : i < es.length) : inA es i = es[i].2 := by
  unfold inA; rw [List.getD_eq_getElem?_getD, List.getElem?_eq_getElem h]; rfl
theorem add_nextE (a : Addr) (k : Nat) : a.add (k + 1) = ⟨(a.add k).block, (a.add k).off + 1, none⟩ := by
  unfold Addr.add
  split <;> split <;> simp_all <;> omega
/-- An entry's two cells. -/
theorem Es.at_ {w : World} {A : Option Addr} {n c : Nat} {es : List (List UInt8 × Int)} (h : Es w (.slice A n c) es) (j : Nat) (hj : j < es.length) :
    ∃ a, A = some a ∧ w.cell? (a.add (j * 2)) = some (.string (str (nmA es j))) ∧ w.cell? ⟨(a.add (j * 2)).block, (a.add (j * 2)).off + 1, none⟩ = some (.int .i64 (inA es j)) := by
  obtain ⟨a, h1, h2, h3⟩ := h.get j hj
  rw [add_nextE] at h3
  exact ⟨a, h1, by rw [nmA_get hj]; exact h2, by rw [inA_get hj]; exact h3⟩
theorem right1_00 {Z : Int} {es : List (List UInt8 × Int)} (h : ¬ 0 ≤ Z) : rightI 1 Z es = false := by
  unfold rightI; rw [if_pos rfl, decide_eq_false h]; rfl
theorem right1_01 {Z : Int} {es : List (List UInt8 × Int)} (h : ¬ Z ≤ 768) : rightI 1 Z es = false := by
  unfold rightI; rw [if_pos rfl, decide_eq_false h, Bool.and_false]; rfl
theorem right1_1 {Z : Int} {es : List (List UInt8 × Int)} (h : 0 ≤ Z) (h' : Z ≤ 768) : rightI 1 Z es = decide (es.length = 0) := by
  unfold rightI; rw [if_pos rfl, decide_eq_true h, decide_eq_true h']; rfl
theorem right2 {Z : Int} {es : List (List UInt8 × Int)} : rightI 2 Z es = ((decide (Z = 0) && decide (es.length ≤ 8)) && ordB es es.length) := by
  unfold rightI; rw [if_neg (by decide), if_pos rfl]
theorem right_other {K Z : Int} {es : List (List UInt8 × Int)} (h1 : ¬ K = 1) (h2 : ¬ K = 2) : rightI K Z es = false := by
  unfold rightI; rw [if_neg h1, if_neg h2]
theorem ordB_step (es : List (List UInt8 × Int)) (i : Nat) : ordB es (i + 1) = (ordB es i && okAt es i) := rfl
theorem okAt_step (es : List (List UInt8 × Int)) (i : Nat) : okAt es (i + 1) = (fitsB (nmA es (i + 1)) (inA es (i + 1)) && decide (cmpI (nmA es i) (nmA es (i + 1)) < 0)) := rfl
end Go.Proofs.YteghldapcfkekaaK
