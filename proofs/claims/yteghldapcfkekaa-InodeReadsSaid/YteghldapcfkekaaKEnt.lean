import Derived.Test.YteghldapcfkekaaKFitR
namespace Go.Proofs.YteghldapcfkekaaK
open Go.RowKit
set_option linter.unusedSimpArgs false
set_option linter.unusedVariables false
/-! A directory's entries, as the program has them: a text and a number, two cells each. -/
def encE (e : List UInt8 × Int) : List Value := [.string (str e.1), .int .i64 e.2]
theorem flat_at {α : Type} {f : α → List Value} (m : Nat) (hf : ∀ x, (f x).length = m) : ∀ (ls : List α) (j i : Nat) (hj : j < ls.length), i < m → (ls.flatMap f)[j * m + i]? = (f ls[j])[i]?
  | x :: l, 0, i, hj, hi => by
    rw [List.flatMap_cons, List.getElem?_append_left (by rw [hf]; omega)]
    simp
  | x :: l, j + 1, i, hj, hi => by
    rw [List.flatMap_cons, List.getElem?_append_right (by rw [hf, Nat.succ_mul]; omega), hf]
    have e : (j + 1) * m + i - m = j * m + i := by rw [Nat.succ_mul]; omega
    rw [e, flat_at m hf l j i (by simpa using hj) hi]
    rfl
def Es (w : World) (v : Value) (es : List (List UInt8 × Int)) : Prop := ∃ A c, v = .slice A es.length c ∧ es.length ≤ c ∧ es.length ≤ 9223372036854775807 ∧ At w A (es.flatMap encE)
theorem Es.below {w w1 : World} {v : Value} {es : List (List UInt8 × Int)} (h : Es w v es) (hb : Below w.heap.size w w1) : Es w1 v es := by
  obtain ⟨A, c, h1, h2, h3, h4⟩ := h
  exact ⟨A, c, h1, h2, h3, h4.below hb⟩
theorem Es.len {w : World} {A : Option Addr} {n c : Nat} {es : List (List UInt8 × Int)} (h : Es w (.slice A n c) es) : n = es.length ∧ n ≤ 9223372036854775807 := by
  obtain ⟨A', c', he, _, h3, _⟩ := h
  injection he with e1 e2 e3
  exact ⟨e2, by omega⟩
theorem Es.get {w : World} {A : Option Addr} {n c : Nat} {es : List (List UInt8 × Int)} (h : Es w (.slice A n c) es) (j : Nat) (hj : j < es.length) :
    ∃ a, A = some a ∧ w.cell? (a.add (j * 2)) = some (.string (str es[j].1)) ∧ w.cell? (a.add (j * 2 + 1)) = some (.int .i64 es[j].2) := by
  obtain ⟨A', c', he, _, _, h4⟩ := h
  injection he with e1 e2 e3
  subst e1
  have g0 := flat_at (f := encE) 2 (fun _ => rfl) es j 0 hj (by decide)
  have g1 := flat_at (f := encE) 2 (fun _ => rfl) es j 1 hj (by decide)
  obtain ⟨a, ha, hc0⟩ := h4 (j * 2 + 0) (.string (str es[j].1)) g0
  obtain ⟨a', ha', hc1⟩ := h4 (j * 2 + 1) (.int .i64 es[j].2) g1
  have : a = a' := by rw [ha] at ha'; injection ha'
  subst this
  exact ⟨a, ha, hc0, hc1⟩
end Go.Proofs.YteghldapcfkekaaK
