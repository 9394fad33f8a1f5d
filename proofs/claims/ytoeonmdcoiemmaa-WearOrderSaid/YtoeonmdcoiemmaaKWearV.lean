import Derived.Test.YtoeonmdcoiemmaaKWear
namespace Go.Proofs.YtoeonmdcoiemmaaK
open Go.RowKit
set_option linter.unusedSimpArgs false
set_option linter.unusedVariables false
def ldZ : Ld := ⟨0, 0, 0, 0⟩
/-- The first one with the greatest number, of the first k. -/
def lastP (ls : List Ld) : Nat → Nat
  | 0 => 0
  | k + 1 => if (ls.getD (lastP ls k) ldZ).seq < (ls.getD k ldZ).seq then k else lastP ls k
/-- The first that none is ahead of, of the first k, but one. -/
def bestP (ls : List Ld) (but : Int) : Nat → Option Nat
  | 0 => none
  | k + 1 => if (k : Int) = but then bestP ls but k else
    match bestP ls but k with
    | none => some k
    | some b => if lessB (ls.getD k ldZ) (ls.getD b ldZ) then some k else some b
theorem lastP_lt (ls : List Ld) (k n : Nat) (hk : k ≤ n) (hn : 0 < n) : lastP ls k < n := by
  induction k with
  | zero => exact hn
  | succ k ih =>
    unfold lastP
    split
    · omega
    · exact ih (by omega)
theorem bestP_lt (ls : List Ld) (but : Int) (k : Nat) : ∀ b, bestP ls but k = some b → b < k := by
  induction k with
  | zero => intro b h; cases h
  | succ k ih =>
    intro b h
    unfold bestP at h
    split at h
    · have := ih b h; omega
    · split at h
      · injection h with h; omega
      · rename_i b' hb
        have := ih b' hb
        split at h <;> (injection h with h; omega)
theorem flat_get {α : Type} {f : α → List Value} (m : Nat) (hf : ∀ x, (f x).length = m) : ∀ (ls : List α) (j i : Nat) (hj : j < ls.length), i < m → (ls.flatMap f)[j * m + i]? = (f ls[j])[i]?
  | x :: l, 0, i, hj, hi => by
    rw [List.flatMap_cons, List.getElem?_append_left (by rw [hf]; omega)]
    simp
  | x :: l, j + 1, i, hj, hi => by
    rw [List.flatMap_cons, List.getElem?_append_right (by rw [hf, Nat.succ_mul]; omega), hf]
    have e : (j + 1) * m + i - m = j * m + i := by rw [Nat.succ_mul]; omega
    rw [e, flat_get m hf l j i (by simpa using hj) hi]
    rfl
/-- A slice of segments, as the program has them. -/
def WS (w : World) (v : Value) (ls : List Ld) : Prop := ∃ A c, v = .slice A ls.length c ∧ ls.length ≤ c ∧ ls.length ≤ 9223372036854775807 ∧ At w A (ls.flatMap encW)
def RS (w : World) (v : Value) (ls : List Ld) : Prop := ∃ A c, v = .slice A ls.length c ∧ ls.length ≤ c ∧ ls.length ≤ 9223372036854775807 ∧ At w A (ls.flatMap encR)
theorem WS.below {w w1 : World} {v : Value} {ls : List Ld} (h : WS w v ls) (hb : Below w.heap.size w w1) : WS w1 v ls := by
  obtain ⟨A, c, h1, h2, h3, h4⟩ := h
  exact ⟨A, c, h1, h2, h3, h4.below hb⟩
theorem RS.below {w w1 : World} {v : Value} {ls : List Ld} (h : RS w v ls) (hb : Below w.heap.size w w1) : RS w1 v ls := by
  obtain ⟨A, c, h1, h2, h3, h4⟩ := h
  exact ⟨A, c, h1, h2, h3, h4.below hb⟩
theorem WS.len {w : World} {A : Option Addr} {n c : Nat} {ls : List Ld} (h : WS w (.slice A n c) ls) : n = ls.length ∧ n ≤ 9223372036854775807 := by
  obtain ⟨A', c', he, _, h3, _⟩ := h
  injection he with e1 e2 e3
  exact ⟨e2, by omega⟩
theorem RS.len {w : World} {A : Option Addr} {n c : Nat} {ls : List Ld} (h : RS w (.slice A n c) ls) : n = ls.length ∧ n ≤ 9223372036854775807 := by
  obtain ⟨A', c', he, _, h3, _⟩ := h
  injection he with e1 e2 e3
  exact ⟨e2, by omega⟩
theorem add_succ (a : Addr) (k i : Nat) (hi : 0 < i) : a.add (k + i) = ⟨(a.add k).block, (a.add k).off + i, none⟩ := by
  unfold Addr.add
  rw [if_neg (by omega)]
  split
  · rename_i h; subst h; simp
  · simp [Nat.add_assoc]
theorem WS.get {w : World} {A : Option Addr} {n c : Nat} {ls : List Ld} (h : WS w (.slice A n c) ls) (j : Nat) (hj : j < n) : ∃ a, A = some a ∧
    w.cell? (a.add (j * 5)) = some (.int .i64 (ls.getD j ldZ).blk) ∧ w.cell? ⟨(a.add (j * 5)).block, (a.add (j * 5)).off + 1, none⟩ = some (.int .u64 (ls.getD j ldZ).seq) ∧
    w.cell? ⟨(a.add (j * 5)).block, (a.add (j * 5)).off + 2, none⟩ = some (.int .u64 (ls.getD j ldZ).wear) ∧ w.cell? ⟨(a.add (j * 5)).block, (a.add (j * 5)).off + 3, none⟩ = some (.slice none 0 0) ∧
    w.cell? ⟨(a.add (j * 5)).block, (a.add (j * 5)).off + 4, none⟩ = some (.int .i64 (ls.getD j ldZ).cnt) := by
  have hn := h.len.1
  obtain ⟨A', c', he, _, _, h4⟩ := h
  injection he with e1 e2 e3
  subst e1
  have hj' : j < ls.length := by omega
  have hg : ls.getD j ldZ = ls[j] := by rw [List.getD_eq_getElem?_getD, List.getElem?_eq_getElem hj']; rfl
  rw [hg]
  have hf : ∀ i, i < 5 → (ls.flatMap encW)[j * 5 + i]? = (encW ls[j])[i]? := fun i hi => flat_get 5 (fun _ => rfl) ls j i hj' hi
  obtain ⟨a, ha, k0⟩ := h4 (j * 5 + 0) _ (hf 0 (by omega))
  obtain ⟨a1, ha1, k1⟩ := h4 (j * 5 + 1) _ (hf 1 (by omega))
  obtain ⟨a2, ha2, k2⟩ := h4 (j * 5 + 2) _ (hf 2 (by omega))
  obtain ⟨a3, ha3, k3⟩ := h4 (j * 5 + 3) _ (hf 3 (by omega))
  obtain ⟨a4, ha4, k4⟩ := h4 (j * 5 + 4) _ (hf 4 (by omega))
  subst ha
  injection ha1 with ha1; injection ha2 with ha2; injection ha3 with ha3; injection ha4 with ha4
  subst ha1 ha2 ha3 ha4
  rw [add_succ _ _ _ (by decide)] at k1 k2 k3 k4
  exact ⟨a, rfl, k0, k1, k2, k3, k4⟩
theorem RS.get {w : World} {A : Option Addr} {n c : Nat} {ls : List Ld} (h : RS w (.slice A n c) ls) (j : Nat) (hj : j < n) : ∃ a, A = some a ∧
    w.cell? (a.add (j * 4)) = some (.int .u64 (ls.getD j ldZ).seq) ∧ w.cell? ⟨(a.add (j * 4)).block, (a.add (j * 4)).off + 1, none⟩ = some (.int .u64 (ls.getD j ldZ).wear) ∧
    w.cell? ⟨(a.add (j * 4)).block, (a.add (j * 4)).off + 2, none⟩ = some (.int .i64 (ls.getD j ldZ).blk) ∧ w.cell? ⟨(a.add (j * 4)).block, (a.add (j * 4)).off + 3, none⟩ = some (.int .i64 (ls.getD j ldZ).cnt) := by
  have hn := h.len.1
  obtain ⟨A', c', he, _, _, h4⟩ := h
  injection he with e1 e2 e3
  subst e1
  have hj' : j < ls.length := by omega
  have hg : ls.getD j ldZ = ls[j] := by rw [List.getD_eq_getElem?_getD, List.getElem?_eq_getElem hj']; rfl
  rw [hg]
  have hf : ∀ i, i < 4 → (ls.flatMap encR)[j * 4 + i]? = (encR ls[j])[i]? := fun i hi => flat_get 4 (fun _ => rfl) ls j i hj' hi
  obtain ⟨a, ha, k0⟩ := h4 (j * 4 + 0) _ (hf 0 (by omega))
  obtain ⟨a1, ha1, k1⟩ := h4 (j * 4 + 1) _ (hf 1 (by omega))
  obtain ⟨a2, ha2, k2⟩ := h4 (j * 4 + 2) _ (hf 2 (by omega))
  obtain ⟨a3, ha3, k3⟩ := h4 (j * 4 + 3) _ (hf 3 (by omega))
  subst ha
  injection ha1 with ha1; injection ha2 with ha2; injection ha3 with ha3
  subst ha1 ha2 ha3
  rw [add_succ _ _ _ (by decide)] at k1 k2 k3
  exact ⟨a, rfl, k0, k1, k2, k3⟩
end Go.Proofs.YtoeonmdcoiemmaaK
