import Derived.Test.YtoeonmdcoiemmaaKOpen2
import Derived.Test.YtoeonmdcoiemmaaKWearV
import Derived.Lib.SmallJoins
namespace Go.Proofs.YtoeonmdcoiemmaaK
open Go.RowKit Go.ChangeShapes Go.WideShapes Go.ChangeAt Go.ChangeMaps
set_option linter.unusedSimpArgs false
set_option linter.unusedVariables false
section
variable {H : Type} {enc : TypeId × Value → H} {P : Program} {w : World} {base : Nat} {spare : Nat → Bool} {held : Bool}
theorem flat_len {α : Type} {f : α → List Value} (m : Nat) (hf : ∀ x, (f x).length = m) (ls : List α) : (ls.flatMap f).length = ls.length * m := by
  induction ls with
  | nil => simp
  | cons x l ih => rw [List.flatMap_cons, List.length_append, hf, ih, List.length_cons, Nat.succ_mul]; omega
def wfL (l : Ld) : Prop := (Lit.int .u64 l.seq).wf = true ∧ (Lit.int .u64 l.wear).wf = true ∧ (Lit.int .i64 l.blk).wf = true ∧ (Lit.int .i64 l.cnt).wf = true
theorem rs_of_trod {fuel : Nat} {v : Value} {x : DataW H × List MemPlace} (h : DataW.trod enc Try.prog w base spare held fuel 42 [v] = some x) : ∃ ls, RS w v ls ∧ ∀ l ∈ ls, wfL l := by
  have hc : Try.prog.cellsOf 51 = 4 := by kernel_rfl
  rcases Go.Deep.open_slice Try.underlying42 h with ⟨hcs, hx⟩ | ⟨a, len, cap, m, n, D, Pl, hcs, hb, hl, hm, hmm, hx, hel⟩
  · simp at hcs; subst hcs
    exact ⟨[], ⟨none, 0, rfl, by simp, by simp, At.nil w _⟩, by simp⟩
  · simp at hcs; subst hcs
    have hlm : len ≤ m := by rw [hmm]; split <;> omega
    obtain ⟨ls, hpl, hp⟩ := list_of (R := fun i (l : Ld) => wfL l ∧ ∀ q, q < 4 → w.cell? (a.add (i * 4 + q)) = (encR l)[q]?) len (fun i hi => by
      obtain ⟨cs, hcs, htr⟩ := hel i (by omega)
      rw [hc] at hcs
      obtain ⟨y0, y1, y2, y3, n', _, hlen, g0, g1, g2, g3⟩ := Go.Joins.trod_struct4 Try.underlying51 htr
      rw [show Try.prog.cellsOf 49 = 1 from by kernel_rfl] at g0 g1
      rw [show Try.prog.cellsOf 3 = 1 from by kernel_rfl] at g2 g3
      obtain ⟨z0, e0, _, w0⟩ := DataW.trod_int Try.underlying49 g0
      obtain ⟨z1, e1, _, w1⟩ := DataW.trod_int Try.underlying49 g1
      obtain ⟨z2, e2, _, w2⟩ := DataW.trod_int Try.underlying3 g2
      obtain ⟨z3, e3, _, w3⟩ := DataW.trod_int Try.underlying3 g3
      rw [hc] at hlen
      obtain ⟨_, hcl, hce⟩ := World.cells?_some hcs
      match cs, hlen with
      | [c0, c1, c2, c3], _ =>
        simp at e0 e1 e2 e3
        subst e0 e1 e2 e3
        refine ⟨⟨z0, z1, z2, z3⟩, ⟨w0, w1, w2, w3⟩, fun q hq => ?_⟩
        have k := hce q hq
        rw [Go.Deep.add_add] at k
        rw [k]
        rfl)
    refine ⟨ls, ⟨some a, cap, by rw [hpl], by omega, by simp only [maxLen] at hm; omega, fun idx u hu => ⟨a, rfl, ?_⟩⟩, fun l hl => ?_⟩
    · have hi : idx < (ls.flatMap encR).length := by
        rcases Nat.lt_or_ge idx (ls.flatMap encR).length with h | h
        · exact h
        · rw [List.getElem?_eq_none h] at hu; cases hu
      rw [flat_len 4 (fun _ => rfl)] at hi
      have hj : idx / 4 < ls.length := by omega
      have hq : idx % 4 < 4 := by omega
      have he : idx / 4 * 4 + idx % 4 = idx := by omega
      have h1 := (hp (idx / 4) hj).2 (idx % 4) hq
      have h2 := flat_get (f := encR) 4 (fun _ => rfl) ls (idx / 4) (idx % 4) hj hq
      rw [he] at h1 h2
      rw [h1, ← h2, hu]
    · obtain ⟨i, hi, rfl⟩ := List.getElem_of_mem hl
      exact (hp i hi).1
theorem RS.slice {v : Value} {ls : List Ld} (h : RS w v ls) : ∃ A n c, v = .slice A n c ∧ n = ls.length := by
  obtain ⟨A, c, rfl, _⟩ := h
  exact ⟨A, _, c, rfl, rfl⟩
theorem open_structs_ld10 {v : Value} {d : DataW H} {ps : List MemPlace} {b2 : Nat} (hv : Value.okWide Try.prog w .any b2 42 v) (h : DataW.Trod enc Try.prog w base spare held 42 v d ps) :
    ∃ A n c ls, v = .slice A n c ∧ n = ls.length ∧ (RS w (.slice A n c) ls ∧ ∀ l ∈ ls, wfL l) := by
  obtain ⟨fuel, hf⟩ := h
  rw [slice_cells Try.underlying42 hv] at hf
  obtain ⟨ls, hb, hw⟩ := rs_of_trod hf
  obtain ⟨A, n, c, rfl, hn⟩ := hb.slice
  exact ⟨A, n, c, ls, rfl, hn, hb, hw⟩
end
end Go.Proofs.YtoeonmdcoiemmaaK
