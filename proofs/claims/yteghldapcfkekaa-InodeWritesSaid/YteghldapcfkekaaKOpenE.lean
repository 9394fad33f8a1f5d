import Derived.Test.YteghldapcfkekaaKIwm
import Derived.Test.YteghldapcfkekaaKOpen
import Derived.Lib.SmallJoins
namespace Go.Proofs.YteghldapcfkekaaK
open Go.RowKit Go.ChangeShapes Go.WideShapes Go.ChangeAt Go.ChangeMaps
set_option linter.unusedSimpArgs false
set_option linter.unusedVariables false
section
variable {H : Type} {enc : TypeId × Value → H} {P : Program} {w : World} {base : Nat} {spare : Nat → Bool} {held : Bool}
theorem str_of (b : ByteArray) : b = str b.data.toList := by unfold str; simp
theorem es_of_trod {fuel : Nat} {v : Value} {x : DataW H × List MemPlace} (h : DataW.trod enc Try.prog w base spare held fuel 26 [v] = some x) : ∃ es, Es w v es := by
  have hc : Try.prog.cellsOf 46 = 2 := by kernel_rfl
  rcases Go.Deep.open_slice Try.underlying26 h with ⟨hcs, hx⟩ | ⟨a, len, cap, m, n, D, Pl, hcs, hb, hl, hm, hmm, hx, hel⟩
  · simp at hcs; subst hcs
    exact ⟨[], none, 0, rfl, by simp, by simp, At.nil _ _⟩
  · simp at hcs; subst hcs
    have hlm : len ≤ m := by rw [hmm]; split <;> omega
    obtain ⟨es, hpl, hp⟩ := list_of (R := fun i (e : List UInt8 × Int) => ∀ q, q < 2 → w.cell? (a.add (i * 2 + q)) = (encE e)[q]?) len (fun i hi => by
      obtain ⟨cs, hcs, htr⟩ := hel i (by omega)
      rw [hc] at hcs
      obtain ⟨y0, y1, n', _, hlen, g0, g1⟩ := trod_struct2 Try.underlying46 htr
      rw [show Try.prog.cellsOf 9 = 1 from by kernel_rfl] at g0
      rw [show Try.prog.cellsOf 3 = 1 from by kernel_rfl] at g1
      obtain ⟨z0, e0, _⟩ := DataW.trod_string Try.underlying9 g0
      obtain ⟨z1, e1, _, w1⟩ := DataW.trod_int Try.underlying3 g1
      rw [hc] at hlen
      obtain ⟨_, hcl, hce⟩ := World.cells?_some hcs
      match cs, hlen with
      | [c0, c1], _ =>
        simp at e0 e1
        subst e0 e1
        refine ⟨(z0.data.toList, z1), fun q hq => ?_⟩
        have k := hce q hq
        rw [Go.Deep.add_add] at k
        rw [k]
        unfold encE
        rw [← str_of z0])
    refine ⟨es, some a, cap, by rw [hpl], by omega, by simp only [maxLen] at hm; omega, fun idx u hu => ⟨a, rfl, ?_⟩⟩
    have hi : idx < (es.flatMap encE).length := by
      rcases Nat.lt_or_ge idx (es.flatMap encE).length with h | h
      · exact h
      · rw [List.getElem?_eq_none h] at hu; cases hu
    rw [flatE_len] at hi
    have hj : idx / 2 < es.length := by omega
    have hq : idx % 2 < 2 := by omega
    have he : idx / 2 * 2 + idx % 2 = idx := by omega
    have h1 := hp (idx / 2) hj (idx % 2) hq
    have h2 := flat_at (f := encE) 2 (fun _ => rfl) es (idx / 2) (idx % 2) hj hq
    rw [he] at h1 h2
    rw [h1, ← h2, hu]
theorem Es.slice {v : Value} {es : List (List UInt8 × Int)} (h : Es w v es) : ∃ A n c, v = .slice A n c ∧ n = es.length := by
  obtain ⟨A, c, rfl, _⟩ := h
  exact ⟨A, _, c, rfl, rfl⟩
set_option maxRecDepth 100000 in
theorem open_inode {v : Value} {d : DataW H} {ps : List MemPlace} {b2 : Nat} (hv : Value.okWide Try.prog w .any b2 28 v) (h : DataW.Trod enc Try.prog w base spare held 28 v d ps) :
    ∃ (K Z : Int) (A : Option Addr) (n c : Nat) (es : List (List UInt8 × Int)), v = .agg #[.int .i64 K, .int .i64 Z, .slice A n c] ∧ Es w (.slice A n c) es := by
  obtain ⟨v0, v1, v2, y0, y1, y2, n, rfl, _, _, h0, h1, h2⟩ := Go.Joins.open_agg3 Try.underlying28 (by kernel_rfl) (by kernel_rfl) hv h
  obtain ⟨z0, e0, _, w0⟩ := DataW.trod_int Try.underlying3 h0
  obtain ⟨z1, e1, _, w1⟩ := DataW.trod_int Try.underlying3 h1
  simp at e0 e1
  subst e0 e1
  obtain ⟨es, hb⟩ := es_of_trod h2
  obtain ⟨A, n, c, rfl, _⟩ := hb.slice
  exact ⟨z0, z1, A, n, c, es, rfl, hb⟩
end
end Go.Proofs.YteghldapcfkekaaK
