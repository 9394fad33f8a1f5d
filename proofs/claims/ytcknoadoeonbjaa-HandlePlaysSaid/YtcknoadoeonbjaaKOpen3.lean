import Derived.Test.YtcknoadoeonbjaaKOpen2
import Derived.Test.YtcknoadoeonbjaaKHanL
namespace Go.Proofs.YtcknoadoeonbjaaK
open Go.RowKit Go.ChangeShapes Go.WideShapes Go.ChangeAt Go.ChangeMaps
set_option linter.unusedSimpArgs false
set_option linter.unusedVariables false
section
variable {H : Type} {enc : TypeId × Value → H} {P : Program} {w : World} {base : Nat} {spare : Nat → Bool} {held : Bool}
theorem prs_of_trod {t e : TypeId} {f0 f1 : Field} {fuel : Nat} {v : Value} {x : DataW H × List MemPlace} (ht : P.underlying t = some (.slice e)) (hc : P.cellsOf e = 2) (hs : P.underlying e = some (.struct #[f0, f1]))
    (h0 : P.underlying f0.type = some (.int .i64)) (h1 : P.underlying f1.type = some (.int .i64)) (o0 : f0.offset = 0) (o1 : f1.offset = 1) (c0 : P.cellsOf f0.type = 1) (c1 : P.cellsOf f1.type = 1)
    (h : DataW.trod enc P w base spare held fuel t [v] = some x) : ∃ ps, Prs w v ps := by
  rcases Go.Deep.open_slice ht h with ⟨hcs, hx⟩ | ⟨a, len, cap, m, n, D, Pl, hcs, hb, hl, hm, hmm, hx, hel⟩
  · simp at hcs; subst hcs
    exact ⟨[], none, 0, rfl, by simp, by simp, fun j hj => by simp at hj⟩
  · simp at hcs; subst hcs
    have hlm : len ≤ m := by rw [hmm]; split <;> omega
    obtain ⟨ps, hpl, hp⟩ := list_of (R := fun i (p : Int × Int) => w.cell? (a.add (i * 2)) = some (.int .i64 p.1) ∧ w.cell? (a.add (i * 2 + 1)) = some (.int .i64 p.2)) len (fun i hi => by
      obtain ⟨cs, hcs, htr⟩ := hel i (by omega)
      rw [hc] at hcs
      obtain ⟨y0, y1, n', _, hlen, g0, g1⟩ := trod_struct2 hs htr
      rw [o0, c0] at g0
      rw [o1, c1] at g1
      obtain ⟨z0, e0, _⟩ := DataW.trod_int h0 g0
      obtain ⟨z1, e1, _⟩ := DataW.trod_int h1 g1
      rw [hc] at hlen
      obtain ⟨_, hcl, hce⟩ := World.cells?_some hcs
      match cs, hlen with
      | [c, d], _ =>
        simp at e0 e1
        subst e0 e1
        have k0 := hce 0 (by omega)
        have k1 := hce 1 (by omega)
        rw [show (a.add (i * 2)).add 0 = a.add (i * 2) from rfl] at k0
        rw [Go.Deep.add_add] at k1
        exact ⟨(z0, z1), by simpa using k0, by simpa using k1⟩)
    exact ⟨ps, some a, cap, by rw [hpl], by omega, by simp only [maxLen] at hm; omega, fun j hj => ⟨a, rfl, hp j hj⟩⟩
theorem Prs.slice {v : Value} {ps : List (Int × Int)} (h : Prs w v ps) : ∃ A n c, v = .slice A n c ∧ n = ps.length := by
  obtain ⟨A, c, rfl, _⟩ := h
  exact ⟨A, _, c, rfl, rfl⟩
theorem open_structs_op22 {v : Value} {d : DataW H} {ps : List MemPlace} {b2 : Nat} (hv : Value.okWide Try.prog w .any b2 52 v) (h : DataW.Trod enc Try.prog w base spare held 52 v d ps) :
    ∃ A n c qs, v = .slice A n c ∧ n = qs.length ∧ Prs w (.slice A n c) qs := by
  obtain ⟨fuel, hf⟩ := h
  rw [slice_cells Try.underlying52 hv] at hf
  obtain ⟨qs, hb⟩ := prs_of_trod Try.underlying52 (by kernel_rfl) Try.underlying57 (by kernel_rfl) (by kernel_rfl) rfl rfl (by kernel_rfl) (by kernel_rfl) hf
  obtain ⟨A, n, c, rfl, hn⟩ := hb.slice
  exact ⟨A, n, c, qs, rfl, hn, hb⟩
end
end Go.Proofs.YtcknoadoeonbjaaK
