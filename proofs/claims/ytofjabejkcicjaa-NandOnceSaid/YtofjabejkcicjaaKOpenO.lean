import Derived.Test.YtofjabejkcicjaaKOpen2
import Derived.Test.YtofjabejkcicjaaKOps
import Derived.Lib.SmallJoins
namespace Go.Proofs.YtofjabejkcicjaaK
open Go.RowKit Go.ChangeShapes Go.WideShapes Go.ChangeAt Go.ChangeMaps
set_option linter.unusedSimpArgs false
set_option linter.unusedVariables false
section
variable {H : Type} {enc : TypeId × Value → H} {P : Program} {w : World} {base : Nat} {spare : Nat → Bool} {held : Bool}
theorem trod_struct8 {t : TypeId} {f0 f1 f2 f3 f4 f5 f6 f7 : Field} {fuel : Nat} {cs : List Value} {x : DataW H × List MemPlace} (ht : P.underlying t = some (.struct #[f0, f1, f2, f3, f4, f5, f6, f7])) (h : DataW.trod enc P w base spare held fuel t cs = some x) :
    ∃ y0 y1 y2 y3 y4 y5 y6 y7 n, cs.length = P.cellsOf t ∧ DataW.trod enc P w base spare held n f0.type ((cs.drop f0.offset).take (P.cellsOf f0.type)) = some y0 ∧
      DataW.trod enc P w base spare held n f1.type ((cs.drop f1.offset).take (P.cellsOf f1.type)) = some y1 ∧ DataW.trod enc P w base spare held n f2.type ((cs.drop f2.offset).take (P.cellsOf f2.type)) = some y2 ∧
      DataW.trod enc P w base spare held n f3.type ((cs.drop f3.offset).take (P.cellsOf f3.type)) = some y3 ∧ DataW.trod enc P w base spare held n f4.type ((cs.drop f4.offset).take (P.cellsOf f4.type)) = some y4 ∧
      DataW.trod enc P w base spare held n f5.type ((cs.drop f5.offset).take (P.cellsOf f5.type)) = some y5 ∧ DataW.trod enc P w base spare held n f6.type ((cs.drop f6.offset).take (P.cellsOf f6.type)) = some y6 ∧
      DataW.trod enc P w base spare held n f7.type ((cs.drop f7.offset).take (P.cellsOf f7.type)) = some y7 := by
  obtain ⟨xs, n, _, rfl, hl, hlen, hf⟩ := DataW.trod_struct ht h
  match xs, hlen with
  | [y0, y1, y2, y3, y4, y5, y6, y7], _ => exact ⟨y0, y1, y2, y3, y4, y5, y6, y7, n, hl, by simpa using hf 0 f0 rfl, by simpa using hf 1 f1 rfl, by simpa using hf 2 f2 rfl, by simpa using hf 3 f3 rfl, by simpa using hf 4 f4 rfl, by simpa using hf 5 f5 rfl, by simpa using hf 6 f6 rfl, by simpa using hf 7 f7 rfl⟩
theorem ops_of_trod {fuel : Nat} {v : Value} {x : DataW H × List MemPlace} (h : DataW.trod enc Try.prog w base spare held fuel 38 [v] = some x) : ∃ os, Ops w v os := by
  have hc : Try.prog.cellsOf 47 = 8 := by kernel_rfl
  rcases Go.Deep.open_slice Try.underlying38 h with ⟨hcs, hx⟩ | ⟨a, len, cap, m, n, D, Pl, hcs, hb, hl, hm, hmm, hx, hel⟩
  · simp at hcs; subst hcs
    exact ⟨[], none, 0, rfl, by simp, .inl rfl⟩
  · simp at hcs; subst hcs
    have hlm : len ≤ m := by rw [hmm]; split <;> omega
    obtain ⟨os, hpl, hp⟩ := list_of (R := fun i (o : Sop) => (∀ q, q < 8 → w.cell? (a.add (i * 8 + q)) = (encO o)[q]?) ∧ Is .i64 w o.wv o.which ∧ (∀ y ∈ o.which, wfI y) ∧ wfI o.kind ∧ wfI o.chip ∧ wfI o.block ∧ wfI o.page ∧ wfI o.n ∧ wfI o.keep) len (fun i hi => by
      obtain ⟨cs, hcs, htr⟩ := hel i (by omega)
      rw [hc] at hcs
      obtain ⟨y0, y1, y2, y3, y4, y5, y6, y7, n', hlen, g0, g1, g2, g3, g4, g5, g6, g7⟩ := trod_struct8 Try.underlying47 htr
      rw [show Try.prog.cellsOf 3 = 1 from by kernel_rfl] at g0 g1 g2 g3 g4 g5
      rw [show Try.prog.cellsOf 5 = 1 from by kernel_rfl] at g6
      rw [show Try.prog.cellsOf 22 = 1 from by kernel_rfl] at g7
      obtain ⟨z0, e0, _, w0⟩ := DataW.trod_int Try.underlying3 g0
      obtain ⟨z1, e1, _, w1⟩ := DataW.trod_int Try.underlying3 g1
      obtain ⟨z2, e2, _, w2⟩ := DataW.trod_int Try.underlying3 g2
      obtain ⟨z3, e3, _, w3⟩ := DataW.trod_int Try.underlying3 g3
      obtain ⟨z4, e4, _, w4⟩ := DataW.trod_int Try.underlying3 g4
      obtain ⟨z5, e5, _, w5⟩ := DataW.trod_int Try.underlying3 g5
      obtain ⟨z6, e6, _, w6⟩ := DataW.trod_int Try.underlying5 g6
      rw [hc] at hlen
      obtain ⟨_, hcl, hce⟩ := World.cells?_some hcs
      match cs, hlen with
      | [c0, c1, c2, c3, c4, c5, c6, c7], _ =>
        simp at e0 e1 e2 e3 e4 e5 e6
        subst e0 e1 e2 e3 e4 e5 e6
        obtain ⟨xs, hxs, hwf⟩ := nums_of_trod (k := .i64) Try.underlying22 Try.underlying3 (by kernel_rfl) g7
        refine ⟨⟨z0, z1, z2, z3, z4, z5, toB z6, c7, xs⟩, fun q hq => ?_, hxs, hwf, w0, w1, w2, w3, w4, w5⟩
        have k := hce q hq
        rw [Go.Deep.add_add] at k
        rw [k]
        unfold encO
        rw [toB_back w6])
    by_cases e : os = []
    · subst e
      exact ⟨[], some a, cap, by simp at hpl; subst hpl; rfl, by simp, .inl rfl⟩
    · have hl0 : 0 < os.length := List.length_pos_iff.2 e
      have hsp : a.spot = none := by
        have hc := (hp 0 hl0).1 0 (by omega)
        rcases hs : a.spot with _ | s
        · rfl
        · exfalso
          unfold Addr.add at hc
          unfold World.cell? at hc
          simp [hs, encO] at hc
          split at hc <;> simp_all
      obtain ⟨b, off, sp⟩ := a
      dsimp only at hsp
      subst hsp
      refine ⟨os, _, cap, by rw [hpl], by simp only [maxLen] at hm; omega, .inr ⟨b, off, rfl, fun j hj => ⟨fun q hq => ?_, (hp j hj).2⟩⟩⟩
      have := (hp j hj).1 q hq
      rwa [show (⟨b, off, none⟩ : Addr).add (j * 8 + q) = ⟨b, off + (j * 8 + q), none⟩ from by unfold Addr.add; split <;> simp_all] at this
theorem open_structs_ops {v : Value} {d : DataW H} {ps : List MemPlace} {b2 : Nat} (hv : Value.okWide Try.prog w .any b2 38 v) (h : DataW.Trod enc Try.prog w base spare held 38 v d ps) :
    ∃ A n c os, v = .slice A n c ∧ n = os.length ∧ Ops w (.slice A n c) os := by
  obtain ⟨fuel, hf⟩ := h
  rw [slice_cells Try.underlying38 hv] at hf
  obtain ⟨os, hb⟩ := ops_of_trod hf
  obtain ⟨A, c, rfl, h2⟩ := hb
  exact ⟨A, _, c, os, rfl, rfl, A, c, rfl, h2⟩
end
end Go.Proofs.YtofjabejkcicjaaK
