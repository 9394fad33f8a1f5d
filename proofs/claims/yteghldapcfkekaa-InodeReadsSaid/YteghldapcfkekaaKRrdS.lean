import Derived.Test.YteghldapcfkekaaKRrdP
import Derived.Test.YteghldapcfkekaaKIwm
namespace Go.Proofs.YteghldapcfkekaaK
open Go.RowKit
set_option linter.unusedSimpArgs false
set_option linter.unusedVariables false
/-! The state of the reference's read of a directory: the result's box, the directory's box, a row of entries of the call's own. -/
def RT (w0 w : World) (v : Value) (j : Nat) (es : List (List UInt8 × Int)) : Prop :=
  w0.heap.size + 2 ≤ w.heap.size ∧ w.heap[w0.heap.size]? = some (.cells #[.int .i64 0, .int .i64 0, .slice none 0 0] 28 (0, 0)) ∧ w.heap[w0.heap.size + 1]? = some (.cells #[.int .i64 2, .int .i64 0, v] 28 (0, 0)) ∧ w.ownsRow (w0.heap.size + 2) 46 2 v j (es.flatMap encE) ∧ Below w0.heap.size w0 w
theorem RT.init (w0 : World) : RT w0 ((w0.alloc (.cells #[.int .i64 0, .int .i64 0, .slice none 0 0] 28)).alloc (.cells #[.int .i64 2, .int .i64 0, .slice none 0 0] 28)) (.slice none 0 0) 0 [] := by
  have h1 := Bx.here w0 (.cells #[.int .i64 0, .int .i64 0, .slice none 0 0] 28)
  have h2 := h1.alloc (.cells #[.int .i64 2, .int .i64 0, .slice none 0 0] 28)
  refine ⟨by simp, h2.row, ?_, World.ownsRow_nil _ _ _ _, h2.below⟩
  have := heap_alloc_new (w0.alloc (.cells #[.int .i64 0, .int .i64 0, .slice none 0 0] 28)) (.cells #[.int .i64 2, .int .i64 0, .slice none 0 0] 28)
  rw [show (w0.alloc (.cells #[.int .i64 0, .int .i64 0, .slice none 0 0] 28)).heap.size = w0.heap.size + 1 from by simp] at this
  exact this
theorem RT.below {w0 w w1 : World} {v : Value} {j : Nat} {es : List (List UInt8 × Int)} (h : RT w0 w v j es) (hb : Below w.heap.size w w1) : RT w0 w1 v j es := by
  obtain ⟨h1, h2, h3, h4, h5⟩ := h
  exact ⟨Nat.le_trans h1 hb.size, (hb.block _ (by omega)).trans h2, (hb.block _ (by omega)).trans h3, own_below h4 hb, h5.trans (hb.mono (by omega))⟩
theorem RT.own {w0 w : World} {v : Value} {j : Nat} {es : List (List UInt8 × Int)} (h : RT w0 w v j es) : w.ownsRow (w0.heap.size + 2) 46 2 v j (es.flatMap encE) := h.2.2.2.1
theorem RT.bel {w0 w : World} {v : Value} {j : Nat} {es : List (List UInt8 × Int)} (h : RT w0 w v j es) : Below w0.heap.size w0 w := h.2.2.2.2
theorem RT.cells {w0 w : World} {v : Value} {j : Nat} {es : List (List UInt8 × Int)} (h : RT w0 w v j es) :
    (w.cell? ⟨w0.heap.size, 0, none⟩ = some (.int .i64 0) ∧ w.cell? ⟨w0.heap.size, 1, none⟩ = some (.int .i64 0) ∧ w.cell? ⟨w0.heap.size, 2, none⟩ = some (.slice none 0 0) ∧ (∀ i, w.frozen? ⟨w0.heap.size, i, none⟩ = false)) ∧
    (w.cell? ⟨w0.heap.size + 1, 0, none⟩ = some (.int .i64 2) ∧ w.cell? ⟨w0.heap.size + 1, 1, none⟩ = some (.int .i64 0) ∧ w.cell? ⟨w0.heap.size + 1, 2, none⟩ = some v ∧ (∀ i, w.frozen? ⟨w0.heap.size + 1, i, none⟩ = false)) := by
  obtain ⟨h1, h2, h3, h4, h5⟩ := h
  exact ⟨⟨cell_of h2 0, cell_of h2 1, cell_of h2 2, frozen_of h2⟩, ⟨cell_of h3 0, cell_of h3 1, cell_of h3 2, frozen_of h3⟩⟩
theorem RT.es {w0 w : World} {v : Value} {j : Nat} {es : List (List UInt8 × Int)} (h : RT w0 w v j es) : Es w v es := (own_es h.own).2
theorem RT.grown {w0 w w1 : World} {v : Value} {j : Nat} {es : List (List UInt8 × Int)} (h : RT w0 w v j es) (hg : w.grownBy w1 v.ownBlock) : w1.cell? ⟨w0.heap.size + 1, 2, none⟩ = some v ∧ w1.frozen? ⟨w0.heap.size + 1, 2, none⟩ = false ∧ Below w0.heap.size w0 w1 := by
  obtain ⟨h1, h2, h3, h4, h5⟩ := h
  have hbB : Below (w0.heap.size + 2) w w1 := (Below.refl _ w).grown hg h1 (own_base h4)
  have := (hbB.block (w0.heap.size + 1) (by omega)).trans h3
  exact ⟨cell_of this 2, frozen_of this 2, h5.trans (hbB.mono (by omega))⟩
theorem RT.app {w0 w w1 : World} {v v1 : Value} {j j1 : Nat} {es es1 : List (List UInt8 × Int)} (h : RT w0 w v j es) (ho : w1.ownsRow (w0.heap.size + 2) 46 2 v1 j1 (es1.flatMap encE)) (hg : w.grownBy w1 v.ownBlock) :
    RT w0 (w1.setCell ⟨w0.heap.size + 1, 2, none⟩ v1) v1 j1 es1 := by
  obtain ⟨h1, h2, h3, h4, h5⟩ := h
  have hbB : Below (w0.heap.size + 2) w w1 := (Below.refl _ w).grown hg h1 (own_base h4)
  have hg2 := grown_set w1 (w0.heap.size + 1) 2 v1
  have hsz := hg.size
  refine ⟨by simp; omega, ?_, Go.Joins.block_setCell ((hbB.block (w0.heap.size + 1) (by omega)).trans h3) _, ?_, (h5.trans (hbB.mono (by omega))).setCell (p := ⟨w0.heap.size + 1, 2, none⟩) (by show _ ≤ w0.heap.size + 1; omega) _⟩
  · exact (hg2.block _ (by omega) (by simp)).trans ((hbB.block _ (by omega)).trans h2)
  · refine ho.kept hg2 ?_
    cases hv : v1.ownBlock with
    | none => exact .inl rfl
    | some k => exact .inr (by have := (ho.lt k hv).1; simp; omega)
theorem set3_row {w : World} {g : Nat} {a0 a1 a2 : Value} (h : w.heap[g]? = some (.cells #[a0, a1, a2] 28 (0, 0))) (b0 b1 b2 : Value) :
    (((w.setCell ⟨g, 0, none⟩ b0).setCell ⟨g, 1, none⟩ b1).setCell ⟨g, 2, none⟩ b2).heap[g]? = some (.cells #[b0, b1, b2] 28 (0, 0)) :=
  Go.Joins.block_setCell (Go.Joins.block_setCell (Go.Joins.block_setCell h b0) b1) b2
theorem set3_below {B : Nat} {a w : World} (h : Below B a w) {g : Nat} (hg : B ≤ g) (b0 b1 b2 : Value) : Below B a (((w.setCell ⟨g, 0, none⟩ b0).setCell ⟨g, 1, none⟩ b1).setCell ⟨g, 2, none⟩ b2) :=
  ((h.setCell (p := ⟨g, 0, none⟩) hg _).setCell (p := ⟨g, 1, none⟩) hg _).setCell (p := ⟨g, 2, none⟩) hg _
theorem set3_grown (w : World) (g : Nat) (b0 b1 b2 : Value) : w.grownBy (((w.setCell ⟨g, 0, none⟩ b0).setCell ⟨g, 1, none⟩ b1).setCell ⟨g, 2, none⟩ b2) (some g) :=
  grown_trans (grown_trans (grown_set w g 0 b0) (grown_set _ g 1 b1)) (grown_set _ g 2 b2)
theorem RT.fin {w0 w : World} {v : Value} {j : Nat} {es : List (List UInt8 × Int)} (h : RT w0 w v j es) :
    Es (((w.setCell ⟨w0.heap.size, 0, none⟩ (.int .i64 2)).setCell ⟨w0.heap.size, 1, none⟩ (.int .i64 0)).setCell ⟨w0.heap.size, 2, none⟩ v) v es := by
  refine (own_es (h.own.kept (set3_grown w w0.heap.size _ _ _) ?_)).2
  cases hv : v.ownBlock with
  | none => exact .inl rfl
  | some k => exact .inr (by have := (h.own.lt k hv).1; simp; omega)
end Go.Proofs.YteghldapcfkekaaK
