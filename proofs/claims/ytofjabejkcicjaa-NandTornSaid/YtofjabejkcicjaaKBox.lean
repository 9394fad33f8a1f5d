import Derived.Test.YtofjabejkcicjaaKStep
namespace Go.Proofs.YtofjabejkcicjaaK
open Go.RowKit
set_option linter.unusedSimpArgs false
set_option linter.unusedVariables false
/-! The world behind a box that was made: its cells stay. -/
def Bx (w : World) (o : Obj) (wr : World) : Prop := Below (w.alloc o).heap.size (w.alloc o) wr
theorem Bx.here (w : World) (o : Obj) : Bx w o (w.alloc o) := Below.refl _ _
theorem Bx.below {w wr : World} {o : Obj} (h : Bx w o wr) : Below w.heap.size w wr :=
  ((Below.refl w.heap.size w).alloc (Nat.le_refl _) o).trans (Below.mono h (by simp))
theorem Bx.go {w wr w2 : World} {o : Obj} (h : Bx w o wr) (hb : Below wr.heap.size wr w2) : Bx w o w2 :=
  Below.trans h (hb.mono h.size)
theorem Bx.alloc {w wr : World} {o : Obj} (h : Bx w o wr) (o' : Obj) : Bx w o (wr.alloc o') := h.go ((Below.refl _ _).alloc (Nat.le_refl _) o')
theorem Bx.drew {w wr : World} {o : Obj} (h : Bx w o wr) : Bx w o wr.drew := Below.drew h
theorem new_cell (w : World) (cs : Array Value) (T : TypeId) (fz : Nat × Nat) (j : Nat) (u : Value) (h : cs[j]? = some u) : (w.alloc (.cells cs T fz)).cell? ⟨w.heap.size, j, none⟩ = some u := by
  rw [cell_of_row (w.alloc (.cells cs T fz)) w.heap.size j cs T fz (heap_alloc_new w _)]
  exact h
theorem Bx.cell {w wr : World} {cs : Array Value} {T : TypeId} {fz : Nat × Nat} (h : Bx w (.cells cs T fz) wr) (j : Nat) (u : Value) (hu : cs[j]? = some u) : wr.cell? ⟨w.heap.size, j, none⟩ = some u :=
  (Below.cell h (by simp)).trans (new_cell w cs T fz j u hu)
theorem new_cell_drew (w : World) (cs : Array Value) (T : TypeId) (j : Nat) (u : Value) (h : cs[j]? = some u) : (w.alloc (.cells cs T)).drew.cell? ⟨w.heap.size, j, none⟩ = some u := new_cell w cs T (0, 0) j u h
theorem old_cell_drew {w : World} {o : Obj} {a : Addr} {u : Value} (h : w.cell? a = some u) : (w.alloc o).drew.cell? a = some u :=
  (((Below.refl w.heap.size w).alloc (Nat.le_refl _) o).cell (World.block_lt_of_cell? w _ h)).trans h
end Go.Proofs.YtofjabejkcicjaaK
