import Derived.Test.YteghldapcfkekaaKIrdP
import Derived.Test.YteghldapcfkekaaKRwr
import Derived.Laws.ResultCell
import Derived.Lib.SmallJoins
namespace Go.Proofs.YteghldapcfkekaaK
open Go.RowKit
set_option linter.unusedSimpArgs false
set_option linter.unusedVariables false
/-! The state of a read of an inode: the result's box nb, the reader rb, a row of entries of the call's own. -/
theorem Rdr.low {w w1 : World} {B b D : Nat} {bs : List UInt8} {bad : Bool} (h : Rdr w b D bs bad) (hb : Below B w w1) (hbB : b < B) (hDB : D < B) : Rdr w1 b D bs bad := by
  obtain ⟨A, c, h1, ⟨A', c', he, h2, h3, h4⟩, h5⟩ := h
  refine ⟨A, c, (hb.block b hbB).trans h1, ⟨A', c', he, h2, h3, ?_⟩, h5⟩
  intro j u hu
  obtain ⟨a, ha, hc⟩ := h4 j u hu
  refine ⟨a, ha, (hb.cell ?_).trans hc⟩
  have hne : bs ≠ [] := by intro e; rw [e] at hu; simp at hu
  obtain ⟨a2, ha2, hD⟩ := h5 hne
  injection he with e1
  rw [e1, ha] at ha2
  injection ha2 with ha2
  rw [ha2]
  have : (a2.add j).block = a2.block := by unfold Addr.add; split <;> rfl
  rw [this, hD]; exact hDB
def RS (w0 w : World) (nb rb D B : Nat) (bs : List UInt8) (bad : Bool) (K Z : Int) (v : Value) (j : Nat) (es : List (List UInt8 × Int)) : Prop :=
  (w0.heap.size ≤ nb ∧ nb < D ∧ D ≤ rb ∧ rb < B ∧ B ≤ w.heap.size) ∧ Rdr w rb D bs bad ∧ w.heap[nb]? = some (.cells #[.int .i64 K, .int .i64 Z, v] 28 (0, 0)) ∧ w.ownsRow B 46 2 v j (es.flatMap encE) ∧ Below w0.heap.size w0 w
theorem RS.below {w0 w w1 : World} {nb rb D B : Nat} {bs : List UInt8} {bad : Bool} {K Z : Int} {v : Value} {j : Nat} {es : List (List UInt8 × Int)} (h : RS w0 w nb rb D B bs bad K Z v j es) (hb : Below w.heap.size w w1) : RS w0 w1 nb rb D B bs bad K Z v j es := by
  obtain ⟨⟨p1, p2, p3, p4, p5⟩, h1, h2, h3, h4⟩ := h
  exact ⟨⟨p1, p2, p3, p4, Nat.le_trans p5 hb.size⟩, h1.low hb (by omega) (by omega), (hb.block nb (by omega)).trans h2, own_below h3 hb, h4.trans (hb.mono (by omega))⟩
theorem RS.read {w0 w w1 : World} {nb rb D B : Nat} {bs bs1 : List UInt8} {bad bad1 : Bool} {K Z : Int} {v : Value} {j : Nat} {es : List (List UInt8 × Int)} (h : RS w0 w nb rb D B bs bad K Z v j es) (hr : Rdr w1 rb D bs1 bad1) (hg : w.grownBy w1 (some rb)) : RS w0 w1 nb rb D B bs1 bad1 K Z v j es := by
  obtain ⟨⟨p1, p2, p3, p4, p5⟩, h1, h2, h3, h4⟩ := h
  refine ⟨⟨p1, p2, p3, p4, Nat.le_trans p5 hg.size⟩, hr, ?_, ?_, ?_⟩
  · exact (hg.block nb (by omega) (by simp; omega)).trans h2
  · refine h3.kept hg ?_
    cases hv : v.ownBlock with
    | none => exact .inl rfl
    | some k => exact .inr (by have := (h3.lt k hv).1; simp; omega)
  · exact below_row h4 hg (by omega) (by omega)
theorem below_set {w0 w : World} {B : Nat} (h : Below w0.heap.size w0 w) (p : Addr) (hp : w0.heap.size ≤ p.block) (u : Value) : Below w0.heap.size w0 (w.setCell p u) := h.setCell hp u
theorem set_low (w : World) (B b i : Nat) (u : Value) (h : B ≤ b) : Below B w (w.setCell ⟨b, i, none⟩ u) := (Below.refl B w).setCell h u
/-- The first cell, the second one of the result. -/
theorem RS.set01 {w0 w : World} {nb rb D B : Nat} {bs : List UInt8} {bad : Bool} {K Z : Int} {v : Value} {j : Nat} {es : List (List UInt8 × Int)} (h : RS w0 w nb rb D B bs bad K Z v j es) (x : Int) :
    RS w0 (w.setCell ⟨nb, 0, none⟩ (.int .i64 x)) nb rb D B bs bad x Z v j es ∧ RS w0 (w.setCell ⟨nb, 1, none⟩ (.int .i64 x)) nb rb D B bs bad K x v j es := by
  obtain ⟨⟨p1, p2, p3, p4, p5⟩, h1, h2, h3, h4⟩ := h
  have hr : ∀ i, Rdr (w.setCell ⟨nb, i, none⟩ (.int .i64 x)) rb D bs bad := fun i => by
    have hg := grown_set w nb i (.int .i64 x)
    obtain ⟨A, c, q1, ⟨A', c', he, q2, q3, q4⟩, q5⟩ := h1
    refine ⟨A, c, (hg.block rb (by omega) (by simp; omega)).trans q1, ⟨A', c', he, q2, q3, ?_⟩, q5⟩
    intro j u hu
    obtain ⟨a, ha, hc⟩ := q4 j u hu
    refine ⟨a, ha, ?_⟩
    have hne : bs ≠ [] := by intro e; rw [e] at hu; simp at hu
    obtain ⟨a2, ha2, hD⟩ := q5 hne
    injection he with e1
    rw [e1, ha] at ha2
    injection ha2 with ha2
    rw [World.cell?_setCell_other (h := ?_)]
    · exact hc
    · intro e
      have hbl : (a.add j).block = a.block := by unfold Addr.add; split <;> rfl
      have : (a.add j).block = nb := by rw [← e]
      rw [hbl, ha2, hD] at this
      omega
  have ho : ∀ i, (w.setCell ⟨nb, i, none⟩ (.int .i64 x)).ownsRow B 46 2 v j (es.flatMap encE) := fun i => by
    refine h3.kept (grown_set w nb i _) ?_
    cases hv : v.ownBlock with
    | none => exact .inl rfl
    | some k => exact .inr (by have := (h3.lt k hv).1; simp; omega)
  have hs : ∀ i, (w.setCell ⟨nb, i, none⟩ (.int .i64 x)).heap.size = w.heap.size := fun i => by simp
  exact ⟨⟨⟨p1, p2, p3, p4, by rw [hs]; exact p5⟩, hr 0, Go.Joins.block_setCell h2 _, ho 0, h4.setCell (p := ⟨nb, 0, none⟩) p1 _⟩, ⟨⟨p1, p2, p3, p4, by rw [hs]; exact p5⟩, hr 1, Go.Joins.block_setCell h2 _, ho 1, h4.setCell (p := ⟨nb, 1, none⟩) p1 _⟩⟩
/-- An entry more. -/
theorem RS.app {w0 w w1 : World} {nb rb D B : Nat} {bs : List UInt8} {bad : Bool} {K Z : Int} {v v1 : Value} {j j1 : Nat} {es es1 : List (List UInt8 × Int)} (h : RS w0 w nb rb D B bs bad K Z v j es) (ho : w1.ownsRow B 46 2 v1 j1 (es1.flatMap encE)) (hg : w.grownBy w1 v.ownBlock) :
    RS w0 (w1.setCell ⟨nb, 2, none⟩ v1) nb rb D B bs bad K Z v1 j1 es1 := by
  obtain ⟨⟨p1, p2, p3, p4, p5⟩, h1, h2, h3, h4⟩ := h
  have hbB : Below B w w1 := (Below.refl B w).grown hg p5 (own_base h3)
  have hg2 := grown_set w1 nb 2 v1
  have hb2 : w1.heap[nb]? = some (.cells #[.int .i64 K, .int .i64 Z, v] 28 (0, 0)) := (hbB.block nb (by omega)).trans h2
  have hr := h1.low hbB (by omega) (by omega)
  have hsz := hg.size
  refine ⟨⟨p1, p2, p3, p4, by simp; omega⟩, ?_, Go.Joins.block_setCell hb2 _, ?_, (h4.trans (hbB.mono (by omega))).setCell (p := ⟨nb, 2, none⟩) p1 _⟩
  · obtain ⟨A, c, q1, ⟨A', c', he, q2, q3, q4⟩, q5⟩ := hr
    refine ⟨A, c, (hg2.block rb (by omega) (by simp; omega)).trans q1, ⟨A', c', he, q2, q3, ?_⟩, q5⟩
    intro j u hu
    obtain ⟨a, ha, hc⟩ := q4 j u hu
    refine ⟨a, ha, ?_⟩
    have hne : bs ≠ [] := by intro e; rw [e] at hu; simp at hu
    obtain ⟨a2, ha2, hD⟩ := q5 hne
    injection he with e1
    rw [e1, ha] at ha2
    injection ha2 with ha2
    rw [World.cell?_setCell_other (h := ?_)]
    · exact hc
    · intro e
      have hbl : (a.add j).block = a.block := by unfold Addr.add; split <;> rfl
      have : (a.add j).block = nb := by rw [← e]
      rw [hbl, ha2, hD] at this
      omega
  · refine ho.kept hg2 ?_
    cases hv : v1.ownBlock with
    | none => exact .inl rfl
    | some k => exact .inr (by have := (ho.lt k hv).1; simp; omega)
theorem RS.cells {w0 w : World} {nb rb D B : Nat} {bs : List UInt8} {bad : Bool} {K Z : Int} {v : Value} {j : Nat} {es : List (List UInt8 × Int)} (h : RS w0 w nb rb D B bs bad K Z v j es) :
    w.cell? ⟨nb, 0, none⟩ = some (.int .i64 K) ∧ w.cell? ⟨nb, 1, none⟩ = some (.int .i64 Z) ∧ w.cell? ⟨nb, 2, none⟩ = some v ∧ (∀ i, w.frozen? ⟨nb, i, none⟩ = false) := by
  obtain ⟨_, _, h2, _, _⟩ := h
  exact ⟨cell_of h2 0, cell_of h2 1, cell_of h2 2, frozen_of h2⟩
theorem RS.es {w0 w : World} {nb rb D B : Nat} {bs : List UInt8} {bad : Bool} {K Z : Int} {A : Option Addr} {j c : Nat} {es : List (List UInt8 × Int)} (h : RS w0 w nb rb D B bs bad K Z (.slice A j c) j es) : Es w (.slice A j c) es := by
  obtain ⟨_, _, _, h3, _⟩ := h
  have hl := h3.1
  have hfl : ∀ l : List (List UInt8 × Int), (l.flatMap encE).length = l.length * 2 := by
    intro l
    induction l with
    | nil => rfl
    | cons x l ih => rw [List.flatMap_cons, List.length_append, ih, List.length_cons, Nat.succ_mul]; show 2 + _ = _; omega
  rw [hfl] at hl
  obtain rfl : j = es.length := by omega
  obtain ⟨A', c', he, h4, h5⟩ := own_form h3
  injection he with e1 e2 e3
  subst e1 e3
  exact ⟨A, c, rfl, h4, h5, own_at h3⟩
end Go.Proofs.YteghldapcfkekaaK
