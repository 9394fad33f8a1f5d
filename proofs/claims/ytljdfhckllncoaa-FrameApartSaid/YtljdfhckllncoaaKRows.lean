import Derived.Test.YtljdfhckllncoaaKRow
import Derived.OrdersHeld
namespace Go.Proofs.YtljdfhckllncoaaK
open Go.RowKit
set_option linter.unusedSimpArgs false
set_option linter.unusedVariables false
/-- Rows of cells that are apart, made since w0. -/
structure Rows (w0 : World) (rs : List (Nat × List Value)) (w : World) : Prop where
  rows : ∀ p ∈ rs, Arr w p.1 p.2
  apart : rs.Pairwise (fun p q => p.1 ≠ q.1)
  since : ∀ p ∈ rs, w0.heap.size ≤ p.1
  below : Below w0.heap.size w0 w
section
variable {w0 w w' : World} {rs : List (Nat × List Value)} {b : Nat} {L L' : List Value}
theorem Rows.get (h : Rows w0 rs w) (hm : (b, L) ∈ rs) : Arr w b L := h.rows _ hm
theorem Rows.nil (w : World) : Rows w [] w := ⟨fun p hp => by simp at hp, List.Pairwise.nil, fun p hp => by simp at hp, Below.refl _ _⟩
theorem Rows.go (h : Rows w0 rs w) (hb : Below w.heap.size w w') : Rows w0 rs w' :=
  ⟨fun p hp => (h.rows p hp).below hb, h.apart, h.since, h.below.trans (hb.mono h.below.size)⟩
theorem Rows.drew (h : Rows w0 rs w) : Rows w0 rs w.drew := h.go (Below.refl _ _).drew
theorem Rows.alloc (h : Rows w0 rs w) (o : Obj) : Rows w0 rs (w.alloc o) := h.go ((Below.refl _ _).alloc (Nat.le_refl _) _)
theorem Rows.new (h : Rows w0 rs w) (cs : Array Value) (T : TypeId) : Rows w0 ((w.heap.size, cs.toList) :: rs) (w.alloc (.cells cs T)) := by
  have h2 := h.alloc (.cells cs T)
  refine ⟨fun p hp => ?_, List.pairwise_cons.2 ⟨fun q hq e => ?_, h.apart⟩, fun p hp => ?_, h2.below⟩
  · rcases List.mem_cons.1 hp with rfl | hp
    · exact arr_new w cs T
    · exact h2.rows p hp
  · have := (h.rows q hq).2.2
    simp only at e; omega
  · rcases List.mem_cons.1 hp with rfl | hp
    · exact h.below.size
    · exact h.since p hp
theorem Rows.newL (h : Rows w0 rs w) (cs : List Value) (T : TypeId) : Rows w0 ((w.heap.size, cs) :: rs) (w.alloc (.cells cs.toArray T)) := by have := h.new cs.toArray T; simpa using this
theorem Rows.swap {p q : Nat × List Value} (h : Rows w0 (p :: q :: rs) w) : Rows w0 (q :: p :: rs) w := by
  have ha := h.apart
  rw [List.pairwise_cons, List.pairwise_cons] at ha
  obtain ⟨h1, h2, h3⟩ := ha
  refine ⟨fun r hr => h.rows r ?_, List.pairwise_cons.2 ⟨fun r hr e => ?_, List.pairwise_cons.2 ⟨fun r hr => h1 r (by simp [hr]), h3⟩⟩, fun r hr => h.since r ?_, h.below⟩
  · simp only [List.mem_cons] at hr ⊢; rcases hr with rfl | rfl | hr <;> simp [*]
  · rcases List.mem_cons.1 hr with rfl | hr
    · exact h1 q (by simp) e.symm
    · exact h2 r hr e
  · simp only [List.mem_cons] at hr ⊢; rcases hr with rfl | rfl | hr <;> simp [*]
theorem rows_perm {ss : List (Nat × List Value)} (h : Rows w0 rs w) (hp : rs.Perm ss) : Rows w0 ss w :=
  ⟨fun p hp' => h.rows p (hp.mem_iff.2 hp'), (hp.pairwise_iff (fun h e => h e.symm)).1 h.apart, fun p hp' => h.since p (hp.mem_iff.2 hp'), h.below⟩
/-- A row is written whole. -/
theorem Rows.store (h : Rows w0 ((b, L) :: rs) w) (hl : L'.length = L.length) : Rows w0 ((b, L') :: rs) (w.setCells b 0 L') := by
  have ha := h.apart
  rw [List.pairwise_cons] at ha
  refine ⟨fun p hp => ?_, List.pairwise_cons.2 ⟨ha.1, ha.2⟩, fun p hp => ?_, below_setCells (h.since (b, L) (by simp)) _ _ h.below⟩
  · rcases List.mem_cons.1 hp with rfl | hp
    · exact (h.rows (b, L) (by simp)).set_same hl
    · exact (h.rows p (by simp [hp])).set_other (fun e => ha.1 p hp e.symm) 0 L'
  · rcases List.mem_cons.1 hp with rfl | hp
    · exact h.since (b, L) (by simp)
    · exact h.since p (by simp [hp])
theorem Rows.storeA (h : Rows w0 ((b, L) :: rs) w) {A : Array Value} (hl : A.size = L.length) : Rows w0 ((b, A.toList) :: rs) (w.setCells b 0 A.toList) := h.store (by simpa using hl)
theorem Rows.cell (h : Rows w0 ((b, L) :: rs) w) (j : Nat) (v : Value) : Rows w0 ((b, L.set j v) :: rs) (w.setCell ⟨b, j, none⟩ v) := by
  have ha := h.apart
  rw [List.pairwise_cons] at ha
  refine ⟨fun p hp => ?_, List.pairwise_cons.2 ⟨ha.1, ha.2⟩, fun p hp => ?_, h.below.setCell (p := ⟨b, j, none⟩) (h.since (b, L) (by simp)) v⟩
  · rcases List.mem_cons.1 hp with rfl | hp
    · exact (h.rows (b, L) (by simp)).set_cell j v
    · exact (h.rows p (by simp [hp])).set_one (fun e => ha.1 p hp e) j v
  · rcases List.mem_cons.1 hp with rfl | hp
    · exact h.since (b, L) (by simp)
    · exact h.since p (by simp [hp])
theorem Rows.drop {p : Nat × List Value} (h : Rows w0 (p :: rs) w) : Rows w0 rs w :=
  ⟨fun q hq => h.rows q (by simp [hq]), (List.pairwise_cons.1 h.apart).2, fun q hq => h.since q (by simp [hq]), h.below⟩
end
end Go.Proofs.YtljdfhckllncoaaK
