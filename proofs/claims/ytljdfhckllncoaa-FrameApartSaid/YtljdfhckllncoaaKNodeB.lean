import Derived.Test.YtljdfhckllncoaaKNodeQ
namespace Go.Proofs.YtljdfhckllncoaaK
open Go.RowKit
set_option linter.unusedSimpArgs false
set_option linter.unusedVariables false
theorem nodeK_B (k ep : Nat) (bs : List UInt8) (hk : k < 256) : nodeK (nodeB k ep bs) = k := by
  unfold nodeK nodeB
  rw [List.take_append_of_le_length (by rw [numB_length]; exact Nat.le_refl _), List.take_of_length_le (by rw [numB_length]; exact Nat.le_refl _), numV_numB]
  omega
theorem nodeE_B (k ep : Nat) (bs : List UInt8) (he : ep < 18446744073709551616) : nodeE (nodeB k ep bs) = ep := by
  unfold nodeE nodeB
  rw [List.drop_append_of_le_length (by rw [numB_length]; exact Nat.le_refl _), List.drop_of_length_le (by rw [numB_length]; exact Nat.le_refl _), List.nil_append,
    List.take_append_of_le_length (by rw [numB_length]; exact Nat.le_refl _), List.take_of_length_le (by rw [numB_length]; exact Nat.le_refl _), numV_numB]
  omega
theorem nodeD_B (k ep : Nat) (bs : List UInt8) : (nodeB k ep bs).drop 9 = bs := by
  unfold nodeB
  rw [← List.append_assoc, List.drop_append_of_le_length (by rw [List.length_append, numB_length, numB_length]; exact Nat.le_refl _), List.drop_of_length_le (by rw [List.length_append, numB_length, numB_length]; exact Nat.le_refl _), List.nil_append]
theorem numB_numV : ∀ (l : List UInt8), numB l.length (numV l) = l
  | [] => rfl
  | x :: l => by
    have h := x.toNat_lt
    have e1 : (x.toNat + 256 * numV l) % 256 = x.toNat := by omega
    have e2 : (x.toNat + 256 * numV l) / 256 = numV l := by omega
    show numB (l.length + 1) (x.toNat + 256 * numV l) = _
    unfold numB
    rw [e1, e2, numB_numV l]
    simp
/-- Bytes that are read as a node are written as they were. -/
theorem nodeB_read (bs : List UInt8) (h : 9 ≤ bs.length) : nodeB (nodeK bs) (nodeE bs) (bs.drop 9) = bs := by
  unfold nodeB nodeK nodeE
  have h1 : (bs.take 1).length = 1 := by rw [List.length_take]; omega
  have h2 : ((bs.drop 1).take 8).length = 8 := by rw [List.length_take, List.length_drop]; omega
  have e1 := numB_numV (bs.take 1)
  have e2 := numB_numV ((bs.drop 1).take 8)
  rw [h1] at e1
  rw [h2] at e2
  rw [e1, e2]
  have e3 : bs.drop 9 = (bs.drop 1).drop 8 := by rw [List.drop_drop]
  rw [e3, List.take_append_drop, List.take_append_drop]
theorem nodeK_lt (bs : List UInt8) : nodeK bs < 256 := by
  have hk1 := numV_lt (bs.take 1)
  have h1 : (bs.take 1).length ≤ 1 := by rw [List.length_take]; omega
  exact Nat.lt_of_lt_of_le hk1 (by have := Nat.pow_le_pow_right (n := 256) (by decide) h1; simpa using this)
theorem nodeE_lt (bs : List UInt8) : nodeE bs < 18446744073709551616 := by
  have hk1 := numV_lt ((bs.drop 1).take 8)
  have h1 : ((bs.drop 1).take 8).length ≤ 8 := by rw [List.length_take]; omega
  exact Nat.lt_of_lt_of_le hk1 (by have := Nat.pow_le_pow_right (n := 256) (by decide) h1; simpa using this)
theorem box_below {w w1 : World} {b : Nat} {o : Obj} (h : w.heap[b]? = some o) (hb : Below w.heap.size w w1) : w1.heap[b]? = some o := (hb.block b (Array.getElem?_eq_some_iff.1 h).1).trans h
theorem box_cells {w : World} {b : Nat} {T : TypeId} {a0 a1 a2 : Value} (h : w.heap[b]? = some (.cells #[a0, a1, a2] T (0, 0))) :
    w.cell? ⟨b, 0, none⟩ = some a0 ∧ w.cell? ⟨b, 1, none⟩ = some a1 ∧ w.cell? ⟨b, 2, none⟩ = some a2 :=
  ⟨cell_of_row _ _ 0 _ _ _ h, cell_of_row _ _ 1 _ _ _ h, cell_of_row _ _ 2 _ _ _ h⟩
theorem own_set3' {w : World} {B n size g : Nat} {e : TypeId} {v : Value} {xs : List Value} (h : w.ownsRow B e size v n xs) (hne : v.ownBlock ≠ some g) (b0 b1 b2 : Value) :
    (((w.setCell ⟨g, 0, none⟩ b0).setCell ⟨g, 1, none⟩ b1).setCell ⟨g, 2, none⟩ b2).ownsRow B e size v n xs :=
  h.kept (grown_trans (grown_trans (grown_set w g 0 b0) (grown_set _ g 1 b1)) (grown_set _ g 2 b2)) (.inr hne)
end Go.Proofs.YtljdfhckllncoaaK
