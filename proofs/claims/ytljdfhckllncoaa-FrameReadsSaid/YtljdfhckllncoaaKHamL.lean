import Derived.Test.YtljdfhckllncoaaKHamK
import Derived.Deep.RegionHeld3
import Derived.Deep.MidRow
import Derived.Deep.WholeRow
namespace Go.Proofs.YtljdfhckllncoaaK
open Go.RowKit
set_option linter.unusedSimpArgs false
set_option linter.unusedVariables false
theorem range_below {w w1 : World} {b o : Nat} {cs : List Value} (h : w.rangeAt b o cs) (hb : Below w.heap.size w w1) : w1.rangeAt b o cs := fun j v hv => cell_later hb (h j v hv)
theorem range_row {w : World} {b : Nat} {cs : List Value} {T : TypeId} {fz : Nat × Nat} (h : w.heap[b]? = some (.cells cs.toArray T fz)) : w.rangeAt b 0 cs := fun j v hv => by
  rw [Nat.zero_add, cell_of_row _ _ j _ _ _ h]; simpa using hv
theorem _root_.Go.World.rangeAt.head {w : World} {b : Nat} {cs : List Value} (h : w.rangeAt b 0 cs) (hl : 0 < cs.length) : w.cell? ⟨b, 0, none⟩ = cs[0]? := by
  have := h 0 _ (List.getElem?_eq_getElem hl)
  rw [List.getElem?_eq_getElem hl]; exact this
def oneD : List UInt8 := 1 :: List.replicate 255 0
set_option maxRecDepth 100000 in
theorem chk_one : chk oneD = 4099 := by decide +kernel
end Go.Proofs.YtljdfhckllncoaaK
