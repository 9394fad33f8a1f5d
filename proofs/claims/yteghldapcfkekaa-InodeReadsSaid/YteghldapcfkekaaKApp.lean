import Derived.Test.YteghldapcfkekaaKStB
import Derived.Lib.AppendStr
namespace Go.Proofs.YteghldapcfkekaaK
open Go.RowKit
set_option linter.unusedSimpArgs false
set_option linter.unusedVariables false
/-! append, as one operation that is left of a region; rows of one's own. -/
theorem wp_append_op {P : Program} {o : Oper} {a : Act} {K : Act → World → Prop} {Q : Exit → Act → World → Prop} {W : World} (base : Nat) (hg : o.guard = none) (s x : Operand) (t e : TypeId) (z : Value) (size bytes : Nat)
    (ho : o.op = .call { callee := .builtin .append, args := #[s, x], argTypes := #[t, t] })
    (ht : P.underlying t = some (.slice e)) (hinfo : (P.info? e).map (fun i => (i.zero, i.size, i.bytes)) = some (some z, size, bytes)) (hz : z.cells.size = size) (hs0 : 0 < size) (hb0 : 0 < bytes)
    (v : Value) (n : Nat) (xs : List Value) (A : Option Addr) (m c : Nat) (ys : List Value) (hs : a.eval s = v) (hx : a.eval x = .slice A m c)
    (HO : W.ownsRow base e size v n xs) (HR : At W A ys) (hm : ys.length = m * size) (h1 : ∀ u ∈ ys, u.oneCell' = true)
    (hbase : base ≤ W.heap.size) (hl : (n + m) * bytes ≤ 140737488355328)
    (h : ∀ v1 w1, w1.ownsRow base e size v1 (n + m) (xs ++ ys) → W.grownBy w1 v.ownBlock → (v1.ownBlock = v.ownBlock ∨ v1.ownBlock = some W.heap.size) → K (a.put o.dst v1) w1) : Oper.wp P o a W K Q := by
  have hw : Region.wanted o (yielded #[] a.tmps) = true := by unfold Region.wanted; rw [hg]
  have := step_append (ops := #[]) (E := True) (Q := Q) base hw s x t e z size bytes ho ht hinfo hz hs0 hb0 v n xs A m c ys hs hx HO HR hm h1 hbase hl h
  rw [if_pos hw] at this
  exact this
theorem info_u81 : (Try.prog.info? 5).map (fun i => (i.zero, i.size)) = some (some (.int .u8 0), 1) := by kernel_rfl
theorem own_litB {w : World} {e : TypeId} {base n : Nat} (cs : Array Value) (hs : cs.size = n) (hb : base ≤ w.heap.size) (hn : n ≤ 1000000) : (w.alloc (.cells cs e)).ownsRow base e 1 (.slice (some ⟨w.heap.size, 0, none⟩) n n) n cs.toList :=
  ⟨by simp [hs], .inr ⟨w.heap.size, n, cs, rfl, hb, heap_alloc_new w _, Nat.le_refl _, by unfold maxLen; omega, by omega, by rw [List.take_of_length_le (by simp [hs])]⟩⟩
theorem u8_of (y : Int) (h : 0 ≤ y) (h' : y < 256) : encB (UInt8.ofNat (y.toNat % 256)) = .int .u8 y := by
  unfold encB
  congr 1
  simp
  omega
theorem nums1_cells (x y : Int) (hx : 0 ≤ x) (hx' : x < 256) (hy : 0 ≤ y) (hy' : y < 256) : (numsB 1 [x, y]).map encB = [.int .u8 x, .int .u8 y] := by
  show [encB (UInt8.ofNat (x.toNat % 256)), encB (UInt8.ofNat (y.toNat % 256))] = _
  rw [u8_of x hx hx', u8_of y hy hy']
theorem str_cells (s : List UInt8) : Lib.strCells (str s) = s.map encB := by
  unfold Lib.strCells encB
  rw [str_list]
end Go.Proofs.YteghldapcfkekaaK
