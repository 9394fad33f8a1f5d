import Derived.Test.YtljdfhckllncoaaKHamR
import Derived.Lib.SmallJoins
namespace Go.Proofs.YtljdfhckllncoaaK
open Go.RowKit
set_option linter.unusedSimpArgs false
set_option linter.unusedVariables false
def sumJ (bs : List UInt8) (j : Nat) : Nat → Nat
  | 0 => 0
  | k + 1 => sumJ bs j k + dbit bs k * bitN (plc k) j
theorem bitN_xor (a b j : Nat) : bitN (a ^^^ b) j = (bitN a j + bitN b j) % 2 := by
  unfold bitN
  rw [Nat.xor_div_two_pow]
  have h := Nat.xor_mod_two_pow (a := a / 2 ^ j) (b := b / 2 ^ j) (n := 1)
  rw [Nat.pow_one] at h
  rw [h]
  have e : ∀ x y : Fin 2, x.val ^^^ y.val = (x.val + y.val) % 2 := by decide
  exact e ⟨a / 2 ^ j % 2, Nat.mod_lt _ (by decide)⟩ ⟨b / 2 ^ j % 2, Nat.mod_lt _ (by decide)⟩
theorem sumJ_mod (bs : List UInt8) (j : Nat) : ∀ k, sumJ bs j k % 2 = bitN (foldS bs k) j := by
  intro k
  induction k with
  | zero => simp [sumJ, foldS, bitN]
  | succ k ih =>
    have e : foldS bs (k + 1) = if dbit bs k = 1 then foldS bs k ^^^ plc k else foldS bs k := rfl
    have e2 : sumJ bs j (k + 1) = sumJ bs j k + dbit bs k * bitN (plc k) j := rfl
    have hd := bitN_lt (bs.getD (k / 8) 0).toNat (k % 8)
    rw [e, e2]
    by_cases h : dbit bs k = 1
    · rw [if_pos h, bitN_xor, h, ← ih]
      omega
    · rw [if_neg h, show dbit bs k = 0 from by unfold dbit at h ⊢; omega, ← ih]
      simp
theorem sumJ_le (bs : List UInt8) (j : Nat) : ∀ k, sumJ bs j k ≤ k := by
  intro k
  induction k with
  | zero => exact Nat.le_refl _
  | succ k ih =>
    have hd := bitN_lt (bs.getD (k / 8) 0).toNat (k % 8)
    have hp := bitN_lt (plc k) j
    have h1 : dbit bs k ≤ 1 := by unfold dbit; omega
    have h2 : bitN (plc k) j ≤ 1 := by omega
    have h3 : dbit bs k * bitN (plc k) j ≤ 1 * 1 := Nat.mul_le_mul h1 h2
    show sumJ bs j k + dbit bs k * bitN (plc k) j ≤ k + 1
    omega
def outS (x : Nat) : Nat → Nat
  | 0 => 0
  | m + 1 => outS x m + bitN x m * 2 ^ m
def pcTo (x : Nat) : Nat → Nat
  | 0 => 0
  | m + 1 => pcTo x m + bitN x m
theorem outS_mod (x : Nat) : ∀ m, outS x m = x % 2 ^ m := by
  intro m
  induction m with
  | zero => simp [outS, Nat.mod_one]
  | succ m ih =>
    show outS x m + bitN x m * 2 ^ m = _
    rw [ih, Nat.pow_succ, Nat.mod_mul, Nat.mul_comm (2 ^ m)]
    rfl
theorem pcTo_12 (x : Nat) : pcTo x 12 = pc x := by
  have e : pc x = bitN x 0 + (bitN x 1 + (bitN x 2 + (bitN x 3 + (bitN x 4 + (bitN x 5 + (bitN x 6 + (bitN x 7 + (bitN x 8 + (bitN x 9 + (bitN x 10 + (bitN x 11 + 0))))))))))) := rfl
  rw [e]
  simp only [pcTo]
  omega
theorem pcTo_le (x : Nat) : ∀ m, pcTo x m ≤ m := by
  intro m
  induction m with
  | zero => exact Nat.le_refl _
  | succ m ih => have := bitN_lt x m; show pcTo x m + bitN x m ≤ m + 1; omega
/-- The place ahead. -/
def prv (k : Nat) : Nat := if k = 0 then 2 else plc (k - 1)
def nextOK (k : Nat) : Bool := decide (isP (plc k) = false ∧ ((isP (prv k + 1) = false ∧ plc k = prv k + 1) ∨ (isP (prv k + 1) = true ∧ plc k = prv k + 1 + 1)) ∧ prv k < 4098 ∧ 2 ≤ prv k)
set_option maxRecDepth 100000 in
theorem next_all : ∀ k : Fin 2048, nextOK k.val = true := by decide +kernel
theorem next_at (k : Nat) (h : k < 2048) : isP (plc k) = false ∧ ((isP (prv k + 1) = false ∧ plc k = prv k + 1) ∨ (isP (prv k + 1) = true ∧ plc k = prv k + 1 + 1)) ∧ prv k < 4098 ∧ 2 ≤ prv k := by
  have := next_all ⟨k, h⟩
  unfold nextOK at this
  exact of_decide_eq_true this
/-- The twelve sums at block b. -/
def Sm (w : World) (b : Nat) (f : Nat → Nat) : Prop := w.heap[b]? = some (.cells ((List.range 12).map fun j => Value.int .i64 (f j : Int)).toArray 106 (0, 0))
theorem Sm.cell {w : World} {b : Nat} {f : Nat → Nat} (h : Sm w b f) (j : Nat) (hj : j < 12) : w.cell? ⟨b, j, none⟩ = some (.int .i64 (f j : Int)) ∧ w.frozen? ⟨b, j, none⟩ = false := by
  constructor
  · rw [cell_of_row _ _ j _ _ _ h, List.getElem?_toArray, List.getElem?_map, List.getElem?_range hj]
    rfl
  · simp [World.frozen?, show w.heap[b]? = _ from h]
theorem Sm.below {w w1 : World} {b : Nat} {f : Nat → Nat} (h : Sm w b f) (hb : Below w.heap.size w w1) : Sm w1 b f := (hb.block b (Array.getElem?_eq_some_iff.1 h).1).trans h
theorem Sm.set {w : World} {b : Nat} {f f' : Nat → Nat} (h : Sm w b f) (j : Nat) (hj : j < 12) (hf : ∀ i, i < 12 → i ≠ j → f' i = f i) : Sm (w.setCell ⟨b, j, none⟩ (.int .i64 (f' j : Int))) b f' := by
  have h1 := Go.Joins.block_setCell (i := j) h (.int .i64 (f' j : Int))
  unfold Sm
  rw [h1]
  congr 2
  apply Array.ext_getElem?
  intro i
  rw [Array.getElem?_setIfInBounds, List.getElem?_toArray, List.getElem?_toArray, List.getElem?_map, List.getElem?_map]
  by_cases hi : i < 12
  · rw [List.getElem?_range hi]
    by_cases e : j = i
    · subst e; simp [hi]
    · rw [if_neg e, Option.map_some, Option.map_some, hf i hi (fun h => e h.symm)]
  · have hn : (List.range 12)[i]? = none := List.getElem?_eq_none (by simp; omega)
    rw [hn, if_neg (by omega)]
    rfl
theorem Sm.congr {w : World} {b : Nat} {f f' : Nat → Nat} (h : Sm w b f) (hf : ∀ i, i < 12 → f' i = f i) : Sm w b f' := by
  unfold Sm at h ⊢
  rw [h]
  congr 3
  apply List.map_congr_left
  intro i hi
  rw [hf i (List.mem_range.1 hi)]
end Go.Proofs.YtljdfhckllncoaaK
