import Derived.Test.YtljdfhckllncoaaKShelf
import Derived.Test.YtljdfhckllncoaaKMa
namespace Go.Proofs.YtljdfhckllncoaaK
open Go.RowKit
set_option linter.unusedSimpArgs false
set_option linter.unusedVariables false
def bitN (x j : Nat) : Nat := x / 2 ^ j % 2
def dbit (bs : List UInt8) (i : Nat) : Nat := bitN (bs.getD (i / 8) 0).toNat (i % 8)
/-- The place of a data bit. -/
def plc (i : Nat) : Nat := (List.range 12).foldl (fun p j => if 2 ^ j ≤ p then p + 1 else p) (i + 1)
def foldS (bs : List UInt8) : Nat → Nat
  | 0 => 0
  | k + 1 => if dbit bs k = 1 then foldS bs k ^^^ plc k else foldS bs k
def foldT (bs : List UInt8) : Nat → Nat
  | 0 => 0
  | k + 1 => foldT bs k + dbit bs k
theorem bitN_lt (x j : Nat) : bitN x j < 2 := Nat.mod_lt _ (by decide)
/-- What the lowest bit of what is left of a byte is. -/
def tzOK (x m : Nat) : Bool :=
  let b := x / 2 ^ m * 2 ^ m
  if b = 0 then (List.range 8).all (fun q => m ≤ q → bitN x q = 0)
  else let t := Lib.trailingZeros8 b
    decide (b < 256 ∧ t < 8 ∧ m ≤ t ∧ bitN x t = 1 ∧ b &&& (b - 1) = x / 2 ^ (t + 1) * 2 ^ (t + 1)) && (List.range 8).all (fun q => (m ≤ q ∧ q < t) → bitN x q = 0)
set_option maxRecDepth 100000 in
theorem tz_all : ∀ (x : Fin 256) (m : Fin 9), tzOK x.val m.val = true := by decide +kernel
theorem tz_zero (x m : Nat) (hx : x < 256) (hm : m ≤ 8) (h0 : x / 2 ^ m * 2 ^ m = 0) : ∀ q, m ≤ q → q < 8 → bitN x q = 0 := by
  have h := tz_all ⟨x, hx⟩ ⟨m, by omega⟩
  unfold tzOK at h
  simp only [h0, if_true] at h
  intro q h1 h2
  have := List.all_eq_true.1 h q (List.mem_range.2 h2)
  simpa [h1] using this
theorem tz_pos (x m : Nat) (hx : x < 256) (hm : m ≤ 8) (h0 : x / 2 ^ m * 2 ^ m ≠ 0) :
    x / 2 ^ m * 2 ^ m < 256 ∧ Lib.trailingZeros8 (x / 2 ^ m * 2 ^ m) < 8 ∧ m ≤ Lib.trailingZeros8 (x / 2 ^ m * 2 ^ m) ∧ bitN x (Lib.trailingZeros8 (x / 2 ^ m * 2 ^ m)) = 1 ∧
    (x / 2 ^ m * 2 ^ m) &&& (x / 2 ^ m * 2 ^ m - 1) = x / 2 ^ (Lib.trailingZeros8 (x / 2 ^ m * 2 ^ m) + 1) * 2 ^ (Lib.trailingZeros8 (x / 2 ^ m * 2 ^ m) + 1) ∧
    ∀ q, m ≤ q → q < Lib.trailingZeros8 (x / 2 ^ m * 2 ^ m) → bitN x q = 0 := by
  have h := tz_all ⟨x, hx⟩ ⟨m, by omega⟩
  unfold tzOK at h
  simp only [if_neg h0, Bool.and_eq_true, decide_eq_true_eq] at h
  obtain ⟨⟨h1, h2, h3, h4, h5⟩, h6⟩ := h
  refine ⟨h1, h2, h3, h4, h5, fun q q1 q2 => ?_⟩
  have := List.all_eq_true.1 h6 q (List.mem_range.2 (by omega))
  simpa [q1, q2] using this
set_option maxRecDepth 100000 in
theorem ones_all : ∀ x : Fin 256, Lib.onesCount x.val = ((List.range 8).map (bitN x.val)).sum := by decide +kernel
theorem foldS_skip (bs : List UInt8) (a : Nat) : ∀ d, (∀ q, q < d → dbit bs (a + q) = 0) → foldS bs (a + d) = foldS bs a := by
  intro d
  induction d with
  | zero => intro _; rfl
  | succ d ih =>
    intro h
    have e : foldS bs (a + (d + 1)) = if dbit bs (a + d) = 1 then foldS bs (a + d) ^^^ plc (a + d) else foldS bs (a + d) := rfl
    rw [e, if_neg (by rw [h d (by omega)]; decide)]
    exact ih (fun q hq => h q (by omega))
theorem dbit_at (bs : List UInt8) (k q : Nat) (hq : q < 8) : dbit bs (8 * k + q) = bitN (bs.getD k 0).toNat q := by
  unfold dbit
  rw [show (8 * k + q) / 8 = k from by omega, show (8 * k + q) % 8 = q from by omega]
theorem foldT_byte (bs : List UInt8) (k : Nat) : foldT bs (8 * (k + 1)) = foldT bs (8 * k) + Lib.onesCount (bs.getD k 0).toNat := by
  have h := ones_all ⟨(bs.getD k 0).toNat, (bs.getD k 0).toNat_lt⟩
  have e : ∀ q, q < 8 → dbit bs (8 * k + q) = bitN (bs.getD k 0).toNat q := fun q hq => dbit_at bs k q hq
  rw [show Lib.onesCount (bs.getD k 0).toNat = _ from h]
  show foldT bs (8 * k + 7 + 1) = _
  simp only [foldT]
  have a0 := e 0 (by decide); have a1 := e 1 (by decide); have a2 := e 2 (by decide); have a3 := e 3 (by decide)
  have a4 := e 4 (by decide); have a5 := e 5 (by decide); have a6 := e 6 (by decide); have a7 := e 7 (by decide)
  have r : ((List.range 8).map (bitN (bs.getD k 0).toNat)).sum = bitN (bs.getD k 0).toNat 0 + (bitN (bs.getD k 0).toNat 1 + (bitN (bs.getD k 0).toNat 2 + (bitN (bs.getD k 0).toNat 3 + (bitN (bs.getD k 0).toNat 4 + (bitN (bs.getD k 0).toNat 5 + (bitN (bs.getD k 0).toNat 6 + (bitN (bs.getD k 0).toNat 7 + 0))))))) := rfl
  have r2 : ((List.range 8).map (bitN (⟨(bs.getD k 0).toNat, (bs.getD k 0).toNat_lt⟩ : Fin 256).val)).sum = ((List.range 8).map (bitN (bs.getD k 0).toNat)).sum := rfl
  rw [r2, r]
  rw [show 8 * k + 0 = 8 * k from rfl] at a0
  omega
set_option maxRecDepth 100000 in
/-- Places: each is below 4096, and 3 at least. -/
theorem plc_all : ∀ i : Fin 2048, plc i.val < 4096 ∧ 3 ≤ plc i.val := by decide +kernel
theorem plc_lt (i : Nat) (h : i < 2048) : plc i < 4096 := (plc_all ⟨i, h⟩).1
theorem foldS_lt (bs : List UInt8) : ∀ k, k ≤ 2048 → foldS bs k < 4096 := by
  intro k
  induction k with
  | zero => intro _; show 0 < 4096; decide
  | succ k ih =>
    intro h
    unfold foldS
    split
    · exact Nat.xor_lt_two_pow (n := 12) (ih (by omega)) (plc_lt k (by omega))
    · exact ih (by omega)
theorem foldT_le (bs : List UInt8) : ∀ k, foldT bs k ≤ k := by
  intro k
  induction k with
  | zero => exact Nat.le_refl _
  | succ k ih =>
    have := bitN_lt (bs.getD (k / 8) 0).toNat (k % 8)
    show foldT bs k + dbit bs k ≤ k + 1
    unfold dbit
    omega
end Go.Proofs.YtljdfhckllncoaaK
