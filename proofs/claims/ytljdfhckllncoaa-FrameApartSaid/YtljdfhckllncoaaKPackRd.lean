import Derived.Test.YtljdfhckllncoaaKPackF
import Derived.Test.YtljdfhckllncoaaKPackBk
import Derived.Deep.QuietTactic
import Derived.BigQuiet
namespace Go.Proofs.YtljdfhckllncoaaK
open Go.RowKit
set_option linter.unusedSimpArgs false
set_option linter.unusedVariables false
theorem rdLeft_len (bs : List UInt8) (s : Int) : (rdLeft bs s).length ≤ bs.length := by
  unfold rdLeft
  split <;> simp
theorem rdTake_len (bs : List UInt8) (s : Int) : (rdTake bs s).length ≤ bs.length := by
  unfold rdTake
  split <;> simp
  omega
theorem Rdr.below {w w1 : World} {b D : Nat} {bs : List UInt8} {bad : Bool} (h : Rdr w b D bs bad) (hb : Below w.heap.size w w1) : Rdr w1 b D bs bad := by
  obtain ⟨A, c, h1, h2, h3⟩ := h
  exact ⟨A, c, (hb.block b (lt_of h1)).trans h1, h2.below hb, h3⟩
/-- A store into another block. -/
theorem Rdr.set {w : World} {b D : Nat} {bs : List UInt8} {bad : Bool} (h : Rdr w b D bs bad) {p : Addr} (h1 : p.block ≠ b) (h2 : p.block ≠ D) (u : Value) : Rdr (w.setCell p u) b D bs bad := by
  obtain ⟨A, c, k1, k2, k3⟩ := h
  refine ⟨A, c, (Below.heap_setCell w p u b (Ne.symm h1)).trans k1, ?_, k3⟩
  obtain ⟨A', c', e, e1, e2, e3⟩ := k2
  injection e with f1 f2 f3
  subst f1 f3
  refine ⟨A, c, rfl, e1, e2, fun j x hx => ?_⟩
  obtain ⟨a, ha, hc⟩ := e3 j x hx
  refine ⟨a, ha, ?_⟩
  have hne : bs ≠ [] := by rintro rfl; simp at hx
  obtain ⟨a2, ha2, hD⟩ := k3 hne
  rw [ha] at ha2
  injection ha2 with ha2
  have hb : (a.add j).block = D := by rw [← hD, ← ha2]; unfold Addr.add; split <;> rfl
  rw [World.cell?_setCell_other w p (a.add j) u (fun e => h2 (by rw [e]; exact hb))]
  exact hc
theorem Eye.below {w w1 : World} {b : Nat} {A : Option Addr} {n c i : Nat} {bad : Bool} (h : Eye w b A n c i bad) (hb : Below w.heap.size w w1) : Eye w1 b A n c i bad := (hb.block b (lt_of h)).trans h
theorem Eye.set {w : World} {b : Nat} {A : Option Addr} {n c i : Nat} {bad : Bool} (h : Eye w b A n c i bad) {p : Addr} (h1 : p.block ≠ b) (u : Value) : Eye (w.setCell p u) b A n c i bad := (Below.heap_setCell w p u b (Ne.symm h1)).trans h
theorem Eye.row {w w1 : World} {b b2 : Nat} {A : Option Addr} {n c i : Nat} {bad : Bool} (h : Eye w b A n c i bad) (hg : w.grownBy w1 (some b2)) (hne : b ≠ b2) : Eye w1 b A n c i bad := (hg.block b (lt_of h) (by simpa using hne)).trans h
/-- The row of another thing has turned. -/
theorem Rdr.row {w w1 : World} {b D b2 : Nat} {bs : List UInt8} {bad : Bool} (h : Rdr w b D bs bad) (hg : w.grownBy w1 (some b2)) (h1 : b ≠ b2) (h2 : D ≠ b2) : Rdr w1 b D bs bad := by
  obtain ⟨A, c, k1, k2, k3⟩ := h
  refine ⟨A, c, (hg.block b (lt_of k1) (by simpa using h1)).trans k1, ?_, k3⟩
  obtain ⟨A', c', e, e1, e2, e3⟩ := k2
  injection e with f1 f2 f3
  subst f1 f3
  refine ⟨A, c, rfl, e1, e2, fun j x hx => ?_⟩
  obtain ⟨a, ha, hc⟩ := e3 j x hx
  refine ⟨a, ha, ?_⟩
  have hne : bs ≠ [] := by rintro rfl; simp at hx
  obtain ⟨a2, ha2, hD⟩ := k3 hne
  rw [ha] at ha2
  injection ha2 with ha2
  have hb : (a.add j).block = D := by rw [← hD, ← ha2]; unfold Addr.add; split <;> rfl
  exact hg.cell hc (by rw [hb]; simpa using h2)
theorem below_drewN {B : Nat} {w w1 : World} {k : Nat} (h : Below B w w1) : Below B w (w1.drewN k) := ⟨h.os, h.tape, h.output, h.size, h.block⟩
theorem i64_and_one (x : Nat) : bits .and .i64 (x : Int) 1 = ((x % 2 : Nat) : Int) := by
  have h127 : (BitVec.ofInt 64 1).toNat = 2 ^ 1 - 1 := by decide
  have key : (BitVec.ofInt 64 (x : Int) &&& BitVec.ofInt 64 1).toNat = ((x : Int) % ((2 ^ 64 : Nat) : Int)).toNat % 2 ^ 1 := by
    rw [BitVec.toNat_and, BitVec.toNat_ofInt, h127, Nat.and_two_pow_sub_one_eq_mod]
  show IntKind.i64.wrap ((BitVec.ofInt 64 (x : Int) &&& BitVec.ofInt 64 1).toNat : Nat) = ((x % 2 : Nat) : Int)
  rw [key, IntKind.wrap_i64]
  omega
end Go.Proofs.YtljdfhckllncoaaK
