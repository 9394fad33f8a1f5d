import Derived.Test.YtljdfhckllncoaaKHamX
import Derived.Test.YtljdfhckllncoaaKMa
namespace Go.Proofs.YtljdfhckllncoaaK
open Go.RowKit
set_option linter.unusedSimpArgs false
set_option linter.unusedVariables false
theorem zeroD_len : zeroD.length = 256 := List.length_replicate
theorem fixR_len (bs : List UInt8) (hl : bs.length = 256) (c : Nat) : (fixR bs c).1.length = 256 := by
  have hf : ∀ i, (flipD bs i).length = 256 := fun i => by unfold flipD; rw [List.length_set]; exact hl
  unfold fixR
  split
  · exact hl
  · split
    · exact zeroD_len
    · split
      · exact hl
      · split
        · exact zeroD_len
        · exact hf _
theorem fixR_err (bs : List UInt8) (c : Nat) : (fixR bs c).2.1 ≤ 1 ∧ (fixR bs c).2.2 ≤ 21 := by
  have h : ∀ (x : List UInt8) (n e : Nat), n ≤ 1 → e ≤ 21 → ((x, n, e) : List UInt8 × Nat × Nat).2.1 ≤ 1 ∧ ((x, n, e) : List UInt8 × Nat × Nat).2.2 ≤ 21 := fun _ _ _ h1 h2 => ⟨h1, h2⟩
  unfold fixR
  split
  · exact h _ _ _ (by decide) (by decide)
  · split
    · exact h _ _ _ (by decide) (by decide)
    · split
      · exact h _ _ _ (by decide) (by decide)
      · split
        · exact h _ _ _ (by decide) (by decide)
        · exact h _ _ _ (by decide) (by decide)
theorem u16_and_nat (a b : Nat) (ha : a < 65536) (hb : b < 65536) : bits .and .u16 (a : Int) (b : Int) = ((a &&& b : Nat) : Int) := by
  have h := Nat.and_lt_two_pow (n := 16) a hb
  show IntKind.u16.wrap (((BitVec.ofInt 16 (a : Int)) &&& (BitVec.ofInt 16 (b : Int))).toNat : Int) = _
  rw [BitVec.ofInt_natCast, BitVec.ofInt_natCast, BitVec.toNat_and, BitVec.toNat_ofNat, BitVec.toNat_ofNat, Nat.mod_eq_of_lt (by omega), Nat.mod_eq_of_lt (by omega), IntKind.wrap_u16]
  omega
theorem u16_xor_nat (a b : Nat) (ha : a < 65536) (hb : b < 65536) : bits .xor .u16 (a : Int) (b : Int) = ((a ^^^ b : Nat) : Int) := by
  have h := Nat.xor_lt_two_pow (n := 16) ha hb
  show IntKind.u16.wrap (((BitVec.ofInt 16 (a : Int)) ^^^ (BitVec.ofInt 16 (b : Int))).toNat : Int) = _
  rw [BitVec.ofInt_natCast, BitVec.ofInt_natCast, BitVec.toNat_xor, BitVec.toNat_ofNat, BitVec.toNat_ofNat, Nat.mod_eq_of_lt (by omega), Nat.mod_eq_of_lt (by omega), IntKind.wrap_u16]
  omega
theorem above_mod (c a : Nat) : (c ^^^ (a &&& 57344)) % 8192 = c % 8192 := by
  have h1 := Nat.xor_mod_two_pow (a := c) (b := a &&& 57344) (n := 13)
  have h2 := Nat.and_mod_two_pow (a := a) (b := 57344) (n := 13)
  rw [show (2 : Nat) ^ 13 = 8192 from rfl] at h1 h2
  rw [h1, h2, show 57344 % 8192 = 0 from rfl, Nat.and_zero, Nat.xor_zero]
theorem fixR_mod (bs : List UInt8) (c c' : Nat) (h : c' % 8192 = c % 8192) : fixR bs c' = fixR bs c := by
  have h2 : c' % 4096 = c % 4096 := by omega
  unfold fixR
  rw [h, h2]
theorem size_setC (w : World) (o : Obj) (vs : List Value) : w.heap.size < ((w.alloc o).setCells w.heap.size 0 vs).heap.size := by
  have h : ∀ (vs : List Value) (b k : Nat) (w : World), w.heap.size ≤ (w.setCells b k vs).heap.size := by
    intro vs
    induction vs with
    | nil => intro b k w; exact Nat.le_refl _
    | cons v r ih => intro b k w; rw [World.setCells]; exact Nat.le_trans (by simp) (ih b (k + 1) _)
  have h1 := h vs w.heap.size 0 (w.alloc o)
  have h2 : (w.alloc o).heap.size = w.heap.size + 1 := by simp
  omega
end Go.Proofs.YtljdfhckllncoaaK
