import Derived.Test.YtljdfhckllncoaaKHamX
namespace Go.Proofs.YtljdfhckllncoaaK
open Go.RowKit
set_option linter.unusedSimpArgs false
set_option linter.unusedVariables false
theorem bitJ (x j : Nat) (hx : x < 65536) : bits .and .i64 ((x : Int) / (2 : Int) ^ j) 1 = (bitN x j : Int) := by
  have e : (x : Int) / (2 : Int) ^ j = ((x / 2 ^ j : Nat) : Int) := by
    rw [Int.natCast_ediv]; congr 1
  have hd : x / 2 ^ j < 65536 := Nat.lt_of_le_of_lt (Nat.div_le_self _ _) hx
  rw [e]
  show IntKind.i64.wrap (((BitVec.ofInt 64 ((x / 2 ^ j : Nat) : Int)) &&& (BitVec.ofInt 64 ((1 : Nat) : Int))).toNat : Int) = ((x / 2 ^ j % 2 : Nat) : Int)
  rw [BitVec.ofInt_natCast, BitVec.ofInt_natCast, BitVec.toNat_and, BitVec.toNat_ofNat, BitVec.toNat_ofNat, Nat.mod_eq_of_lt (by omega), Nat.mod_eq_of_lt (by omega), Nat.and_one_is_mod, IntKind.wrap_i64]
  omega
theorem bit_xor_bit (a b j : Nat) : bits .xor .i64 (bitN a j : Int) (bitN b j : Int) = (bitN (a ^^^ b) j : Int) := by
  have h1 := bitN_lt a j
  have h2 := bitN_lt b j
  rw [i64_xor_nat _ _ (by omega) (by omega), bitN_xor]
  have e : ∀ x y : Fin 2, x.val ^^^ y.val = (x.val + y.val) % 2 := by decide
  have := e ⟨bitN a j, h1⟩ ⟨bitN b j, h2⟩
  simp only at this
  rw [this]
theorem chk_low (bs : List UInt8) (c : Nat) : (chk bs ^^^ c) % 4096 = foldS bs 2048 ^^^ (c % 4096) := by
  have h1 := Nat.xor_mod_two_pow (a := chk bs) (b := c) (n := 12)
  rw [show (2 : Nat) ^ 12 = 4096 from rfl] at h1
  have h2 := foldS_lt bs 2048 (Nat.le_refl _)
  have h3 : chk bs % 4096 = foldS bs 2048 := by unfold chk; omega
  rw [h1, h3]
theorem bitN_mod (c j : Nat) (hj : j < 13) : bitN (c % 8192) j = bitN c j := by
  unfold bitN
  have h := Nat.testBit_mod_two_pow c 13 j
  rw [show (2 : Nat) ^ 13 = 8192 from rfl] at h
  have e : ∀ x : Nat, x / 2 ^ j % 2 = (x.testBit j).toNat := fun x => by rw [Nat.toNat_testBit]
  rw [e, e, h]
  simp [hj]
theorem pcTo_mod (c : Nat) : ∀ m, m ≤ 13 → pcTo (c % 8192) m = pcTo c m := by
  intro m
  induction m with
  | zero => intro _; rfl
  | succ m ih =>
    intro h
    show pcTo (c % 8192) m + bitN (c % 8192) m = pcTo c m + bitN c m
    rw [ih (by omega), bitN_mod c m (by omega)]
set_option maxRecDepth 100000 in
theorem pop8_par : ∀ y : Fin 256, Lib.pop8 (y.val : Int) = (pcTo y.val 8 : Int) := by decide +kernel
theorem bitN_hi (c j : Nat) : bitN c (8 + j) = bitN (c / 256) j := by
  unfold bitN
  rw [Nat.pow_add, show (2 : Nat) ^ 8 = 256 from rfl, Nat.div_div_eq_div_mul]
theorem bitN_lo (c j : Nat) (hj : j < 8) : bitN (c % 256) j = bitN c j := by
  unfold bitN
  have h := Nat.testBit_mod_two_pow c 8 j
  rw [show (2 : Nat) ^ 8 = 256 from rfl] at h
  have e : ∀ x : Nat, x / 2 ^ j % 2 = (x.testBit j).toNat := fun x => by rw [Nat.toNat_testBit]
  rw [e, e, h]
  simp [hj]
theorem pcTo_lo (c : Nat) : ∀ m, m ≤ 8 → pcTo (c % 256) m = pcTo c m := by
  intro m
  induction m with
  | zero => intro _; rfl
  | succ m ih =>
    intro h
    show pcTo (c % 256) m + bitN (c % 256) m = pcTo c m + bitN c m
    rw [ih (by omega), bitN_lo c m (by omega)]
theorem pcTo_hi (c : Nat) : ∀ m, pcTo c (8 + m) = pcTo c 8 + pcTo (c / 256) m := by
  intro m
  induction m with
  | zero => rfl
  | succ m ih =>
    show pcTo c (8 + m) + bitN c (8 + m) = pcTo c 8 + (pcTo (c / 256) m + bitN (c / 256) m)
    rw [ih, bitN_hi]; omega
theorem bitN_small (h j : Nat) (hh : h < 32) (hj : 5 ≤ j) : bitN h j = 0 := by
  unfold bitN
  have : 2 ^ 5 ≤ 2 ^ j := Nat.pow_le_pow_right (by decide) hj
  rw [Nat.div_eq_of_lt (by omega)]
theorem pc16_eq (d : Nat) (hd : d < 8192) : pc16 d = pcTo d 13 := by
  have h1 := pop8_par ⟨d / 256, by omega⟩
  have h2 := pop8_par ⟨d % 256, by omega⟩
  simp only at h1 h2
  have h3 : pcTo (d / 256) 8 = pcTo (d / 256) 5 := by
    have e : ∀ j, 5 ≤ j → bitN (d / 256) j = 0 := fun j hj => bitN_small _ j (by omega) hj
    show pcTo (d / 256) 5 + bitN (d / 256) 5 + bitN (d / 256) 6 + bitN (d / 256) 7 = _
    rw [e 5 (by omega), e 6 (by omega), e 7 (by omega)]
    omega
  have h4 := pcTo_hi d 5
  have h5 := pcTo_lo d 8 (by omega)
  unfold pc16
  rw [h1, h2, show 13 = 8 + 5 from rfl, h4, h5, h3]
  omega
theorem pc16_par (c : Nat) : pc16 (c % 8192) % 2 = pcTo c 13 % 2 := by
  rw [pc16_eq _ (Nat.mod_lt _ (by decide)), pcTo_mod c 13 (Nat.le_refl _)]
set_option maxRecDepth 100000 in
theorem pow_all : ∀ s : Fin 4096, powB s.val = (decide (s.val = 0) || isP s.val) := by decide +kernel
set_option maxRecDepth 100000 in
theorem back_all : ∀ k : Fin 2048, plc k.val - 1 - Lib.bitLen (plc k.val) = k.val := by decide +kernel
def findOK (s : Nat) : Bool := powB s || (decide (2048 ≤ s - 1 - Lib.bitLen s) || decide (plc (s - 1 - Lib.bitLen s) = s))
set_option maxRecDepth 100000 in
theorem find_all : ∀ s : Fin 4096, findOK s.val = true := by decide +kernel
end Go.Proofs.YtljdfhckllncoaaK
