import Derived.WalkKit
namespace Go.Proofs.YtljdfhckllncoaaK
open Go.RowKit
set_option linter.unusedSimpArgs false
set_option linter.unusedVariables false
/-! Check sums over BitVec 32: plain laws, no program. -/
abbrev B32 := BitVec 32
theorem u32_xor (a b : B32) : bits .xor .u32 (a.toNat : Int) (b.toNat : Int) = ((a ^^^ b).toNat : Int) := by
  have ha : BitVec.ofInt 32 (a.toNat : Int) = a := by rw [BitVec.ofInt_natCast, BitVec.ofNat_toNat, BitVec.setWidth_eq]
  have hb : BitVec.ofInt 32 (b.toNat : Int) = b := by rw [BitVec.ofInt_natCast, BitVec.ofNat_toNat, BitVec.setWidth_eq]
  show IntKind.u32.wrap (((BitVec.ofInt 32 (a.toNat : Int)) ^^^ (BitVec.ofInt 32 (b.toNat : Int))).toNat : Int) = _
  rw [ha, hb, IntKind.wrap_u32]
  have := (a ^^^ b).isLt
  omega
theorem u32_and (a b : B32) : bits .and .u32 (a.toNat : Int) (b.toNat : Int) = ((a &&& b).toNat : Int) := by
  have ha : BitVec.ofInt 32 (a.toNat : Int) = a := by rw [BitVec.ofInt_natCast, BitVec.ofNat_toNat, BitVec.setWidth_eq]
  have hb : BitVec.ofInt 32 (b.toNat : Int) = b := by rw [BitVec.ofInt_natCast, BitVec.ofNat_toNat, BitVec.setWidth_eq]
  show IntKind.u32.wrap (((BitVec.ofInt 32 (a.toNat : Int)) &&& (BitVec.ofInt 32 (b.toNat : Int))).toNat : Int) = _
  rw [ha, hb, IntKind.wrap_u32]
  have := (a &&& b).isLt
  omega
theorem u32_half (a : B32) : (a.toNat : Int) / (2 : Int) = ((a >>> 1).toNat : Int) := by
  rw [BitVec.toNat_ushiftRight, Nat.shiftRight_eq_div_pow]; omega
theorem u32_neg (a : B32) : (-(a.toNat : Int)) % 4294967296 = ((-a).toNat : Int) := by
  rw [BitVec.toNat_neg]
  have := a.isLt
  omega
def poly : B32 := 3988292384#32
def step (c : B32) : B32 := (c >>> 1) ^^^ (poly &&& -(c &&& 1#32))
def steps : Nat → B32 → B32
  | 0, c => c
  | n + 1, c => step (steps n c)
def byteB (b : UInt8) : B32 := BitVec.ofNat 32 b.toNat
theorem byteB_toNat (b : UInt8) : (byteB b).toNat = b.toNat := by
  have := b.toNat_lt
  simp [byteB]
def crcByte (c : B32) (b : UInt8) : B32 := steps 8 (c ^^^ byteB b)
def crcBytes (c : B32) (bs : List UInt8) : B32 := bs.foldl crcByte c
def crcF (c : B32) (bs : List UInt8) : B32 := ~~~ crcBytes (~~~ c) bs
theorem u32_not (a : B32) : bits .xor .u32 4294967295 (a.toNat : Int) = ((~~~a).toNat : Int) := by
  have h := u32_xor (BitVec.allOnes 32) a
  rw [BitVec.allOnes_xor] at h
  rw [← h]; rfl
theorem u32_not' (a : B32) : bits .xor .u32 (a.toNat : Int) 4294967295 = ((~~~a).toNat : Int) := by
  have h := u32_xor a (BitVec.allOnes 32)
  rw [BitVec.xor_allOnes] at h
  rw [← h]; rfl
/-- One round of the inner loop, as the walk spells it. -/
theorem u32_step (c : B32) : bits .xor .u32 ((c.toNat : Int) / (2 : Int)) (bits .and .u32 3988292384 (-bits .and .u32 (c.toNat : Int) 1 % 4294967296)) = ((step c).toNat : Int) := by
  have h1 : bits .and .u32 (c.toNat : Int) 1 = ((c &&& 1#32).toNat : Int) := u32_and c 1#32
  rw [h1, u32_neg]
  have h2 := u32_and poly (-(c &&& 1#32))
  have h3 : (poly.toNat : Int) = 3988292384 := rfl
  rw [h3] at h2
  rw [h2, show (c.toNat : Int) / (2 : Int) = ((c >>> 1).toNat : Int) from u32_half c, u32_xor]; rfl
theorem u32_byte (c : B32) (b : UInt8) : bits .xor .u32 (c.toNat : Int) (b.toNat : Int) = ((c ^^^ byteB b).toNat : Int) := by
  rw [← byteB_toNat b, u32_xor]
/-! ### linear, injective -/
theorem and_one (c : B32) : c &&& 1#32 = if c.getLsbD 0 then 1#32 else 0#32 := by
  apply BitVec.eq_of_getLsbD_eq
  intro i hi
  rw [BitVec.getLsbD_and]
  rcases Nat.eq_zero_or_pos i with h0 | h0
  · subst h0
    obtain ⟨x, hx⟩ : ∃ x, c.getLsbD 0 = x := ⟨_, rfl⟩
    rw [hx]
    cases x <;> rfl
  · have : (1#32 : B32).getLsbD i = false := by
      rw [BitVec.getLsbD_one]; simp; omega
    rw [this]
    obtain ⟨x, hx⟩ : ∃ x, c.getLsbD 0 = x := ⟨_, rfl⟩
    rw [hx]
    cases x
    · simp
    · simp [this]
theorem step_eq (c : B32) : step c = (c >>> 1) ^^^ (if c.getLsbD 0 then poly else 0#32) := by
  unfold step
  rw [and_one]
  obtain ⟨x, hx⟩ : ∃ x, c.getLsbD 0 = x := ⟨_, rfl⟩
  rw [hx]
  cases x
  · congr 1
  · congr 1
theorem step_xor (a b : B32) : step (a ^^^ b) = step a ^^^ step b := by
  rw [step_eq, step_eq, step_eq, BitVec.ushiftRight_xor_distrib, BitVec.getLsbD_xor]
  obtain ⟨x, hx⟩ : ∃ x, a.getLsbD 0 = x := ⟨_, rfl⟩
  obtain ⟨y, hy⟩ : ∃ y, b.getLsbD 0 = y := ⟨_, rfl⟩
  rw [hx, hy]
  cases x <;> cases y <;> simp only [Bool.xor_false, Bool.xor_true, Bool.false_xor, Bool.true_xor, Bool.not_true, Bool.not_false, if_true, if_false, Bool.false_eq_true, BitVec.xor_zero, ↓reduceIte]
  · ac_rfl
  · ac_rfl
  · rw [show a >>> 1 ^^^ poly ^^^ (b >>> 1 ^^^ poly) = a >>> 1 ^^^ b >>> 1 ^^^ (poly ^^^ poly) from by ac_rfl, BitVec.xor_self, BitVec.xor_zero]
theorem step_zero : step 0#32 = 0#32 := by decide
theorem step_inj0 (a : B32) (h : step a = 0#32) : a = 0#32 := by
  rw [step_eq] at h
  have h31 := congrArg (fun x => x.getLsbD 31) h
  by_cases ha : a.getLsbD 0 = true
  · simp [ha, BitVec.getLsbD_ushiftRight, poly] at h31
  · simp only [ha, Bool.false_eq_true, if_false, BitVec.xor_zero] at h
    apply BitVec.eq_of_getLsbD_eq
    intro i hi
    rcases Nat.eq_zero_or_pos i with h0 | h0
    · subst h0; simpa using ha
    · have := congrArg (fun x => x.getLsbD (i - 1)) h
      simp only [BitVec.getLsbD_ushiftRight, BitVec.getLsbD_zero] at this
      rw [BitVec.getLsbD_zero, ← this]
      congr 1
      omega
theorem steps_xor (n : Nat) (a b : B32) : steps n (a ^^^ b) = steps n a ^^^ steps n b := by
  induction n with
  | zero => rfl
  | succ n ih => simp only [steps, ih, step_xor]
theorem steps_zero (n : Nat) : steps n 0#32 = 0#32 := by
  induction n with
  | zero => rfl
  | succ n ih => simp only [steps, ih, step_zero]
theorem steps_inj0 (n : Nat) (a : B32) (h : steps n a = 0#32) : a = 0#32 := by
  induction n with
  | zero => exact h
  | succ n ih => exact ih (step_inj0 _ h)
theorem steps_add (n m : Nat) (a : B32) : steps (n + m) a = steps n (steps m a) := by
  induction n with
  | zero => simp [steps]
  | succ n ih => rw [Nat.succ_add]; simp only [steps, ih]
theorem crcBytes_snoc (c : B32) (l : List UInt8) (b : UInt8) : crcBytes c (l ++ [b]) = crcByte (crcBytes c l) b := by simp [crcBytes]
theorem crcBytes_append (c : B32) (l m : List UInt8) : crcBytes c (l ++ m) = crcBytes (crcBytes c l) m := by simp [crcBytes]
theorem crcF_append (c : B32) (l m : List UInt8) : crcF c (l ++ m) = crcF (crcF c l) m := by simp [crcF, crcBytes_append]
theorem crcF_nil (c : B32) : crcF c [] = c := by simp [crcF, crcBytes]
/-! ### the reference's round: bit by bit -/
/-- Behind k rounds with byte b: the reference's state c, the program's own is c ^^^ (b >>> k). -/
def refRound (c : B32) (bit : Bool) : B32 := if bit then (c >>> 1) ^^^ poly else c >>> 1
def refBit (c : B32) (b : UInt8) (k : Nat) : Bool := c.getLsbD 0 ^^ (byteB b).getLsbD k
def refRounds (b : UInt8) : Nat → B32 → B32
  | 0, c => c
  | k + 1, c => refRound (refRounds b k c) (refBit (refRounds b k c) b k)
theorem byteB_high (b : UInt8) (i : Nat) (h : 8 ≤ i) : (byteB b).getLsbD i = false := by
  have hb := b.toNat_lt
  unfold byteB
  rw [BitVec.getLsbD_ofNat]
  have : b.toNat.testBit i = false := Nat.testBit_lt_two_pow (Nat.lt_of_lt_of_le hb (Nat.pow_le_pow_right (by decide) h))
  simp [this]
theorem refRounds_eq (b : UInt8) (c : B32) (k : Nat) : steps k (c ^^^ byteB b) = refRounds b k c ^^^ (byteB b >>> k) := by
  induction k with
  | zero => simp [steps, refRounds]
  | succ k ih =>
    simp only [steps, refRounds, ih]
    rw [step_eq, BitVec.getLsbD_xor, BitVec.getLsbD_ushiftRight, BitVec.ushiftRight_xor_distrib]
    have h1 : byteB b >>> k >>> 1 = byteB b >>> (k + 1) := by rw [BitVec.shiftRight_add]
    rw [h1]
    unfold refRound refBit
    simp only [Nat.add_zero]
    by_cases hx : ((refRounds b k c).getLsbD 0 ^^ (byteB b).getLsbD k) = true
    · simp only [hx, if_true]; ac_rfl
    · simp only [hx, if_false, Bool.false_eq_true, BitVec.xor_zero]
theorem refRounds_byte (b : UInt8) (c : B32) : refRounds b 8 c = crcByte c b := by
  unfold crcByte
  rw [refRounds_eq]
  have : byteB b >>> 8 = 0#32 := by
    apply BitVec.eq_of_getLsbD_eq
    intro i hi
    rw [BitVec.getLsbD_ushiftRight, byteB_high b _ (by omega), BitVec.getLsbD_zero]
  rw [this, BitVec.xor_zero]
/-- The reference's test, as the walk spells it. -/
theorem ref_test (c : B32) (x : UInt8) (m : Nat) :
    (bits .xor .u32 (bits .and .u32 (c.toNat : Int) 1) (bits .and .u32 ((x.toNat : Int) / (2 : Int) ^ m) 1) == (1 : Int)) = refBit c x m := by
  have h0 : ((x.toNat : Int) / (2 : Int) ^ m) = ((byteB x >>> m).toNat : Int) := by
    rw [BitVec.toNat_ushiftRight, byteB_toNat, Nat.shiftRight_eq_div_pow]
    simp
  have h1 : ∀ a : B32, bits .and .u32 (a.toNat : Int) 1 = ((a &&& 1#32).toNat : Int) := fun a => u32_and a 1#32
  have h2 : (byteB x >>> m).getLsbD 0 = (byteB x).getLsbD m := by rw [BitVec.getLsbD_ushiftRight]; rfl
  rw [h0, h1, h1, u32_xor, and_one, and_one]
  unfold refBit
  rw [h2]
  obtain ⟨p, hp⟩ : ∃ x, c.getLsbD 0 = x := ⟨_, rfl⟩
  obtain ⟨q, hq⟩ : ∃ z, (byteB x).getLsbD m = z := ⟨_, rfl⟩
  rw [hp, hq]
  cases p <;> cases q <;> rfl
theorem ref_yes (c : B32) (x : UInt8) (m : Nat) (h : (bits .xor .u32 (bits .and .u32 (c.toNat : Int) 1) (bits .and .u32 ((x.toNat : Int) / (2 : Int) ^ m) 1) == (1 : Int)) = true) :
    bits .xor .u32 ((c.toNat : Int) / (2 : Int)) 3988292384 = ((refRound c (refBit c x m)).toNat : Int) := by
  rw [ref_test] at h
  rw [h, u32_half]
  exact u32_xor (c >>> 1) poly
theorem ref_no (c : B32) (x : UInt8) (m : Nat) (h : (bits .xor .u32 (bits .and .u32 (c.toNat : Int) 1) (bits .and .u32 ((x.toNat : Int) / (2 : Int) ^ m) 1) == (1 : Int)) = false) :
    (c.toNat : Int) / (2 : Int) = ((refRound c (refBit c x m)).toNat : Int) := by
  rw [ref_test] at h
  rw [h, u32_half]; rfl
/-- A number of 32 bits is a state. -/
theorem b32_of {a : Int} (h0 : 0 ≤ a) (h1 : a ≤ 4294967295) : a = ((BitVec.ofNat 32 a.toNat).toNat : Int) := by
  rw [BitVec.toNat_ofNat]; omega
end Go.Proofs.YtljdfhckllncoaaK
