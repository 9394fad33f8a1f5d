import Derived.Test.YtcknoadoeonbjaaKCrcPure
namespace Go.Proofs.YtcknoadoeonbjaaK
open Go.RowKit
set_option linter.unusedSimpArgs false
set_option linter.unusedVariables false
/-! Turned bits and the check sum. -/
theorem byteB_xor (a b : UInt8) : byteB (a ^^^ b) = byteB a ^^^ byteB b := by
  apply BitVec.eq_of_toNat_eq
  rw [BitVec.toNat_xor, byteB_toNat, byteB_toNat, byteB_toNat, UInt8.toNat_xor]
theorem crcByte_xor (c e : B32) (b : UInt8) : crcByte (c ^^^ e) b = crcByte c b ^^^ steps 8 e := by
  unfold crcByte
  rw [← steps_xor]
  congr 1
  ac_rfl
theorem crcBytes_xor (ys : List UInt8) : ∀ c e : B32, crcBytes (c ^^^ e) ys = crcBytes c ys ^^^ steps (8 * ys.length) e := by
  induction ys with
  | nil => intro c e; rfl
  | cons b ys ih =>
    intro c e
    show crcBytes (crcByte (c ^^^ e) b) ys = crcBytes (crcByte c b) ys ^^^ _
    rw [crcByte_xor, ih, ← steps_add]
    congr 2
theorem crcByte_turn (c : B32) (b d : UInt8) : crcByte c (b ^^^ d) = crcByte c b ^^^ steps 8 (byteB d) := by
  unfold crcByte
  rw [byteB_xor, ← steps_xor]
  congr 1
  ac_rfl
/-- One bit of a byte turned: 1 << i. -/
def bitB (i : Nat) : UInt8 := UInt8.ofNat (2 ^ i)
def turn (bs : List UInt8) (x : Nat) : List UInt8 := bs.set (x / 8) ((bs.getD (x / 8) 0) ^^^ bitB (x % 8))
theorem turn_length (bs : List UInt8) (x : Nat) : (turn bs x).length = bs.length := by simp [turn]
theorem steps_bit : ∀ i : Fin 8, steps i.val (byteB (bitB i.val)) = 1#32 := by decide +kernel
theorem crc_turn (c : B32) (bs : List UInt8) (x : Nat) (h : x < 8 * bs.length) : crcBytes c (turn bs x) = crcBytes c bs ^^^ steps (8 * bs.length - x) 1#32 := by
  have hq : x / 8 < bs.length := by omega
  have hsplit : bs = bs.take (x / 8) ++ bs[x / 8] :: bs.drop (x / 8 + 1) := by simp
  have hturn : turn bs x = bs.take (x / 8) ++ (bs[x / 8] ^^^ bitB (x % 8)) :: bs.drop (x / 8 + 1) := by
    unfold turn
    rw [List.set_eq_take_append_cons_drop, if_pos hq, List.getD_eq_getElem?_getD, List.getElem?_eq_getElem hq]
    rfl
  have h8 : x % 8 < 8 := Nat.mod_lt _ (by decide)
  have e1 : crcBytes c bs = crcBytes (crcByte (crcBytes c (bs.take (x / 8))) bs[x / 8]) (bs.drop (x / 8 + 1)) := by
    conv => lhs; rw [hsplit, crcBytes_append]
    rfl
  rw [hturn, crcBytes_append, e1]
  show crcBytes (crcByte (crcBytes c (bs.take (x / 8))) (bs[x / 8] ^^^ bitB (x % 8))) (bs.drop (x / 8 + 1)) = _
  rw [crcByte_turn, crcBytes_xor, ← steps_add]
  congr 1
  have hs := steps_bit ⟨x % 8, h8⟩
  simp only at hs
  rw [← hs, ← steps_add]
  congr 1
  simp only [List.length_drop]
  omega
theorem steps_one_ne (n : Nat) : steps n 1#32 ≠ 0#32 := fun h => by
  have := steps_inj0 n _ h
  exact absurd this (by decide)
/-- No power of the step below 2048 comes back to 1. -/
def noBack : Nat → B32 → Bool
  | 0, _ => true
  | n + 1, c => if step c = 1#32 then false else noBack n (step c)
theorem noBack_ok : noBack 2047 1#32 = true := by decide +kernel
theorem noBack_all : ∀ (n : Nat) (c : B32), noBack n c = true → ∀ d, 0 < d → d ≤ n → steps d c ≠ 1#32
  | 0, _, _, d, h0, h1 => by omega
  | n + 1, c, h, d, h0, h1 => by
    unfold noBack at h
    split at h
    · cases h
    · rename_i hne
      rcases Nat.eq_or_lt_of_le (show 1 ≤ d from h0) with h2 | h2
      · subst h2; exact hne
      · obtain ⟨d', rfl⟩ : ∃ d', d = d' + 1 := ⟨d - 1, by omega⟩
        have hs : steps (d' + 1) c = steps d' (step c) := by rw [steps_add d' 1 c]; rfl
        rw [hs]
        exact noBack_all n (step c) h d' (by omega) (by omega)
theorem bv_xor_eq_self (a b : B32) (h : a ^^^ b = a) : b = 0#32 := by
  have := congrArg (fun z => a ^^^ z) h
  simp only [← BitVec.xor_assoc, BitVec.xor_self, BitVec.zero_xor] at this
  exact this
theorem crcF_eq {c : B32} {xs ys : List UInt8} : crcF c xs = crcF c ys ↔ crcBytes (~~~c) xs = crcBytes (~~~c) ys := by
  unfold crcF
  constructor
  · intro h; simpa using congrArg (fun z => ~~~z) h
  · intro h; rw [h]
theorem turn_ne (c : B32) (bs : List UInt8) (x : Nat) (h : x < 8 * bs.length) : crcF c (turn bs x) ≠ crcF c bs := fun he => by
  rw [crcF_eq, crc_turn _ _ _ h] at he
  exact steps_one_ne _ (bv_xor_eq_self _ _ he)
theorem turn_turn (c : B32) (bs : List UInt8) (x y : Nat) (hb : bs.length ≤ 256) (hx : x < 8 * bs.length) (hy : y < 8 * bs.length) : crcF c (turn (turn bs x) y) = crcF c bs ↔ x = y := by
  rw [crcF_eq, crc_turn _ _ _ (by rw [turn_length]; exact hy), crc_turn _ _ _ hx, turn_length, BitVec.xor_assoc]
  constructor
  · intro h
    have h0 := bv_xor_eq_self _ _ h
    have key : ∀ a b : Nat, a < b → b < 8 * bs.length → steps (8 * bs.length - a) 1#32 ^^^ steps (8 * bs.length - b) 1#32 ≠ 0#32 := by
      intro a b hab hbl he
      have e1 : steps (8 * bs.length - a) 1#32 = steps (8 * bs.length - b) (steps (b - a) 1#32) := by rw [← steps_add]; congr 1; omega
      rw [e1, ← steps_xor] at he
      have h1 := steps_inj0 _ _ he
      have h2 : steps (b - a) 1#32 = 1#32 := by
        have := congrArg (fun z => z ^^^ 1#32) h1
        simp only [BitVec.xor_assoc, BitVec.xor_self, BitVec.xor_zero, BitVec.zero_xor] at this
        exact this
      exact noBack_all 2047 1#32 noBack_ok (b - a) (by omega) (by omega) h2
    rcases Nat.lt_trichotomy x y with hl | hl | hl
    · exact absurd h0 (key x y hl hy)
    · exact hl
    · exact absurd (by rw [BitVec.xor_comm]; exact h0) (key y x hl hx)
  · rintro rfl
    rw [BitVec.xor_self, BitVec.xor_zero]
/-! bursts -/
def turnsTo (bs : List UInt8) (n : Nat) (p : B32) : Nat → List UInt8
  | 0 => bs
  | j + 1 => if p.getLsbD j then turn (turnsTo bs n p j) (n + j) else turnsTo bs n p j
theorem turnsTo_length (bs : List UInt8) (n : Nat) (p : B32) (j : Nat) : (turnsTo bs n p j).length = bs.length := by
  induction j with
  | zero => rfl
  | succ j ih => simp only [turnsTo]; split <;> simp [turn_length, ih]
/-- The pattern's low j bits. -/
def low (p : B32) : Nat → B32
  | 0 => 0#32
  | j + 1 => if p.getLsbD j then low p j ^^^ BitVec.twoPow 32 j else low p j
theorem steps_pow : ∀ i : Fin 32, steps i.val (BitVec.twoPow 32 i.val) = 1#32 := by decide +kernel
theorem crc_turnsTo (c : B32) (bs : List UInt8) (n : Nat) (p : B32) (h : n + 32 ≤ 8 * bs.length) : ∀ j, j ≤ 32 → crcBytes c (turnsTo bs n p j) = crcBytes c bs ^^^ steps (8 * bs.length - n) (low p j) := by
  intro j
  induction j with
  | zero => intro _; simp [turnsTo, low, steps_zero]
  | succ j ih =>
    intro hj
    simp only [turnsTo, low]
    by_cases hp : p.getLsbD j = true
    · rw [if_pos hp, if_pos hp, crc_turn _ _ _ (by rw [turnsTo_length]; omega), ih (by omega), turnsTo_length, steps_xor, BitVec.xor_assoc]
      congr 2
      have hs := steps_pow ⟨j, by omega⟩
      simp only at hs
      rw [← hs, ← steps_add]
      congr 1
      omega
    · rw [if_neg hp, if_neg hp]
      exact ih (by omega)
theorem low_bit (p : B32) : ∀ (j i : Nat), j ≤ 32 → (low p j).getLsbD i = (decide (i < j) && p.getLsbD i) := by
  intro j
  induction j with
  | zero => intro i _; simp [low]
  | succ j ih =>
    intro i hj
    simp only [low]
    by_cases hp : p.getLsbD j = true
    · rw [if_pos hp, BitVec.getLsbD_xor, ih i (by omega), BitVec.getLsbD_twoPow]
      by_cases hij : i = j
      · subst hij; simp [hp]; omega
      · have h1 : (decide (j < 32) && decide (j = i)) = false := by simp; omega
        have h2 : decide (i < j + 1) = decide (i < j) := by
          by_cases h : i < j
          · simp [h]; omega
          · simp [h]; omega
        rw [h1, h2]; simp
    · rw [if_neg hp, ih i (by omega)]
      by_cases hij : i = j
      · subst hij; simp at hp; simp [hp]
      · have h2 : decide (i < j + 1) = decide (i < j) := by
          by_cases h : i < j
          · simp [h]; omega
          · simp [h]; omega
        rw [h2]
theorem low_all (p : B32) : low p 32 = p := by
  apply BitVec.eq_of_getLsbD_eq
  intro i hi
  rw [low_bit p 32 i (by omega)]
  simp [hi]
theorem burst_ne (c : B32) (bs : List UInt8) (n : Nat) (p : B32) (h : n + 32 ≤ 8 * bs.length) (hp : p ≠ 0#32) : crcF c (turnsTo bs n p 32) ≠ crcF c bs := fun he => by
  rw [crcF_eq, crc_turnsTo _ _ _ _ h 32 (by omega), low_all] at he
  exact hp (steps_inj0 _ _ (bv_xor_eq_self _ _ he))
end Go.Proofs.YtcknoadoeonbjaaK
