import Derived.Test.YtljdfhckllncoaaKHamG
namespace Go.Proofs.YtljdfhckllncoaaK
open Go.RowKit
set_option linter.unusedSimpArgs false
set_option linter.unusedVariables false
theorem pcTo_13 (x : Nat) : pcTo x 13 = pc x + bitN x 12 := by
  show pcTo x 12 + bitN x 12 = _
  rw [pcTo_12]
theorem pc_low (x : Nat) : pc (x % 4096) = pc x := by
  rw [← pcTo_12, ← pcTo_12]
  have h : ∀ m, m ≤ 12 → pcTo (x % 4096) m = pcTo x m := by
    intro m
    induction m with
    | zero => intro _; rfl
    | succ m ih =>
      intro hm
      show pcTo (x % 4096) m + bitN (x % 4096) m = pcTo x m + bitN x m
      have hb : bitN (x % 4096) m = bitN x m := by
        unfold bitN
        have h := Nat.testBit_mod_two_pow x 12 m
        rw [show (2 : Nat) ^ 12 = 4096 from rfl] at h
        have e : ∀ x : Nat, x / 2 ^ m % 2 = (x.testBit m).toNat := fun x => by rw [Nat.toNat_testBit]
        rw [e, e, h]
        have : m < 12 := by omega
        simp [this]
      rw [ih (by omega), hb]
  exact h 12 (Nat.le_refl _)
theorem pc_xor (a b : Nat) : pc (a ^^^ b) % 2 = (pc a + pc b) % 2 := by
  rw [← pcTo_12, ← pcTo_12, ← pcTo_12]
  have h : ∀ m, pcTo (a ^^^ b) m % 2 = (pcTo a m + pcTo b m) % 2 := by
    intro m
    induction m with
    | zero => rfl
    | succ m ih =>
      show (pcTo (a ^^^ b) m + bitN (a ^^^ b) m) % 2 = (pcTo a m + bitN a m + (pcTo b m + bitN b m)) % 2
      rw [bitN_xor]; omega
  exact h 12
/-- The parity that Fix reckons. -/
def parO (bs : List UInt8) (c : Nat) : Nat := (foldT bs 2048 % 2 + pc16 (c % 8192)) % 2
theorem parO_eq (bs : List UInt8) (c : Nat) : parO bs c = (foldT bs 2048 + pc c + bitN c 12) % 2 := by
  unfold parO
  have := pc16_par c
  rw [pcTo_13] at this
  omega
theorem chk_bit12 (bs : List UInt8) : bitN (chk bs) 12 = (foldT bs 2048 % 2 + pc (foldS bs 2048)) % 2 := by
  have h2 := foldS_lt bs 2048 (Nat.le_refl _)
  have h3 : (foldT bs 2048 % 2 + pc (foldS bs 2048)) % 2 < 2 := Nat.mod_lt _ (by decide)
  unfold bitN chk
  rw [show (2 : Nat) ^ 12 = 4096 from rfl]
  omega
theorem chk_mod (bs : List UInt8) : chk bs % 4096 = foldS bs 2048 := by
  have h2 := foldS_lt bs 2048 (Nat.le_refl _)
  unfold chk; omega
theorem chk_pc (bs : List UInt8) : pc (chk bs) = pc (foldS bs 2048) := by rw [← pc_low, chk_mod]
theorem parO_chk (bs : List UInt8) : parO bs (chk bs) = 0 := by
  rw [parO_eq, chk_pc, chk_bit12]
  omega
theorem fixR_eq (bs : List UInt8) (c : Nat) : fixR bs c =
    (if foldS bs 2048 ^^^ (c % 4096) = 0 ∧ parO bs c = 0 then (bs, 0, 0) else if parO bs c = 0 then (zeroD, 0, 21) else if powB (foldS bs 2048 ^^^ (c % 4096)) = true then (bs, 1, 0)
      else if 2048 ≤ (foldS bs 2048 ^^^ (c % 4096)) - 1 - Lib.bitLen (foldS bs 2048 ^^^ (c % 4096)) then (zeroD, 0, 21) else (flipD bs ((foldS bs 2048 ^^^ (c % 4096)) - 1 - Lib.bitLen (foldS bs 2048 ^^^ (c % 4096))), 1, 0)) := rfl
theorem fix_whole (bs : List UInt8) : fixR bs (chk bs) = (bs, 0, 0) := by
  rw [fixR_eq, if_pos ⟨by rw [chk_mod, Nat.xor_self], parO_chk bs⟩]
theorem fix_two (bs : List UInt8) (c : Nat) (h0 : parO bs c = 0) (h1 : foldS bs 2048 ^^^ (c % 4096) ≠ 0) : fixR bs c = (zeroD, 0, 21) := by
  rw [fixR_eq, if_neg (fun h => h1 h.1), if_pos h0]
theorem fix_pow (bs : List UInt8) (c : Nat) (h0 : parO bs c = 1) (h1 : powB (foldS bs 2048 ^^^ (c % 4096)) = true) : fixR bs c = (bs, 1, 0) := by
  rw [fixR_eq, if_neg (fun h => by omega), if_neg (by omega), if_pos h1]
theorem flip_len (bs : List UInt8) (i : Nat) : (flipD bs i).length = bs.length := by unfold flipD; rw [List.length_set]
theorem byte_getD (bs : List UInt8) (k : Nat) (y : UInt8) (i : Nat) (hk : k < bs.length) : (bs.set k y).getD i 0 = if i = k then y else bs.getD i 0 := by
  rw [List.getD_eq_getElem?_getD, List.getElem?_set, List.getD_eq_getElem?_getD]
  by_cases h : k = i
  · subst h; simp [hk]
  · rw [if_neg h, if_neg (by omega)]
theorem bitN_two (r j : Nat) : bitN (2 ^ r) j = if j = r then 1 else 0 := by
  unfold bitN
  have e : ∀ x : Nat, x / 2 ^ j % 2 = (x.testBit j).toNat := fun x => by rw [Nat.toNat_testBit]
  rw [e, Nat.testBit_two_pow]
  by_cases h : j = r
  · subst h; simp
  · have : ¬ r = j := fun h2 => h h2.symm
    simp [h, this]
theorem dbit_flip (bs : List UInt8) (hl : bs.length = 256) (i : Nat) (hi : i < 2048) (j : Nat) : dbit (flipD bs i) j = if j = i then 1 - dbit bs i else dbit bs j := by
  have hx8 := (bs.getD (i / 8) 0).toNat_lt
  have hyl : (bs.getD (i / 8) 0).toNat ^^^ 2 ^ (i % 8) < 256 := Nat.xor_lt_two_pow (n := 8) hx8 (by
    have := Nat.pow_lt_pow_right (a := 2) (by decide) (Nat.mod_lt i (by decide : 0 < 8)); simpa using this)
  unfold dbit flipD
  rw [byte_getD _ _ _ _ (by omega)]
  by_cases h : j / 8 = i / 8
  · rw [if_pos h, UInt8.toNat_ofNat_of_lt' hyl, bitN_xor, bitN_two]
    have b1 := bitN_lt (bs.getD (i / 8) 0).toNat (j % 8)
    by_cases h2 : j % 8 = i % 8
    · have hj : j = i := by omega
      subst hj
      rw [if_pos rfl, if_pos rfl]; omega
    · rw [if_neg h2, if_neg (fun h3 => h2 (by rw [h3])), h]; omega
  · rw [if_neg h, if_neg (fun h3 => h (by rw [h3]))]
theorem foldS_flip (bs : List UInt8) (hl : bs.length = 256) (i : Nat) (hi : i < 2048) : ∀ k, foldS (flipD bs i) k = if i < k then foldS bs k ^^^ plc i else foldS bs k := by
  intro k
  induction k with
  | zero => simp [foldS]
  | succ k ih =>
    have e1 : ∀ b : List UInt8, foldS b (k + 1) = if dbit b k = 1 then foldS b k ^^^ plc k else foldS b k := fun _ => rfl
    have hd : dbit bs k < 2 := bitN_lt (bs.getD (k / 8) 0).toNat (k % 8)
    have hf := dbit_flip bs hl i hi k
    rw [e1, e1, ih]
    obtain ⟨D, hD⟩ : ∃ D, D = dbit (flipD bs i) k := ⟨_, rfl⟩
    rw [← hD] at hf ⊢
    obtain ⟨E, hE⟩ : ∃ E, E = dbit bs k := ⟨_, rfl⟩
    rw [← hE] at hd ⊢
    by_cases hk : k = i
    · subst hk
      rw [if_pos rfl, ← hE] at hf
      rw [if_neg (Nat.lt_irrefl _), if_pos (Nat.lt_succ_self _)]
      by_cases h1 : E = 1
      · rw [if_pos h1, if_neg (show ¬ D = 1 by omega), Nat.xor_assoc, Nat.xor_self, Nat.xor_zero]
      · rw [if_neg h1, if_pos (show D = 1 by omega)]
    · rw [if_neg hk, ← hE] at hf
      by_cases hik : i < k
      · rw [if_pos hik, if_pos (show i < k + 1 by omega)]
        by_cases h1 : E = 1
        · rw [if_pos h1, if_pos (show D = 1 by omega), Nat.xor_assoc, Nat.xor_assoc, Nat.xor_comm (plc i)]
        · rw [if_neg h1, if_neg (show ¬ D = 1 by omega)]
      · rw [if_neg hik, if_neg (show ¬ i < k + 1 by omega), hf]
theorem foldT_flip (bs : List UInt8) (hl : bs.length = 256) (i : Nat) (hi : i < 2048) : ∀ k, foldT (flipD bs i) k % 2 = (foldT bs k + if i < k then 1 else 0) % 2 := by
  intro k
  induction k with
  | zero => simp [foldT]
  | succ k ih =>
    have e1 : ∀ b : List UInt8, foldT b (k + 1) = foldT b k + dbit b k := fun _ => rfl
    have hd : dbit bs k < 2 := bitN_lt (bs.getD (k / 8) 0).toNat (k % 8)
    have hf := dbit_flip bs hl i hi k
    rw [e1, e1]
    by_cases hk : k = i
    · subst hk
      rw [if_pos rfl] at hf
      rw [if_pos (Nat.lt_succ_self _)]
      rw [if_neg (Nat.lt_irrefl _)] at ih
      omega
    · rw [if_neg hk] at hf
      by_cases hik : i < k
      · rw [if_pos (show i < k + 1 by omega)]
        rw [if_pos hik] at ih
        omega
      · rw [if_neg (show ¬ i < k + 1 by omega)]
        rw [if_neg hik] at ih
        omega
/-- A turn: the data and the check bits, one of all bits turned. -/
def turnR (bs : List UInt8) (c i : Nat) : List UInt8 × Nat := if i < 2048 then (flipD bs i, c) else (bs, c ^^^ 2 ^ (i - 2048))
/-- The number that Fix looks at: the sum of places. -/
def synd (bs : List UInt8) (c : Nat) : Nat := foldS bs 2048 ^^^ (c % 4096)
/-- What a turn does to the sum of places. -/
def spot (i : Nat) : Nat := if i < 2048 then plc i else 2 ^ (i - 2048) % 4096
theorem bitN_pow_mod (r : Nat) (hr : r ≤ 12) : 2 ^ r % 4096 = if r < 12 then 2 ^ r else 0 := by
  have h : ∀ r : Fin 13, 2 ^ r.val % 4096 = if r.val < 12 then 2 ^ r.val else 0 := by decide
  exact h ⟨r, by omega⟩
theorem synd_turn (bs : List UInt8) (hl : bs.length = 256) (c i : Nat) (hi : i < 2061) : synd (turnR bs c i).1 (turnR bs c i).2 = synd bs c ^^^ spot i := by
  unfold turnR spot
  by_cases h : i < 2048
  · rw [if_pos h, if_pos h]
    show foldS (flipD bs i) 2048 ^^^ (c % 4096) = _
    rw [foldS_flip bs hl i h, if_pos h]
    unfold synd
    rw [Nat.xor_assoc, Nat.xor_assoc, Nat.xor_comm (plc i)]
  · rw [if_neg h, if_neg h]
    show foldS bs 2048 ^^^ ((c ^^^ 2 ^ (i - 2048)) % 4096) = _
    have h1 := Nat.xor_mod_two_pow (a := c) (b := 2 ^ (i - 2048)) (n := 12)
    rw [show (2 : Nat) ^ 12 = 4096 from rfl] at h1
    rw [h1]
    unfold synd
    rw [Nat.xor_assoc]
theorem parO_turn (bs : List UInt8) (hl : bs.length = 256) (c i : Nat) (hi : i < 2061) : parO (turnR bs c i).1 (turnR bs c i).2 = 1 - parO bs c := by
  have h0 : parO bs c < 2 := Nat.mod_lt _ (by decide)
  unfold turnR
  by_cases h : i < 2048
  · rw [if_pos h]
    show parO (flipD bs i) c = _
    have h1 := foldT_flip bs hl i h 2048
    rw [if_pos h] at h1
    rw [parO_eq, parO_eq] at *
    omega
  · rw [if_neg h]
    show parO bs (c ^^^ 2 ^ (i - 2048)) = _
    rw [parO_eq, parO_eq] at *
    have h1 := pc_xor c (2 ^ (i - 2048))
    have h2 := bitN_xor c (2 ^ (i - 2048)) 12
    have h3 : (pc (2 ^ (i - 2048)) + bitN (2 ^ (i - 2048)) 12) % 2 = 1 := by
      have h : ∀ r : Fin 13, (pc (2 ^ r.val) + bitN (2 ^ r.val) 12) % 2 = 1 := by decide +kernel
      exact h ⟨i - 2048, by omega⟩
    omega
theorem turn_len (bs : List UInt8) (c i : Nat) : (turnR bs c i).1.length = bs.length := by
  unfold turnR; split
  · exact flip_len bs i
  · rfl
theorem flip_flip (bs : List UInt8) (hl : bs.length = 256) (i : Nat) (hi : i < 2048) : flipD (flipD bs i) i = bs := by
  have hx8 := (bs.getD (i / 8) 0).toNat_lt
  have hyl : (bs.getD (i / 8) 0).toNat ^^^ 2 ^ (i % 8) < 256 := Nat.xor_lt_two_pow (n := 8) hx8 (by
    have := Nat.pow_lt_pow_right (a := 2) (by decide) (Nat.mod_lt i (by decide : 0 < 8)); simpa using this)
  unfold flipD
  rw [byte_getD _ _ _ _ (by omega), if_pos rfl, UInt8.toNat_ofNat_of_lt' hyl, Nat.xor_assoc, Nat.xor_self, Nat.xor_zero, UInt8.ofNat_toNat, List.set_set]
  rw [List.getD_eq_getElem?_getD, List.getElem?_eq_getElem (by omega)]
  exact List.set_getElem_self (by omega)
theorem turn_turn (bs : List UInt8) (hl : bs.length = 256) (c i : Nat) : turnR (turnR bs c i).1 (turnR bs c i).2 i = (bs, c) := by
  unfold turnR
  by_cases h : i < 2048
  · rw [if_pos h, if_pos h, flip_flip bs hl i h]
  · rw [if_neg h, if_neg h, Nat.xor_assoc, Nat.xor_self, Nat.xor_zero]
theorem synd_chk (bs : List UInt8) : synd bs (chk bs) = 0 := by unfold synd; rw [chk_mod, Nat.xor_self]
theorem fix_synd (bs : List UInt8) (c : Nat) : fixR bs c =
    (if synd bs c = 0 ∧ parO bs c = 0 then (bs, 0, 0) else if parO bs c = 0 then (zeroD, 0, 21) else if powB (synd bs c) = true then (bs, 1, 0)
      else if 2048 ≤ synd bs c - 1 - Lib.bitLen (synd bs c) then (zeroD, 0, 21) else (flipD bs (synd bs c - 1 - Lib.bitLen (synd bs c)), 1, 0)) := rfl
theorem plc_no_pow (i : Nat) (hi : i < 2048) : powB (plc i) = false := by
  have h : ∀ k : Fin 2048, powB (plc k.val) = false := by decide +kernel
  exact h ⟨i, hi⟩
theorem pow_pow (r : Nat) (hr : r < 13) : powB (2 ^ r % 4096) = true := by
  have h : ∀ k : Fin 13, powB (2 ^ k.val % 4096) = true := by decide +kernel
  exact h ⟨r, hr⟩
theorem fix_one (bs : List UInt8) (hl : bs.length = 256) (i : Nat) (hi : i < 2061) : fixR (turnR bs (chk bs) i).1 (turnR bs (chk bs) i).2 = (bs, 1, 0) := by
  have h1 := parO_turn bs hl (chk bs) i hi
  rw [parO_chk] at h1
  have h2 := synd_turn bs hl (chk bs) i hi
  rw [synd_chk, Nat.zero_xor] at h2
  rw [fix_synd, h1, h2, if_neg (fun h => absurd h.2 (by decide)), if_neg (by decide)]
  unfold spot
  by_cases h : i < 2048
  · have h3 := back_all ⟨i, h⟩
    simp only at h3
    rw [if_pos h, plc_no_pow i h, if_neg (by decide), h3, if_neg (by omega)]
    show (flipD (turnR bs (chk bs) i).1 i, 1, 0) = _
    unfold turnR
    rw [if_pos h]
    show (flipD (flipD bs i) i, 1, 0) = _
    rw [flip_flip bs hl i h]
  · rw [if_neg h, pow_pow _ (by omega), if_pos rfl]
    unfold turnR
    rw [if_neg h]
theorem spot_apart (i k : Nat) (hi : i < 2061) (hk : k < 2061) (hne : i ≠ k) : spot i ≠ spot k := by
  have hpp : ∀ a b : Fin 13, a ≠ b → 2 ^ a.val % 4096 ≠ 2 ^ b.val % 4096 := by decide
  have hb : ∀ i, i < 2048 → plc i - 1 - Lib.bitLen (plc i) = i := fun i h => back_all ⟨i, h⟩
  unfold spot
  by_cases h1 : i < 2048
  · by_cases h2 : k < 2048
    · rw [if_pos h1, if_pos h2]
      intro h
      have a := hb i h1
      have b := hb k h2
      rw [h] at a
      omega
    · rw [if_pos h1, if_neg h2]
      intro h
      have a := plc_no_pow i h1
      rw [h, pow_pow _ (by omega)] at a
      exact absurd a (by decide)
  · by_cases h2 : k < 2048
    · rw [if_neg h1, if_pos h2]
      intro h
      have a := plc_no_pow k h2
      rw [← h, pow_pow _ (by omega)] at a
      exact absurd a (by decide)
    · rw [if_neg h1, if_neg h2]
      exact hpp ⟨i - 2048, by omega⟩ ⟨k - 2048, by omega⟩ (fun h => hne (by have := congrArg Fin.val h; simp only at this; omega))
theorem xor_zero_eq (a b : Nat) (h : a ^^^ b = 0) : a = b := by
  have : a ^^^ b ^^^ b = b := by rw [h, Nat.zero_xor]
  rwa [Nat.xor_assoc, Nat.xor_self, Nat.xor_zero] at this
theorem fix_twice (bs : List UInt8) (hl : bs.length = 256) (i k : Nat) (hi : i < 2061) (hk : k < 2061) (hne : i ≠ k) :
    fixR (turnR (turnR bs (chk bs) i).1 (turnR bs (chk bs) i).2 k).1 (turnR (turnR bs (chk bs) i).1 (turnR bs (chk bs) i).2 k).2 = (zeroD, 0, 21) := by
  have h1 := parO_turn bs hl (chk bs) i hi
  rw [parO_chk] at h1
  have h2 := synd_turn bs hl (chk bs) i hi
  rw [synd_chk, Nat.zero_xor] at h2
  have hl2 : (turnR bs (chk bs) i).1.length = 256 := by rw [turn_len]; exact hl
  have h3 := parO_turn _ hl2 (turnR bs (chk bs) i).2 k hk
  have h4 := synd_turn _ hl2 (turnR bs (chk bs) i).2 k hk
  rw [h1] at h3
  rw [h2] at h4
  refine fix_two _ _ h3 (fun h => spot_apart i k hi hk hne (xor_zero_eq _ _ ?_))
  rw [← h4]; exact h
theorem turn_lt (bs : List UInt8) (c i : Nat) (hc : c < 8192) (hi : i < 2061) : (turnR bs c i).2 < 8192 := by
  unfold turnR
  split
  · exact hc
  · exact Nat.xor_lt_two_pow (n := 13) hc (by
      have := Nat.pow_le_pow_right (n := 2) (by decide) (show i - 2048 ≤ 12 by omega); rw [show (2 : Nat) ^ 12 = 4096 from rfl] at this; show _ < 8192; omega)
end Go.Proofs.YtljdfhckllncoaaK
