import Derived.Test.YtljdfhckllncoaaKHamM
import Derived.Test.YtljdfhckllncoaaKMa
import Derived.Test.YtljdfhckllncoaaKCrcL
import Derived.Test.YtljdfhckllncoaaKMb
namespace Go.Proofs.YtljdfhckllncoaaK
open Go.RowKit
set_option linter.unusedSimpArgs false
set_option linter.unusedVariables false
/-! A record's data and its page. -/
def z256 : List UInt8 := List.replicate 256 0
def z258 : List UInt8 := List.replicate 258 0
def frH (k : UInt8) (body : List UInt8) : List UInt8 := spl ((z256.set 0 k).set 1 (UInt8.ofNat body.length)) 2 body
def frS (k : UInt8) (body : List UInt8) : Nat := (crcF 0#32 ((frH k body).take 252)).toNat
def frD (k : UInt8) (body : List UInt8) : List UInt8 := spl (frH k body) 252 (numB 4 (frS k body))
def frP (k : UInt8) (body : List UInt8) : List UInt8 := spl (spl z258 0 (frD k body)) 256 (numB 2 (chk (frD k body)))
theorem z256_len : z256.length = 256 := List.length_replicate
theorem z258_len : z258.length = 258 := List.length_replicate
theorem frH_len (k : UInt8) (body : List UInt8) (h : body.length ≤ 240) : (frH k body).length = 256 := by
  have h1 : ((z256.set 0 k).set 1 (UInt8.ofNat body.length)).length = 256 := by rw [List.length_set, List.length_set, z256_len]
  unfold frH
  rw [spl_length (by omega), h1]
theorem frD_len (k : UInt8) (body : List UInt8) (h : body.length ≤ 240) : (frD k body).length = 256 := by
  have h1 := frH_len k body h
  have h2 : (numB 4 (frS k body)).length = 4 := numB_length _ _
  unfold frD
  rw [spl_length (by omega), h1]
theorem frQ_len (k : UInt8) (body : List UInt8) (h : body.length ≤ 240) : (spl z258 0 (frD k body)).length = 258 := by
  have h1 := frD_len k body h
  have h2 := z258_len
  rw [spl_length (by omega), h2]
theorem frP_len (k : UInt8) (body : List UInt8) (h : body.length ≤ 240) : (frP k body).length = 258 := by
  have h1 := frQ_len k body h
  have h2 : (numB 2 (chk (frD k body))).length = 2 := numB_length _ _
  unfold frP
  rw [spl_length (by omega), h1]
theorem frS_lt (k : UInt8) (body : List UInt8) : frS k body < 4294967296 := (crcF 0#32 ((frH k body).take 252)).isLt
theorem frP_eq (k : UInt8) (body : List UInt8) (h : body.length ≤ 240) : frP k body = frD k body ++ numB 2 (chk (frD k body)) := by
  have hD := frD_len k body h
  have hN : (numB 2 (chk (frD k body))).length = 2 := numB_length _ _
  have h1 := frQ_len k body h
  have hz := z258_len
  unfold frP
  apply List.ext_getElem?
  intro j
  rw [spl_get (by omega), spl_get (by omega), hN, hD]
  by_cases h2 : j < 256
  · rw [if_neg (by omega), if_pos (by omega), List.getElem?_append_left (by omega), Nat.sub_zero]
  · rw [List.getElem?_append_right (by omega), hD]
    by_cases h3 : j < 258
    · rw [if_pos (by omega)]
    · rw [if_neg (by omega), if_neg (by omega), List.getElem?_eq_none (by omega), List.getElem?_eq_none (by omega)]
theorem frD_get (k : UInt8) (body : List UInt8) (h : body.length ≤ 240) (j : Nat) (hj : j < 252) : (frD k body)[j]? = (frH k body)[j]? := by
  have h1 := frH_len k body h
  have h2 : (numB 4 (frS k body)).length = 4 := numB_length _ _
  unfold frD
  rw [spl_get (by omega), if_neg (by omega)]
theorem frH_get (k : UInt8) (body : List UInt8) (h : body.length ≤ 240) (j : Nat) : (frH k body)[j]? = if 2 ≤ j ∧ j < 2 + body.length then body[j - 2]? else ((z256.set 0 k).set 1 (UInt8.ofNat body.length))[j]? := by
  have h1 : ((z256.set 0 k).set 1 (UInt8.ofNat body.length)).length = 256 := by rw [List.length_set, List.length_set, z256_len]
  unfold frH
  rw [spl_get (by omega)]
theorem frH_0 (k : UInt8) (body : List UInt8) (h : body.length ≤ 240) : (frH k body)[0]? = some k := by
  have hz := z256_len
  rw [frH_get k body h, if_neg (by omega), List.getElem?_set_ne (by decide), List.getElem?_set_self (by omega)]
theorem frH_1 (k : UInt8) (body : List UInt8) (h : body.length ≤ 240) : (frH k body)[1]? = some (UInt8.ofNat body.length) := by
  have hz : (z256.set 0 k).length = 256 := by rw [List.length_set, z256_len]
  rw [frH_get k body h, if_neg (by omega), List.getElem?_set_self (by omega)]
theorem frH_2 (k : UInt8) (body : List UInt8) (h : body.length ≤ 240) (j : Nat) (hj : j < body.length) : (frH k body)[2 + j]? = body[j]? := by
  rw [frH_get k body h, if_pos (by omega)]
  congr 1
  omega
theorem frH_z (k : UInt8) (body : List UInt8) (h : body.length ≤ 240) (j : Nat) (hj : 2 + body.length ≤ j) (hj2 : j < 256) : (frH k body)[j]? = some 0 := by
  rw [frH_get k body h, if_neg (by omega), List.getElem?_set_ne (by omega), List.getElem?_set_ne (by omega)]
  unfold z256
  rw [List.getElem?_replicate, if_pos hj2]
theorem frD_body (k : UInt8) (body : List UInt8) (h : body.length ≤ 240) : ((frD k body).drop 2).take body.length = body := by
  have hl := frD_len k body h
  apply List.ext_getElem?
  intro j
  by_cases hj : j < body.length
  · rw [List.getElem?_take_of_lt hj, List.getElem?_drop, frD_get k body h _ (by omega), frH_2 k body h j hj]
  · rw [List.getElem?_eq_none (by rw [List.length_take, List.length_drop]; omega), List.getElem?_eq_none (by omega)]
theorem frD_inj (k1 : UInt8) (b1 : List UInt8) (k2 : UInt8) (b2 : List UInt8) (h1 : b1.length ≤ 240) (h2 : b2.length ≤ 240) (h : frD k1 b1 = frD k2 b2) : k1 = k2 ∧ b1 = b2 := by
  have e : ∀ j : Nat, (frD k1 b1)[j]? = (frD k2 b2)[j]? := fun j => by rw [h]
  have e0 := e 0
  rw [frD_get _ _ h1 0 (by decide), frD_get _ _ h2 0 (by decide), frH_0 _ _ h1, frH_0 _ _ h2] at e0
  have e1 := e 1
  rw [frD_get _ _ h1 1 (by decide), frD_get _ _ h2 1 (by decide), frH_1 _ _ h1, frH_1 _ _ h2] at e1
  have hl : b1.length = b2.length := by
    have := congrArg UInt8.toNat (Option.some.inj e1)
    rw [UInt8.toNat_ofNat_of_lt' (Nat.lt_of_le_of_lt h1 (by decide)), UInt8.toNat_ofNat_of_lt' (Nat.lt_of_le_of_lt h2 (by decide))] at this
    exact this
  refine ⟨Option.some.inj e0, ?_⟩
  have a := frD_body k1 b1 h1
  have b := frD_body k2 b2 h2
  rw [h, hl, b] at a
  exact a.symm
theorem frP_inj (k1 : UInt8) (b1 : List UInt8) (k2 : UInt8) (b2 : List UInt8) (h1 : b1.length ≤ 240) (h2 : b2.length ≤ 240) : frP k1 b1 = frP k2 b2 ↔ (k1 = k2 ∧ b1 = b2) := by
  constructor
  · intro h
    rw [frP_eq _ _ h1, frP_eq _ _ h2] at h
    exact frD_inj k1 b1 k2 b2 h1 h2 (List.append_inj h (by rw [frD_len _ _ h1, frD_len _ _ h2])).1
  · rintro ⟨rfl, rfl⟩; rfl
theorem frP_five : (frP 7 [97, 98]).take 5 = [7, 2, 97, 98, 0] := by
  have h : ([97, 98] : List UInt8).length ≤ 240 := by decide
  rw [frP_eq _ _ h, List.take_append_of_le_length (by rw [frD_len _ _ h]; decide)]
  apply List.ext_getElem?
  intro j
  by_cases hj : j < 5
  · rw [List.getElem?_take_of_lt hj, frD_get _ _ h _ (by omega)]
    have h5 : j = 0 ∨ j = 1 ∨ j = 2 ∨ j = 3 ∨ j = 4 := by omega
    rcases h5 with rfl | rfl | rfl | rfl | rfl
    · exact frH_0 _ _ h
    · exact frH_1 _ _ h
    · exact frH_2 _ _ h 0 (by decide)
    · exact frH_2 _ _ h 1 (by decide)
    · exact frH_z _ _ h 4 (by decide) (by decide)
  · rw [List.getElem?_eq_none (by rw [List.length_take]; omega), List.getElem?_eq_none (by simp; omega)]
end Go.Proofs.YtljdfhckllncoaaK
