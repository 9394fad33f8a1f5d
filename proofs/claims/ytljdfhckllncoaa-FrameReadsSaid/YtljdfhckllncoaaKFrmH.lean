import Derived.Test.YtljdfhckllncoaaKFrmZ
namespace Go.Proofs.YtljdfhckllncoaaK
open Go.RowKit
set_option linter.unusedSimpArgs false
set_option linter.unusedVariables false
/-! The reference's way to tell a record: zeros behind the body, and the sum. -/
theorem get_some (x : List UInt8) (j : Nat) (hj : j < x.length) : x[j]? = some (x.getD j 0) := by
  rw [List.getD_eq_getElem?_getD, List.getElem?_eq_getElem hj]; rfl
theorem frD_drop (k : UInt8) (body : List UInt8) (h : body.length ≤ 240) : (frD k body).drop 252 = numB 4 (frS k body) := by
  have h1 := frH_len k body h
  have h2 : (numB 4 (frS k body)).length = 4 := numB_length _ _
  apply List.ext_getElem?
  intro i
  rw [List.getElem?_drop]
  unfold frD
  rw [spl_get (by omega), h2]
  by_cases hi : i < 4
  · rw [if_pos ⟨by omega, by omega⟩, show 252 + i - 252 = i from by omega]
  · rw [if_neg (by omega), List.getElem?_eq_none (by omega), List.getElem?_eq_none (by omega)]
theorem frD_take (k : UInt8) (body : List UInt8) (h : body.length ≤ 240) : (frD k body).take 252 = (frH k body).take 252 := by
  apply List.ext_getElem?
  intro i
  by_cases hi : i < 252
  · rw [List.getElem?_take_of_lt hi, List.getElem?_take_of_lt hi, frD_get k body h i hi]
  · rw [List.getElem?_eq_none (by rw [List.length_take]; omega), List.getElem?_eq_none (by rw [List.length_take]; omega)]
def zerosD (x : List UInt8) : Prop := ∀ i, 2 + sizeD x ≤ i → i < 252 → x.getD i 0 = 0
def sumD (x : List UInt8) : List UInt8 := numB 4 (crcF 0#32 (x.take 252)).toNat
theorem bodyD_len (x : List UInt8) (hx : x.length = 256) (hs : sizeD x ≤ 240) : (bodyD x).length = sizeD x := by
  unfold bodyD
  rw [if_pos hs, List.length_take, List.length_drop]
  omega
theorem frD_iff (x : List UInt8) (hx : x.length = 256) (hs : sizeD x ≤ 240) : frD (x.getD 0 0) (bodyD x) = x ↔ zerosD x ∧ sumD x = x.drop 252 := by
  have hbl := bodyD_len x hx hs
  have hb : (bodyD x).length ≤ 240 := by omega
  constructor
  · intro h
    constructor
    · intro i h1 h2
      rw [← h, List.getD_eq_getElem?_getD, frD_get _ _ hb i h2, frH_z _ _ hb i (by omega) (by omega)]
      rfl
    · have e1 : x.take 252 = (frH (x.getD 0 0) (bodyD x)).take 252 := by
        rw [← frD_take _ _ hb, h]
      have e2 : x.drop 252 = numB 4 (frS (x.getD 0 0) (bodyD x)) := by
        rw [← frD_drop _ _ hb, h]
      unfold sumD
      rw [e1, e2]
      rfl
  · rintro ⟨hz, hsum⟩
    have hlow : ∀ j, j < 252 → (frH (x.getD 0 0) (bodyD x))[j]? = x[j]? := by
      intro j hj
      rw [get_some x j (by omega)]
      by_cases h0 : j = 0
      · subst h0; exact frH_0 _ _ hb
      · by_cases h1 : j = 1
        · subst h1
          rw [frH_1 _ _ hb, hbl]
          unfold sizeD
          rw [UInt8.ofNat_toNat]
        · by_cases h2 : j < 2 + sizeD x
          · obtain ⟨i, rfl⟩ : ∃ i, j = 2 + i := ⟨j - 2, by omega⟩
            rw [frH_2 _ _ hb i (by omega), ← get_some x _ (by omega)]
            unfold bodyD
            rw [if_pos hs, List.getElem?_take_of_lt (by omega), List.getElem?_drop]
          · rw [frH_z _ _ hb j (by omega) (by omega), hz j (by omega) hj]
    have e1 : (frH (x.getD 0 0) (bodyD x)).take 252 = x.take 252 := by
      apply List.ext_getElem?
      intro i
      by_cases hi : i < 252
      · rw [List.getElem?_take_of_lt hi, List.getElem?_take_of_lt hi, hlow i hi]
      · rw [List.getElem?_eq_none (by rw [List.length_take]; omega), List.getElem?_eq_none (by rw [List.length_take]; omega)]
    apply List.ext_getElem?
    intro j
    by_cases hj : j < 252
    · rw [frD_get _ _ hb j hj, hlow j hj]
    · have e2 : (frD (x.getD 0 0) (bodyD x)).drop 252 = x.drop 252 := by
        rw [frD_drop _ _ hb, ← hsum]
        unfold sumD frS
        rw [e1]
      have e3 : ∀ L : List UInt8, L[j]? = (L.drop 252)[j - 252]? := fun L => by rw [List.getElem?_drop, show 252 + (j - 252) = j from by omega]
      rw [e3, e2, ← e3]
theorem frR_fixed (bs : List UInt8) (hb : blankB bs = false) (ha : abv (frC bs) ≤ 1) (he : (frX bs).2.2 ≠ 0) : frR bs = (0, [], 0, 21) :=
  frR_bad bs hb (fun _ => by rcases (frX_err bs).2 with h | h; exact absurd h he; exact h)
theorem frR_no (bs : List UInt8) (hl : bs.length = 258) (hb : blankB bs = false) (ha : abv (frC bs) ≤ 1) (he : (frX bs).2.2 = 0) (x : List UInt8) (hx : x = (frX bs).1)
    (h : ¬ (sizeD x ≤ 240 ∧ x.getD 0 0 ≠ 0 ∧ x.getD 0 0 ≠ 255 ∧ zerosD x ∧ sumD x = x.drop 252)) : frR bs = (0, [], 0, 21) := by
  unfold frR
  rw [hb, if_neg (by decide), if_neg (by omega), he, if_neg (by decide), ← hx]
  have hxl : x.length = 256 := by rw [hx]; exact frX_len bs hl
  rw [if_neg]
  rintro ⟨h1, h2, h3⟩
  have h4 := fwR_0 _ _ h1
  have h5 := fwR_ok _ _ h1
  rw [h5.2, frP_take _ _ h5.1] at h3
  exact h ⟨h2, h4.1, h4.2, (frD_iff x hxl h2).1 h3⟩
theorem frR_yes (bs : List UInt8) (hl : bs.length = 258) (hb : blankB bs = false) (ha : abv (frC bs) ≤ 1) (he : (frX bs).2.2 = 0) (x : List UInt8) (hx : x = (frX bs).1)
    (h1 : sizeD x ≤ 240) (h2 : x.getD 0 0 ≠ 0) (h3 : x.getD 0 0 ≠ 255) (h4 : zerosD x) (h5 : sumD x = x.drop 252) : frR bs = (x.getD 0 0, (x.drop 2).take (sizeD x), (frX bs).2.1 + abv (frC bs), 0) := by
  have hxl : x.length = 256 := by rw [hx]; exact frX_len bs hl
  have hbl := bodyD_len x hxl h1
  have hd := (frD_iff x hxl h1).2 ⟨h4, h5⟩
  have hf : fwR (x.getD 0 0) (bodyD x) = (frP (x.getD 0 0) (bodyD x), 0) := by
    unfold fwR
    rw [if_neg]
    rintro (h | h | h)
    · exact h2 h
    · exact h3 h
    · omega
  unfold frR
  rw [hb, if_neg (by decide), if_neg (by omega), he, if_neg (by decide), ← hx, hf, if_pos ⟨rfl, h1, by rw [frP_take _ _ (by omega)]; exact hd⟩]
  unfold bodyD
  rw [if_pos h1]
end Go.Proofs.YtljdfhckllncoaaK
