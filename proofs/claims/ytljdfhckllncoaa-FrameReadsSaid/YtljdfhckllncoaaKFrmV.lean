import Derived.Test.YtljdfhckllncoaaKFrmU
namespace Go.Proofs.YtljdfhckllncoaaK
open Go.RowKit
set_option linter.unusedSimpArgs false
set_option linter.unusedVariables false
/-! A page whose last byte is all ones, but perhaps for one bit. -/
def tornB (y : Nat) : Bool := y == 255 || (List.range 8).any (fun j => y == 255 ^^^ 2 ^ j)
theorem torn_all : ∀ y : Fin 256, tornB y.val = true → 1 < bitN y.val 5 + (bitN y.val 6 + bitN y.val 7) := by decide +kernel
theorem torn_flip : ∀ j : Fin 8, tornB (255 ^^^ 2 ^ j.val) = true := by decide +kernel
theorem numV_two (a b : UInt8) : numV [a, b] = a.toNat + 256 * b.toNat := by
  unfold numV
  simp [numV]
theorem torn_abv (bs : List UInt8) (hl : bs.length = 258) (h : tornB (bs.getD 257 0).toNat = true) : 1 < abv (frC bs) := by
  have hd : bs.drop 256 = [bs.getD 256 0, bs.getD 257 0] := by
    apply List.ext_getElem?
    intro i
    rw [List.getElem?_drop]
    match i with
    | 0 => simp [List.getD_eq_getElem?_getD, List.getElem?_eq_getElem (show 256 < bs.length by omega)]
    | 1 => simp [List.getD_eq_getElem?_getD, List.getElem?_eq_getElem (show 257 < bs.length by omega)]
    | i + 2 => rw [List.getElem?_eq_none (by omega)]; simp
  unfold frC
  rw [hd, numV_two]
  obtain ⟨y, hy⟩ : ∃ y, y = (bs.getD 257 0).toNat := ⟨_, rfl⟩
  obtain ⟨x, hx⟩ : ∃ y, y = (bs.getD 256 0).toNat := ⟨_, rfl⟩
  have hx8 : x < 256 := by rw [hx]; exact (bs.getD 256 0).toNat_lt
  have hy8 : y < 256 := by rw [hy]; exact (bs.getD 257 0).toNat_lt
  rw [← hy] at h ⊢
  rw [← hx]
  have := torn_all ⟨y, hy8⟩ h
  simp only at this
  unfold abv
  rw [show bitN (x + 256 * y) 13 = bitN ((x + 256 * y) / 256) 5 from bitN_hi _ 5, show bitN (x + 256 * y) 14 = bitN ((x + 256 * y) / 256) 6 from bitN_hi _ 6, show bitN (x + 256 * y) 15 = bitN ((x + 256 * y) / 256) 7 from bitN_hi _ 7, show (x + 256 * y) / 256 = y from by omega]
  exact this
theorem torn_read (bs : List UInt8) (hl : bs.length = 258) (h : tornB (bs.getD 257 0).toNat = true) : frR bs = (0, [], 0, if blankB bs = true then 20 else 21) := by
  unfold frR
  by_cases hb : blankB bs = true
  · rw [if_pos hb, if_pos hb]
  · rw [if_neg hb, if_neg hb, if_pos (torn_abv bs hl h)]
end Go.Proofs.YtljdfhckllncoaaK
