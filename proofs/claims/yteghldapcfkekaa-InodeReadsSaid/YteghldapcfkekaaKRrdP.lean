import Derived.Test.YteghldapcfkekaaKIrdT
import Derived.Test.YteghldapcfkekaaKPackE
namespace Go.Proofs.YteghldapcfkekaaK
open Go.RowKit
set_option linter.unusedSimpArgs false
set_option linter.unusedVariables false
/-! Plain facts for the reference's Read. -/
def bA (bs : List UInt8) (i : Nat) : Nat := (bs.getD i 0).toNat
theorem bA_lt (bs : List UInt8) (i : Nat) : bA bs i < 256 := (bs.getD i 0).toNat_lt
theorem Mid.no {cnt k : Nat} {t0 bs : List UInt8} {es : List (List UInt8 × Int)} (h : Mid cnt (k + 1) t0 bs false es) (ht : takeE bs = none) : pE cnt t0 = none := by
  unfold Mid at h
  rw [if_neg (by decide)] at h
  rw [h]
  unfold pE
  rw [ht]; rfl
theorem Mid.yes {cnt k : Nat} {t0 bs r : List UInt8} {e : List UInt8 × Int} {es : List (List UInt8 × Int)} (h : Mid cnt (k + 1) t0 bs false es) (ht : takeE bs = some (e, r)) : Mid cnt k t0 r false (es ++ [e]) := by
  unfold Mid at h ⊢
  rw [if_neg (by decide)] at h ⊢
  rw [h]
  have hp : pE (k + 1) bs = match takeE bs with
    | none => none
    | some (e, r) => match pE k r with
      | none => none
      | some (es, r') => some (e :: es, r') := rfl
  rw [hp, ht]
  show Option.map _ (match pE k r with | none => none | some (es, r') => some (e :: es, r')) = _
  cases pE k r with
  | none => rfl
  | some p => simp
theorem takeE_no {bs : List UInt8} {i : Nat} (h : bs.length < i + 2) : takeE (bs.drop i) = none := by
  have hl : (bs.drop i).length < 2 := by rw [List.length_drop]; omega
  match hd : bs.drop i with
  | [] => rfl
  | [x] => rfl
  | x :: y :: t => rw [hd] at hl; simp at hl; omega
theorem drop_two {bs : List UInt8} {i : Nat} (h : i + 2 ≤ bs.length) : bs.drop i = bs.getD i 0 :: bs.getD (i + 1) 0 :: bs.drop (i + 2) := by
  rw [List.drop_eq_getElem_cons (by omega : i < bs.length), List.drop_eq_getElem_cons (by omega : i + 1 < bs.length)]
  rw [List.getD_eq_getElem?_getD, List.getD_eq_getElem?_getD, List.getElem?_eq_getElem (by omega : i < bs.length), List.getElem?_eq_getElem (by omega : i + 1 < bs.length)]
  rfl
theorem takeE_two {bs : List UInt8} {i : Nat} (h : i + 2 ≤ bs.length) (h2 : i + 2 + bA bs (i + 1) ≤ bs.length) : takeE (bs.drop i) = some (((bs.drop (i + 2)).take (bA bs (i + 1)), (bA bs i : Int)), bs.drop (i + 2 + bA bs (i + 1))) := by
  rw [drop_two h]
  unfold takeE
  simp only
  rw [if_pos (show (bs.getD (i + 1) 0).toNat ≤ (bs.drop (i + 2)).length by rw [List.length_drop]; unfold bA at h2; omega), List.drop_drop]
  rfl
theorem takeE_long {bs : List UInt8} {i : Nat} (h : i + 2 ≤ bs.length) (h2 : bs.length < i + 2 + bA bs (i + 1)) : takeE (bs.drop i) = none := by
  rw [drop_two h]
  unfold takeE
  simp only
  rw [if_neg (show ¬ (bs.getD (i + 1) 0).toNat ≤ (bs.drop (i + 2)).length by rw [List.length_drop]; unfold bA at h2; omega)]
/-- A file. -/
theorem rdI_file {bs : List UInt8} (h3 : bs.length = 3) (h1 : bA bs 0 = 1) : rdI bs = if rightI 1 ((bA bs 1 + 256 * bA bs 2 : Nat) : Int) [] = true then some (1, ((bA bs 1 + 256 * bA bs 2 : Nat) : Int), []) else none := by
  match bs, h3, h1 with
  | [a, x, y], _, h1 =>
    have h1 : a.toNat = 1 := h1
    unfold rdI
    simp only
    rw [if_pos h1]
    obtain ⟨q1, q2, q3⟩ := rdN_in [x, y] 2 false (by simp)
    rw [show ((2 : Nat) : Int) = 2 from rfl] at q1 q2 q3
    rw [q1, q2, q3]
    show finI 1 (numV [x, y] : Int) [] false [] = _
    have e : numV [x, y] = bA [a, x, y] 1 + 256 * bA [a, x, y] 2 := by show x.toNat + 256 * (y.toNat + 256 * 0) = x.toNat + 256 * y.toNat; omega
    rw [e]
    rfl
/-- Not a file, nor a directory of at most eight. -/
theorem rdI_short {bs : List UInt8} (h : bs.length < 2) : rdI bs = none := by
  match bs, h with
  | [], _ => rfl
  | [k], _ =>
    unfold rdI
    simp only
    by_cases h1 : k.toNat = 1
    · rw [if_pos h1]; rfl
    · rw [if_neg h1]
      by_cases h2 : k.toNat = 2
      · rw [if_pos h2]; rfl
      · rw [if_neg h2]
        exact finI_no (right_other (by omega) (by omega))
theorem rdI_kind {bs : List UInt8} (h : ¬ (bs.length = 3 ∧ bA bs 0 = 1)) (h2 : bA bs 0 ≠ 2) : rdI bs = none := by
  match bs with
  | [] => rfl
  | k :: t =>
    have h2 : k.toNat ≠ 2 := h2
    unfold rdI
    simp only
    by_cases h1 : k.toNat = 1
    · rw [if_pos h1]
      have hl : t.length ≠ 2 := fun e => h ⟨by simp [e], h1⟩
      by_cases h3 : 2 ≤ t.length
      · obtain ⟨q1, q2, q3⟩ := rdN_in t 2 false h3
        rw [show ((2 : Nat) : Int) = 2 from rfl] at q1 q2 q3
        rw [q2, q3]
        have : (t.drop 2).length ≠ 0 := by rw [List.length_drop]; omega
        match hd : t.drop 2 with
        | [] => rw [hd] at this; simp at this
        | x :: r => rfl
      · have := (rdN_out t 2 false h3).2.2
        rw [show ((2 : Nat) : Int) = 2 from rfl] at this
        rw [this]; rfl
    · rw [if_neg h1, if_neg h2]
      cases t with
      | nil => exact finI_no (right_other (by omega) (by omega))
      | cons x r => rfl
theorem rdI_dir2 {bs : List UInt8} (h : 2 ≤ bs.length) (h2 : bA bs 0 = 2) : rdI bs = match pE (bA bs 1) (bs.drop 2) with | none => none | some (es, r) => finI 2 0 es false r := by
  match bs, h, h2 with
  | k :: c :: t, _, h2 =>
    have h2 : k.toNat = 2 := h2
    unfold rdI
    simp only
    rw [if_neg (by omega), if_pos h2]
    rfl
theorem rdI_many {bs : List UInt8} (h : 2 ≤ bs.length) (h2 : bA bs 0 = 2) (h8 : 8 < bA bs 1) : rdI bs = none := by
  rw [rdI_dir2 h h2]
  cases hp : pE (bA bs 1) (bs.drop 2) with
  | none => rfl
  | some p =>
    obtain ⟨es, r⟩ := p
    obtain ⟨_, hl⟩ := pE_some _ _ _ _ hp
    show finI 2 0 es false r = none
    cases r with
    | nil => exact finI_no (by rw [right2, decide_eq_false (show ¬ es.length ≤ 8 by omega)]; simp)
    | cons x t => rfl
theorem rdI_mid_no {bs : List UInt8} (h : 2 ≤ bs.length) (h2 : bA bs 0 = 2) (hp : pE (bA bs 1) (bs.drop 2) = none) : rdI bs = none := by rw [rdI_dir2 h h2, hp]
theorem rdI_mid {bs : List UInt8} {es : List (List UInt8 × Int)} {i : Nat} (h : 2 ≤ bs.length) (h2 : bA bs 0 = 2) (hM : Mid (bA bs 1) 0 (bs.drop 2) (bs.drop i) false es) : rdI bs = finI 2 0 es false (bs.drop i) := by
  rw [rdI_dir2 h h2, hM.done]
end Go.Proofs.YteghldapcfkekaaK
