import Derived.Test.YtljdfhckllncoaaKFrmV
import Derived.Test.YtljdfhckllncoaaKFrmA
namespace Go.Proofs.YtljdfhckllncoaaK
open Go.RowKit
set_option linter.unusedSimpArgs false
set_option linter.unusedVariables false
/-! A written page with one or two of its bits turned: what Read gives. -/
theorem frC_two (bs : List UInt8) (hl : bs.length = 258) : frC bs = (bs.getD 256 0).toNat + 256 * (bs.getD 257 0).toNat := by
  have hd : bs.drop 256 = [bs.getD 256 0, bs.getD 257 0] := by
    apply List.ext_getElem?
    intro i
    rw [List.getElem?_drop]
    match i with
    | 0 => simp [List.getD_eq_getElem?_getD, List.getElem?_eq_getElem (show 256 < bs.length by omega)]
    | 1 => simp [List.getD_eq_getElem?_getD, List.getElem?_eq_getElem (show 257 < bs.length by omega)]
    | i + 2 => rw [List.getElem?_eq_none (by omega)]; simp
  unfold frC
  rw [hd, numV_two]
theorem xor_lo (a b j : Nat) (ha : a < 256) (hj : j < 8) : (a + 256 * b) ^^^ 2 ^ j = (a ^^^ 2 ^ j) + 256 * b := by
  have h2 : (2 : Nat) ^ j < 256 := by have := Nat.pow_lt_pow_right (a := 2) (by decide) hj; simpa using this
  have h1 := Nat.xor_div_two_pow (a := a + 256 * b) (b := 2 ^ j) (n := 8)
  have h3 := Nat.xor_mod_two_pow (a := a + 256 * b) (b := 2 ^ j) (n := 8)
  rw [show (2 : Nat) ^ 8 = 256 from rfl] at h1 h3
  rw [show (a + 256 * b) / 256 = b from by omega, Nat.div_eq_of_lt h2, Nat.xor_zero] at h1
  rw [show (a + 256 * b) % 256 = a from by omega, Nat.mod_eq_of_lt h2] at h3
  omega
theorem xor_hi (a b j : Nat) (ha : a < 256) : (a + 256 * b) ^^^ 2 ^ (8 + j) = a + 256 * (b ^^^ 2 ^ j) := by
  have h1 := Nat.xor_div_two_pow (a := a + 256 * b) (b := 2 ^ (8 + j)) (n := 8)
  have h3 := Nat.xor_mod_two_pow (a := a + 256 * b) (b := 2 ^ (8 + j)) (n := 8)
  have h4 : (2 : Nat) ^ (8 + j) = 256 * 2 ^ j := by rw [Nat.pow_add]
  rw [show (2 : Nat) ^ 8 = 256 from rfl] at h1 h3
  rw [show (a + 256 * b) / 256 = b from by omega, show (2 : Nat) ^ (8 + j) / 256 = 2 ^ j from by omega] at h1
  rw [show (a + 256 * b) % 256 = a from by omega, show (2 : Nat) ^ (8 + j) % 256 = 0 from by omega, Nat.xor_zero] at h3
  omega
theorem flipD_getD (bs : List UInt8) (i j : Nat) (hi : i / 8 < bs.length) : (flipD bs i).getD j 0 = if j = i / 8 then UInt8.ofNat ((bs.getD (i / 8) 0).toNat ^^^ 2 ^ (i % 8)) else bs.getD j 0 := by
  unfold flipD
  rw [byte_getD _ _ _ _ hi]
theorem flip_small (y i : Nat) (hy : y < 256) : y ^^^ 2 ^ (i % 8) < 256 := Nat.xor_lt_two_pow (n := 8) hy (by
  have := Nat.pow_lt_pow_right (a := 2) (by decide) (Nat.mod_lt i (by decide : 0 < 8)); simpa using this)
theorem page_turn (bs : List UInt8) (hl : bs.length = 258) (i : Nat) (hi : i < 2064) :
    (flipD bs i).take 256 = (turnR (bs.take 256) (frC bs) i).1 ∧ frC (flipD bs i) = (turnR (bs.take 256) (frC bs) i).2 := by
  have hl2 : (flipD bs i).length = 258 := by rw [flip_len]; exact hl
  have ha := (bs.getD 256 0).toNat_lt
  have hb := (bs.getD 257 0).toNat_lt
  unfold turnR
  by_cases h : i < 2048
  · rw [if_pos h]
    constructor
    · show (flipD bs i).take 256 = flipD (bs.take 256) i
      unfold flipD
      rw [List.take_set, show (bs.take 256).getD (i / 8) 0 = bs.getD (i / 8) 0 from by
        rw [List.getD_eq_getElem?_getD, List.getD_eq_getElem?_getD, List.getElem?_take_of_lt (by omega)]]
    · show frC (flipD bs i) = frC bs
      rw [frC_two _ hl2, frC_two _ hl, flipD_getD bs i 256 (by omega), flipD_getD bs i 257 (by omega), if_neg (by omega), if_neg (by omega)]
  · rw [if_neg h]
    constructor
    · show (flipD bs i).take 256 = bs.take 256
      unfold flipD
      rw [List.take_set, List.set_eq_of_length_le (by rw [List.length_take]; omega)]
    · show frC (flipD bs i) = frC bs ^^^ 2 ^ (i - 2048)
      rw [frC_two _ hl2, frC_two _ hl, flipD_getD bs i 256 (by omega), flipD_getD bs i 257 (by omega)]
      by_cases h2 : i < 2056
      · have e1 : i / 8 = 256 := by omega
        have e2 : i % 8 = i - 2048 := by omega
        rw [e1, if_pos rfl, if_neg (by decide), UInt8.toNat_ofNat_of_lt' (flip_small _ _ ha), e2, xor_lo _ _ _ ha (by omega)]
      · have e1 : i / 8 = 257 := by omega
        have e2 : i % 8 = i - 2056 := by omega
        rw [e1, if_neg (by decide), if_pos rfl, UInt8.toNat_ofNat_of_lt' (flip_small _ _ hb), e2, show i - 2048 = 8 + (i - 2056) from by omega, xor_hi _ _ _ ha]
theorem fix_hi (d : List UInt8) (c r : Nat) (hr : 13 ≤ r) : fixR d (c ^^^ 2 ^ r) = fixR d c := by
  obtain ⟨s, rfl⟩ : ∃ s, r = 13 + s := ⟨r - 13, by omega⟩
  have h0 : (2 : Nat) ^ (13 + s) = 8192 * 2 ^ s := by rw [Nat.pow_add]
  have h1 := Nat.xor_mod_two_pow (a := c) (b := 2 ^ (13 + s)) (n := 13)
  have h2 := Nat.xor_mod_two_pow (a := c) (b := 2 ^ (13 + s)) (n := 12)
  rw [show (2 : Nat) ^ 13 = 8192 from rfl, show (2 : Nat) ^ (13 + s) % 8192 = 0 from by omega, Nat.xor_zero] at h1
  rw [show (2 : Nat) ^ 12 = 4096 from rfl, show (2 : Nat) ^ (13 + s) % 4096 = 0 from by omega, Nat.xor_zero] at h2
  have h3 : synd d (c ^^^ 2 ^ (13 + s)) = synd d c := by unfold synd; rw [h2]
  have h4 : parO d (c ^^^ 2 ^ (13 + s)) = parO d c := by unfold parO; rw [h1]
  rw [fix_synd, fix_synd, h3, h4]
theorem bitN_small13 (c j : Nat) (hc : c < 8192) (hj : 13 ≤ j) : bitN c j = 0 := by
  unfold bitN
  have : (2 : Nat) ^ 13 ≤ 2 ^ j := Nat.pow_le_pow_right (by decide) hj
  rw [Nat.div_eq_of_lt (by rw [show (2 : Nat) ^ 13 = 8192 from rfl] at this; omega)]
theorem abv_small (c : Nat) (hc : c < 8192) : abv c = 0 := by
  unfold abv
  rw [bitN_small13 c 13 hc (by decide), bitN_small13 c 14 hc (by decide), bitN_small13 c 15 hc (by decide)]
theorem abv_one (c r : Nat) (hc : c < 8192) (h1 : 13 ≤ r) (h2 : r < 16) : abv (c ^^^ 2 ^ r) = 1 := by
  unfold abv
  rw [bitN_xor, bitN_xor, bitN_xor, bitN_small13 c 13 hc (by decide), bitN_small13 c 14 hc (by decide), bitN_small13 c 15 hc (by decide), bitN_two, bitN_two, bitN_two]
  have h : r = 13 ∨ r = 14 ∨ r = 15 := by omega
  rcases h with rfl | rfl | rfl <;> decide
theorem abv_two (c r s : Nat) (hc : c < 8192) (h1 : 13 ≤ r) (h2 : r < 16) (h3 : 13 ≤ s) (h4 : s < 16) (hne : r ≠ s) : abv (c ^^^ 2 ^ r ^^^ 2 ^ s) = 2 := by
  unfold abv
  rw [bitN_xor, bitN_xor, bitN_xor, bitN_xor, bitN_xor, bitN_xor, bitN_small13 c 13 hc (by decide), bitN_small13 c 14 hc (by decide), bitN_small13 c 15 hc (by decide), bitN_two, bitN_two, bitN_two, bitN_two, bitN_two, bitN_two]
  have h : r = 13 ∨ r = 14 ∨ r = 15 := by omega
  have h' : s = 13 ∨ s = 14 ∨ s = 15 := by omega
  rcases h with rfl | rfl | rfl <;> rcases h' with rfl | rfl | rfl <;> first | decide | exact absurd rfl hne
theorem zer_ge (bs : List UInt8) (j : Nat) : ∀ k, j < k → Lib.onesCount (255 - (bs.getD j 0).toNat) ≤ zer bs k := by
  intro k
  induction k with
  | zero => intro h; omega
  | succ k ih =>
    intro h
    unfold zer
    by_cases e : j = k
    · subst e; omega
    · have := ih (by omega); omega
theorem not_blank_of (bs : List UInt8) (j : Nat) (hj : j < 258) (h : bs.getD j 0 = 0) : blankB bs = false := by
  have h1 := zer_ge bs j 258 hj
  rw [h, show Lib.onesCount (255 - (0 : UInt8).toNat) = 8 from by decide +kernel] at h1
  unfold blankB
  exact decide_eq_false (by omega)
theorem frP_zero (k : UInt8) (body : List UInt8) (h : body.length ≤ 240) (j : Nat) (h1 : 242 ≤ j) (h2 : j < 252) : (frP k body).getD j 0 = 0 := by
  rw [List.getD_eq_getElem?_getD, frP_eq k body h, List.getElem?_append_left (by rw [frD_len k body h]; omega), frD_get k body h j h2, frH_z k body h j (by omega) (by omega)]
  rfl
theorem blank_flip (k : UInt8) (body : List UInt8) (h : body.length ≤ 240) (x y : Nat) (hx : x < 2064) (hy : y < 2064) : blankB (flipD (frP k body) x) = false ∧ blankB (flipD (flipD (frP k body) x) y) = false := by
  have hl := frP_len k body h
  obtain ⟨j, h1, h2, h3, h4⟩ : ∃ j, 242 ≤ j ∧ j < 252 ∧ j ≠ x / 8 ∧ j ≠ y / 8 := by
    by_cases a : 242 ≠ x / 8 ∧ 242 ≠ y / 8
    · exact ⟨242, by omega, by omega, a.1, a.2⟩
    · by_cases b : 243 ≠ x / 8 ∧ 243 ≠ y / 8
      · exact ⟨243, by omega, by omega, b.1, b.2⟩
      · exact ⟨244, by omega, by omega, by omega, by omega⟩
  have e1 : (flipD (frP k body) x).getD j 0 = 0 := by
    rw [flipD_getD _ _ _ (by omega), if_neg h3]; exact frP_zero k body h j h1 h2
  refine ⟨not_blank_of _ j (by omega) e1, not_blank_of _ j (by omega) ?_⟩
  rw [flipD_getD _ _ _ (by rw [flip_len]; omega), if_neg h4]; exact e1
theorem frP_take (k : UInt8) (body : List UInt8) (h : body.length ≤ 240) : (frP k body).take 256 = frD k body := by
  rw [frP_eq k body h, List.take_append_of_le_length (by rw [frD_len k body h]; omega), List.take_of_length_le (by rw [frD_len k body h]; omega)]
theorem frP_C (k : UInt8) (body : List UInt8) (h : body.length ≤ 240) : frC (frP k body) = chk (frD k body) := by
  have hc := chk_lt (frD k body)
  unfold frC
  rw [frP_eq k body h, List.drop_left' (frD_len k body h), numV_numB]
  omega
theorem frR_good (bs : List UInt8) (k : UInt8) (body : List UInt8) (n : Nat) (hk : k ≠ 0) (hk2 : k ≠ 255) (h : body.length ≤ 240) (hb : blankB bs = false) (ha : abv (frC bs) ≤ 1) (hx : frX bs = (frD k body, n, 0)) :
    frR bs = (k, body, n + abv (frC bs), 0) := by
  have hl := frD_len k body h
  have e0 : (frD k body).getD 0 0 = k := by rw [List.getD_eq_getElem?_getD, frD_get k body h 0 (by decide), frH_0 k body h]; rfl
  have e1 : sizeD (frD k body) = body.length := by
    unfold sizeD
    rw [List.getD_eq_getElem?_getD, frD_get k body h 1 (by decide), frH_1 k body h]
    show (UInt8.ofNat body.length).toNat = _
    exact UInt8.toNat_ofNat_of_lt' (Nat.lt_of_le_of_lt h (by decide))
  have e2 : bodyD (frD k body) = body := by unfold bodyD; rw [e1, if_pos h]; exact frD_body k body h
  have e3 : fwR k body = (frP k body, 0) := by
    unfold fwR
    rw [if_neg]
    rintro (h | h | h)
    · exact hk h
    · exact hk2 h
    · omega
  unfold frR
  rw [hb, if_neg (by decide), if_neg (by omega), hx]
  simp only [e0, e1, e2, e3]
  rw [if_neg (by simp), if_pos ⟨trivial, h, frP_take k body h⟩]
theorem frR_bad (bs : List UInt8) (hb : blankB bs = false) (hx : abv (frC bs) ≤ 1 → (frX bs).2.2 = 21) : frR bs = (0, [], 0, 21) := by
  unfold frR
  rw [hb, if_neg (by decide)]
  by_cases h : 1 < abv (frC bs)
  · rw [if_pos h]
  · rw [if_neg h, hx (by omega), if_pos (by decide)]
theorem mends_none (k : UInt8) (body : List UInt8) (hk : k ≠ 0) (hk2 : k ≠ 255) (h : body.length ≤ 240) : frR (frP k body) = (k, body, 0, 0) := by
  have hC := frP_C k body h
  have hc := chk_lt (frD k body)
  have ha : abv (frC (frP k body)) = 0 := by rw [hC]; exact abv_small _ hc
  have hb : blankB (frP k body) = false := not_blank_of _ 242 (by decide) (frP_zero k body h 242 (by decide) (by decide))
  have := frR_good (frP k body) k body 0 hk hk2 h hb (by omega) (by unfold frX; rw [frP_take k body h, hC]; exact fix_whole _)
  rw [ha] at this
  exact this
theorem mends_one (k : UInt8) (body : List UInt8) (hk : k ≠ 0) (hk2 : k ≠ 255) (h : body.length ≤ 240) (x : Nat) (hx : x < 2064) : frR (flipD (frP k body) x) = (k, body, 1, 0) := by
  have hC := frP_C k body h
  have hc := chk_lt (frD k body)
  have hl := frD_len k body h
  obtain ⟨h1, h2⟩ := page_turn (frP k body) (frP_len k body h) x hx
  rw [frP_take k body h, hC] at h1 h2
  have hb := (blank_flip k body h x x hx hx).1
  by_cases hx1 : x < 2061
  · have ha : abv (frC (flipD (frP k body) x)) = 0 := by rw [h2]; exact abv_small _ (turn_lt _ _ _ hc hx1)
    have := frR_good _ k body 1 hk hk2 h hb (by omega) (by unfold frX; rw [h1, h2]; exact fix_one _ hl x hx1)
    rw [ha] at this
    exact this
  · unfold turnR at h1 h2
    rw [if_neg (by omega)] at h1 h2
    simp only at h1 h2
    have ha : abv (frC (flipD (frP k body) x)) = 1 := by rw [h2]; exact abv_one _ _ hc (by omega) (by omega)
    have := frR_good _ k body 0 hk hk2 h hb (by omega) (by unfold frX; rw [h1, h2, fix_hi _ _ _ (by omega)]; exact fix_whole _)
    rw [ha] at this
    exact this
theorem flip_page (bs : List UInt8) (i : Nat) (hi : i / 8 < bs.length) : flipD (flipD bs i) i = bs := by
  have hx8 := (bs.getD (i / 8) 0).toNat_lt
  have hyl := flip_small _ i hx8
  unfold flipD
  rw [byte_getD _ _ _ _ hi, if_pos rfl, UInt8.toNat_ofNat_of_lt' hyl, Nat.xor_assoc, Nat.xor_self, Nat.xor_zero, UInt8.ofNat_toNat, List.set_set]
  rw [List.getD_eq_getElem?_getD, List.getElem?_eq_getElem hi]
  exact List.set_getElem_self hi
theorem mends_two (k : UInt8) (body : List UInt8) (hk : k ≠ 0) (hk2 : k ≠ 255) (h : body.length ≤ 240) (x y : Nat) (hx : x < 2064) (hy : y < 2064) :
    frR (flipD (flipD (frP k body) x) y) = if x = y then (k, body, 0, 0) else if (decide (2061 ≤ x) != decide (2061 ≤ y)) = true then (k, body, 2, 0) else (0, [], 0, 21) := by
  by_cases hxy : x = y
  · subst hxy
    rw [if_pos rfl, flip_page _ _ (by rw [frP_len k body h]; omega)]
    exact mends_none k body hk hk2 h
  rw [if_neg hxy]
  have hC := frP_C k body h
  have hc := chk_lt (frD k body)
  have hl := frD_len k body h
  obtain ⟨h1, h2⟩ := page_turn (frP k body) (frP_len k body h) x hx
  obtain ⟨h3, h4⟩ := page_turn (flipD (frP k body) x) (by rw [flip_len]; exact frP_len k body h) y hy
  rw [frP_take k body h, hC] at h1 h2
  rw [h1, h2] at h3 h4
  have hb := (blank_flip k body h x y hx hy).2
  by_cases hx1 : x < 2061
  · by_cases hy1 : y < 2061
    · rw [decide_eq_false (by omega : ¬ 2061 ≤ x), decide_eq_false (by omega : ¬ 2061 ≤ y), if_neg (by decide)]
      refine frR_bad _ hb (fun _ => ?_)
      unfold frX
      rw [h3, h4, fix_twice _ hl x y hx1 hy1 hxy]
    · rw [decide_eq_false (by omega : ¬ 2061 ≤ x), decide_eq_true (by omega : 2061 ≤ y), if_pos (by decide)]
      have h5 := turn_lt (frD k body) _ x hc hx1
      have h6 := fix_one (frD k body) hl x hx1
      obtain ⟨T, hT⟩ : ∃ T, T = turnR (frD k body) (chk (frD k body)) x := ⟨_, rfl⟩
      rw [← hT] at h3 h4 h5 h6
      unfold turnR at h3 h4
      rw [if_neg (by omega)] at h3 h4
      simp only at h3 h4
      have ha : abv (frC (flipD (flipD (frP k body) x) y)) = 1 := by rw [h4]; exact abv_one _ _ h5 (by omega) (by omega)
      have := frR_good _ k body 1 hk hk2 h hb (by omega) (by unfold frX; rw [h3, h4, fix_hi _ _ _ (by omega)]; exact h6)
      rw [ha] at this
      exact this
  · by_cases hy1 : y < 2061
    · rw [decide_eq_true (by omega : 2061 ≤ x), decide_eq_false (by omega : ¬ 2061 ≤ y), if_pos (by decide)]
      have h6 := fix_one (frD k body) hl y hy1
      have h5 := turn_lt (frD k body) _ y hc hy1
      have ht : (turnR (turnR (frD k body) (chk (frD k body)) x).1 (turnR (frD k body) (chk (frD k body)) x).2 y) = ((turnR (frD k body) (chk (frD k body)) y).1, (turnR (frD k body) (chk (frD k body)) y).2 ^^^ 2 ^ (x - 2048)) := by
        unfold turnR
        rw [if_neg (show ¬ x < 2048 by omega)]
        simp only
        split
        · rfl
        · rw [Nat.xor_assoc, Nat.xor_comm (2 ^ (x - 2048)), ← Nat.xor_assoc]
      rw [ht] at h3 h4
      simp only at h3 h4
      have ha : abv (frC (flipD (flipD (frP k body) x) y)) = 1 := by rw [h4]; exact abv_one _ _ h5 (by omega) (by omega)
      have := frR_good _ k body 1 hk hk2 h hb (by omega) (by unfold frX; rw [h3, h4, fix_hi _ _ _ (by omega)]; exact h6)
      rw [ha] at this
      exact this
    · rw [decide_eq_true (by omega : 2061 ≤ x), decide_eq_true (by omega : 2061 ≤ y), if_neg (by decide)]
      refine frR_bad _ hb (fun ha => ?_)
      unfold turnR at h4
      rw [if_neg (show ¬ x < 2048 by omega), if_neg (show ¬ y < 2048 by omega)] at h4
      simp only at h4
      rw [h4, abv_two _ _ _ hc (by omega) (by omega) (by omega) (by omega) (by omega)] at ha
      omega
end Go.Proofs.YtljdfhckllncoaaK
