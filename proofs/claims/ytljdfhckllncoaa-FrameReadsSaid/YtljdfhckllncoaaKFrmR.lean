import Derived.Test.YtljdfhckllncoaaKFrmB
import Derived.Test.YtljdfhckllncoaaKHamX
import Derived.Test.YtljdfhckllncoaaKHamG
import Derived.Test.YtljdfhckllncoaaKHamAb
import Derived.Test.YtljdfhckllncoaaKMc
namespace Go.Proofs.YtljdfhckllncoaaK
open Go.RowKit
set_option linter.unusedSimpArgs false
set_option linter.unusedVariables false
/-- The bits that no check has. -/
def abv (c : Nat) : Nat := bitN c 13 + (bitN c 14 + bitN c 15)
def frC (bs : List UInt8) : Nat := numV (bs.drop 256)
def frX (bs : List UInt8) : List UInt8 × Nat × Nat := fixR (bs.take 256) (frC bs)
def sizeD (d : List UInt8) : Nat := (d.getD 1 0).toNat
def bodyD (d : List UInt8) : List UInt8 := if sizeD d ≤ 240 then (d.drop 2).take (sizeD d) else []
/-- What Read gives: kind, body, bits mended, the error's number. -/
def frR (bs : List UInt8) : UInt8 × List UInt8 × Nat × Nat :=
  if blankB bs = true then (0, [], 0, 20)
  else if 1 < abv (frC bs) then (0, [], 0, 21)
  else if (frX bs).2.2 ≠ 0 then (0, [], 0, (frX bs).2.2)
  else if (fwR ((frX bs).1.getD 0 0) (bodyD (frX bs).1)).2 = 0 ∧ sizeD (frX bs).1 ≤ 240 ∧ (fwR ((frX bs).1.getD 0 0) (bodyD (frX bs).1)).1.take 256 = (frX bs).1
    then ((frX bs).1.getD 0 0, bodyD (frX bs).1, (frX bs).2.1 + abv (frC bs), 0)
  else (0, [], 0, 21)
set_option maxRecDepth 100000 in
theorem hi_all : ∀ h : Fin 256, Lib.pop8 (((h.val / 32 * 32 : Nat)) : Int) = ((bitN h.val 5 + (bitN h.val 6 + bitN h.val 7) : Nat) : Int) := by decide +kernel
theorem ones16w (x : Nat) (hx : x < 65536) (w : World) : Calls Try.prog 43 #[.int .u16 (x : Int)] w fun e w' => e = .returned (.int .i64 (pc16 x : Int)) ∧ Below w.heap.size w w' := by
  have h0 : (0 : Int) ≤ x := by omega
  have h1 : (x : Int) < 65536 := by omega
  obtain ⟨q, hq⟩ : ∃ q, q = x / 256 := ⟨_, rfl⟩
  obtain ⟨r, hr⟩ : ∃ r, r = x % 256 := ⟨_, rfl⟩
  have hqi : (x : Int) / 256 = (q : Int) := by omega
  have hand : bits .and .u16 (x : Int) 255 = (r : Int) := by rw [hr]; exact u16_and_low 8 (by decide) x (by omega)
  have hql : q < 256 := by omega
  have hrl : r < 256 := by omega
  have a1 := pop8_le ⟨q, hql⟩
  have a2 := pop8_le ⟨r, hrl⟩
  have hp : (pc16 x : Int) = Lib.pop8 (q : Int) + Lib.pop8 (r : Int) := by
    unfold pc16
    rw [← hq, ← hr]
    simp only at a1 a2
    omega
  obtain ⟨u, hu⟩ : ∃ u, u = Lib.pop8 (q : Int) := ⟨_, rfl⟩
  obtain ⟨v, hv⟩ : ∃ v, v = Lib.pop8 (r : Int) := ⟨_, rfl⟩
  simp only at a1 a2
  rw [← hu] at a1 hp
  rw [← hv] at a2 hp
  have hu' := hu.symm
  have hv' := hv.symm
  have HP := Lib.hid hp
  have e1 : IntKind.u8.wrap (u + v) = u + v := by rw [IntKind.wrap_u8]; omega
  have e2 : IntKind.i64.wrap (u + v) = u + v := by rw [IntKind.wrap_i64]; omega
  have b1 : (q : Int) ≤ 255 := by omega
  have b2 : (r : Int) ≤ 255 := by omega
  clear hq hr hu hv hp
  go_enter Try.func43, Try.ntmps43
  go_wp2
  go_quiet (fail)
  go_wp2
  go_ret
  exact ⟨by rw [HP.out]; rfl, below_drewN' (Below.refl _ _)⟩
set_option maxRecDepth 100000 in
theorem andNot_hi (c : Nat) (hc : c < 65536) : bits .andNot .u16 (c : Int) 8191 = ((c / 8192 * 8192 : Nat) : Int) := by
  have e : c &&& 57344 = c / 8192 * 8192 := by
    apply Nat.eq_of_testBit_eq
    intro i
    rw [Nat.testBit_and, show c / 8192 * 8192 = (c >>> 13) <<< 13 from by rw [Nat.shiftRight_eq_div_pow, Nat.shiftLeft_eq], Nat.testBit_shiftLeft, Nat.testBit_shiftRight, show (57344 : Nat) = 7 <<< 13 from rfl, Nat.testBit_shiftLeft]
    by_cases h1 : 13 ≤ i
    · obtain ⟨j, rfl⟩ : ∃ j, i = 13 + j := ⟨i - 13, by omega⟩
      simp only [show 13 + j - 13 = j from by omega, decide_eq_true h1, Bool.true_and]
      by_cases h2 : j < 3
      · have h3 : j = 0 ∨ j = 1 ∨ j = 2 := by omega
        rcases h3 with rfl | rfl | rfl
        · rw [show (7 : Nat).testBit 0 = true from rfl]; simp
        · rw [show (7 : Nat).testBit 1 = true from rfl]; simp
        · rw [show (7 : Nat).testBit 2 = true from rfl]; simp
      · have h4 : c.testBit (13 + j) = false := Nat.testBit_lt_two_pow (Nat.lt_of_lt_of_le (show c < 2 ^ 16 from hc) (Nat.pow_le_pow_right (by decide) (by omega)))
        rw [h4, Bool.false_and]
    · simp [h1]
  show IntKind.u16.wrap (((BitVec.ofInt 16 (c : Int)) &&& ~~~(BitVec.ofInt 16 8191)).toNat : Int) = _
  rw [BitVec.ofInt_natCast, BitVec.toNat_and, BitVec.toNat_ofNat, Nat.mod_eq_of_lt (by omega), show (~~~(BitVec.ofInt 16 8191)).toNat = 57344 from by decide, e, IntKind.wrap_u16]
  omega
theorem pc16_hi (c : Nat) (hc : c < 65536) : pc16 (c / 8192 * 8192) = abv c := by
  have h := hi_all ⟨c / 256, by omega⟩
  simp only at h
  unfold pc16 abv
  rw [show c / 8192 * 8192 / 256 = c / 256 / 32 * 32 from by omega, show c / 8192 * 8192 % 256 = 0 from by omega, h]
  rw [show bitN c 13 = bitN (c / 256) 5 from bitN_hi c 5, show bitN c 14 = bitN (c / 256) 6 from bitN_hi c 6, show bitN c 15 = bitN (c / 256) 7 from bitN_hi c 7]
  rw [show Lib.pop8 ((0 : Nat) : Int) = 0 from by decide +kernel]
  omega
theorem frC_lt (bs : List UInt8) (hl : bs.length = 258) : frC bs < 65536 := by
  unfold frC
  have := numV_lt (bs.drop 256)
  rw [List.length_drop, hl] at this
  exact this
theorem abv_le (c : Nat) : abv c ≤ 3 := by
  unfold abv
  have a := bitN_lt c 13; have b := bitN_lt c 14; have d := bitN_lt c 15
  omega
theorem frX_len (bs : List UInt8) (hl : bs.length = 258) : (frX bs).1.length = 256 := fixR_len _ (by rw [List.length_take]; omega) _
theorem frX_err (bs : List UInt8) : (frX bs).2.1 ≤ 1 ∧ ((frX bs).2.2 = 0 ∨ (frX bs).2.2 = 21) := by
  refine ⟨(fixR_err _ _).1, ?_⟩
  unfold frX fixR
  split
  · exact .inl rfl
  · split
    · exact .inr rfl
    · split
      · exact .inl rfl
      · split
        · exact .inr rfl
        · exact .inl rfl
set_option maxRecDepth 100000 in
set_option maxHeartbeats 4000000 in
theorem fread_blank (bs : List UInt8) (hl : bs.length = 258) (hb : blankB bs = true) (w : World) :
    Calls Try.prog 16 #[.agg (bs.map encB).toArray] w fun e w' => e = .returned (.tuple #[.int .u8 0, .slice none 0 0, .int .i64 0, .int .i64 20]) ∧ Below w.heap.size w w' := by
  have HB := Lib.hid (fun W => blank_any bs hl W)
  rw [hb] at HB
  obtain ⟨L, hL⟩ : ∃ L, L = bs.map encB := ⟨_, rfl⟩
  have hLl : L.length = 258 := by rw [hL, List.length_map]; exact hl
  rw [← hL] at HB ⊢
  have HI := Lib.hid (show (Try.prog.info? 26).map (·.size) = some L.length by rw [hLl]; exact page_info)
  clear hL hLl hl hb
  have hR : Rows w [(w.heap.size, L)] (w.alloc (.cells L.toArray 26)) := (Rows.nil w).newL L _
  have hA := hR.get (b := w.heap.size) (L := L) (by simp)
  go_enter Try.func16, Try.ntmps16
  go_wp2_with (first
    | (refine wpList_load_mid rfl 26 _ rfl w.heap.size 0 rfl L _ hA.1 Try.underlying26 rfl HI.out ?_)
    | (refine wp_load_mid 26 _ rfl w.heap.size 0 rfl L _ hA.1 Try.underlying26 rfl HI.out ?_)
    | (go_at_call 17; refine (HB.out _).mono ?_; rintro e w1 ⟨rfl, hb1⟩; have hR1 := hR.go hb1))
  exact bodyPost_ret (v := .tuple #[.int .u8 0, .slice none 0 0, .int .i64 0, .int .i64 20]) (by simp [results, Try.results16, go_sem]) rfl ⟨rfl, hR1.below⟩
set_option maxRecDepth 100000 in
set_option maxHeartbeats 4000000 in
theorem fread_above (bs : List UInt8) (hl : bs.length = 258) (hb : blankB bs = false) (ha : 1 < abv (frC bs)) (w : World) :
    Calls Try.prog 16 #[.agg (bs.map encB).toArray] w fun e w' => e = .returned (.tuple #[.int .u8 0, .slice none 0 0, .int .i64 0, .int .i64 21]) ∧ Below w.heap.size w w' := by
  have HB := Lib.hid (fun W => blank_any bs hl W)
  rw [hb] at HB
  have hd2 : (bs.drop 256).length = 2 := by rw [List.length_drop, hl]
  have HN := Lib.hid (fun W A h => new_any A 2 2 (bs.drop 256) W h (by decide))
  have H2 := Lib.hid (fun b D W h => rnum_in b D (bs.drop 256) false 2 2 W rfl (by omega) h (by omega))
  rw [List.take_of_length_le (by omega), show numV (bs.drop 256) = frC bs from rfl] at H2
  have hC9 := frC_lt bs hl
  have hC16 : IntKind.u16.wrap ((frC bs : Nat) : Int) = frC bs := by rw [IntKind.wrap_u16]; omega
  have hnot := andNot_hi (frC bs) hC9
  have HO := Lib.hid (fun W => ones16w (frC bs / 8192 * 8192) (by omega) W)
  rw [pc16_hi _ hC9] at HO
  have hlb := hl
  obtain ⟨L, hL⟩ : ∃ L, L = bs.map encB := ⟨_, rfl⟩
  have hLl : L.length = 258 := by rw [hL, List.length_map]; exact hl
  have HBS := Lib.hid (fun W b (h : Arr W b (bs.map encB)) => h.bs 256 2 2 (by omega) (by decide) (by decide))
  rw [show (bs.drop 256).take 2 = bs.drop 256 from List.take_of_length_le (by omega)] at HBS
  rw [← hL] at HB HBS ⊢
  have HI := Lib.hid (show (Try.prog.info? 26).map (·.size) = some L.length by rw [hLl]; exact page_info)
  obtain ⟨C, hC⟩ : ∃ C, C = frC bs := ⟨_, rfl⟩
  obtain ⟨V, hV⟩ : ∃ C, C = abv (frC bs) := ⟨_, rfl⟩
  rw [← hV] at HO ha
  rw [← hC] at H2 hC16 hnot HO
  obtain ⟨M, hM⟩ : ∃ M, M = C / 8192 * 8192 := ⟨_, rfl⟩
  rw [← hM] at hnot HO
  have hV3 : V ≤ 3 := by rw [hV]; exact abv_le _
  have hai : (1 : Int) < V := by omega
  clear hL hLl hl hb hd2 hC9 hlb hC hV hM
  obtain ⟨W, hW⟩ : ∃ W, W = w.alloc (.cells L.toArray 26) := ⟨_, rfl⟩
  obtain ⟨xb, hxb⟩ : ∃ xb, xb = w.heap.size := ⟨_, rfl⟩
  have hR0 : Rows w [(xb, L)] W := by rw [hW, hxb]; exact (Rows.nil w).newL L _
  have hA0 := hR0.get (b := xb) (L := L) (by simp)
  go_enter Try.func16, Try.ntmps16
  go_upto_region 1 with fail
  rw [← hW]
  simp only [← hxb]
  clear hW hxb
  go_wp2_with (first
    | (refine wpList_load_mid rfl 26 _ rfl xb 0 rfl L _ hA0.1 Try.underlying26 rfl HI.out ?_)
    | (refine wp_load_mid 26 _ rfl xb 0 rfl L _ hA0.1 Try.underlying26 rfl HI.out ?_)
    | (go_at_call 17; refine (HB.out _).mono ?_; rintro e w1 ⟨rfl, hb1⟩; have hR1 := hR0.go hb1; have hA1 := hR1.get (b := xb) (L := L) (by simp))
    | (go_at_call 41; refine (HN.out _ _ (HBS.out _ _ hA1)).mono ?_; rintro e w2 ⟨rb, D, rfl, hrb, hD1, hD2, hr2, hb2⟩; have hR2 := hR1.go hb2)
    | (go_at_call 42; refine (H2.out _ _ _ hr2).mono ?_; rintro e w3 ⟨rfl, hr3, hg3⟩; have hR3 := hR2.grown hg3 (by intro p hp; simp at hp; subst hp; have := hA1.2.2; simp only; omega) (Nat.le_trans hR1.below.size hrb))
    | (go_at_call 43; refine (HO.out _).mono ?_; rintro e w4 ⟨rfl, hb4⟩; have hR4 := hR3.go hb4))
  exact bodyPost_ret (v := .tuple #[.int .u8 0, .slice none 0 0, .int .i64 0, .int .i64 21]) (by simp [results, Try.results16, go_sem]) rfl ⟨rfl, hR4.below⟩
end Go.Proofs.YtljdfhckllncoaaK
