import Derived.Test.YtljdfhckllncoaaKFrmR
import Derived.Test.YtljdfhckllncoaaKEqB
import Derived.Test.YtljdfhckllncoaaKFrmA
import Derived.Laws.Cover3
namespace Go.Proofs.YtljdfhckllncoaaK
open Go.RowKit
set_option linter.unusedSimpArgs false
set_option linter.unusedVariables false
def fsA (S ab db : Nat) : Nat → Value → World → Prop
  | 0, v, _ => v = .int .i64 1
  | 1, v, _ => v = .bool true
  | 2, v, _ => v = .bool true
  | 3, v, _ => v = undef
  | 4, v, _ => v = undef
  | 5, v, _ => v = .bool true
  | 6, v, _ => v = .bool true
  | 7, v, _ => v = undef
  | 8, v, _ => v = undef
  | 9, v, _ => v = undef
  | 10, v, _ => v = undef
  | 11, v, _ => v = .bool true
  | _, _, _ => False
theorem fsA_below {S ab db : Nat} (i : Nat) (v : Value) (w w' : World) (hb : Below w.heap.size w w') (h : fsA S ab db i v w) : fsA S ab db i v w' := by
  match i with
  | 0 | 1 | 2 | 3 | 4 | 5 | 6 | 7 | 8 | 9 | 10 | 11 => exact h
  | n + 12 => exact h

def fsB (S ab db : Nat) : Nat → Value → World → Prop
  | 0, v, _ => v = .int .i64 0
  | 1, v, _ => v = .bool false
  | 2, v, _ => v = .bool false
  | 3, v, _ => v = .int .i64 (S : Int)
  | 4, v, _ => v = .bool true
  | 5, v, _ => v = .bool true
  | 6, v, _ => v = .bool true
  | 7, v, _ => v = undef
  | 8, v, _ => v = undef
  | 9, v, _ => v = undef
  | 10, v, _ => v = undef
  | 11, v, _ => v = .bool true
  | _, _, _ => False
theorem fsB_below {S ab db : Nat} (i : Nat) (v : Value) (w w' : World) (hb : Below w.heap.size w w') (h : fsB S ab db i v w) : fsB S ab db i v w' := by
  match i with
  | 0 | 1 | 2 | 3 | 4 | 5 | 6 | 7 | 8 | 9 | 10 | 11 => exact h
  | n + 12 => exact h

def fsC (S ab db : Nat) : Nat → Value → World → Prop
  | 0, v, _ => v = .int .i64 0
  | 1, v, _ => v = .bool false
  | 2, v, _ => v = .bool false
  | 3, v, _ => v = .int .i64 (S : Int)
  | 4, v, _ => v = .bool false
  | 5, v, _ => v = .bool false
  | 6, v, _ => v = .bool false
  | 7, v, _ => v = .slice (some ⟨ab, 0, none⟩) 256 258
  | 8, v, _ => v = .slice (some ⟨db, 0, none⟩) 256 256
  | 9, v, _ => v = .bool false
  | 10, v, _ => v = .bool true
  | 11, v, _ => v = .bool true
  | _, _, _ => False
theorem fsC_below {S ab db : Nat} (i : Nat) (v : Value) (w w' : World) (hb : Below w.heap.size w w') (h : fsC S ab db i v w) : fsC S ab db i v w' := by
  match i with
  | 0 | 1 | 2 | 3 | 4 | 5 | 6 | 7 | 8 | 9 | 10 | 11 => exact h
  | n + 12 => exact h

def fsD (S ab db : Nat) : Nat → Value → World → Prop
  | 0, v, _ => v = .int .i64 0
  | 1, v, _ => v = .bool false
  | 2, v, _ => v = .bool false
  | 3, v, _ => v = .int .i64 (S : Int)
  | 4, v, _ => v = .bool false
  | 5, v, _ => v = .bool false
  | 6, v, _ => v = .bool false
  | 7, v, _ => v = .slice (some ⟨ab, 0, none⟩) 256 258
  | 8, v, _ => v = .slice (some ⟨db, 0, none⟩) 256 256
  | 9, v, _ => v = .bool true
  | 10, v, _ => v = .bool false
  | 11, v, _ => v = .bool false
  | _, _, _ => False
theorem fsD_below {S ab db : Nat} (i : Nat) (v : Value) (w w' : World) (hb : Below w.heap.size w w') (h : fsD S ab db i v w) : fsD S ab db i v w' := by
  match i with
  | 0 | 1 | 2 | 3 | 4 | 5 | 6 | 7 | 8 | 9 | 10 | 11 => exact h
  | n + 12 => exact h

set_option maxRecDepth 100000 in
set_option maxHeartbeats 8000000 in
theorem fread_fix (bs : List UInt8) (hl : bs.length = 258) (hb : blankB bs = false) (ha : abv (frC bs) ≤ 1) (he : (frX bs).2.2 = 21) (w : World) :
    Calls Try.prog 16 #[.agg (bs.map encB).toArray] w fun e w' => e = .returned (.tuple #[.int .u8 0, .slice none 0 0, .int .i64 0, .int .i64 21]) ∧ Below w.heap.size w w' := by
  have HB := Lib.hid (fun W => blank_any bs hl W)
  rw [hb] at HB
  have hd2 : (bs.drop 256).length = 2 := by rw [List.length_drop, hl]
  have HN := Lib.hid (fun W A h => new_any A 2 2 (bs.drop 256) W h (by decide))
  have H2 := Lib.hid (fun b D W h => rnum_in b D (bs.drop 256) false 2 2 W rfl (by omega) h (by omega))
  rw [List.take_of_length_le (by omega), show numV (bs.drop 256) = frC bs from rfl] at H2
  have hC9 := frC_lt bs hl
  have hC16 : IntKind.u16.wrap ((frC bs : Nat) : Int) = frC bs := by rw [IntKind.wrap_u16]; omega
  have hnot := andNot_hi (frC bs) hC9
  have HO := Lib.hid (fun W => ones16w (frC bs / 8192 * 8192) (by omega) W)
  rw [pc16_hi _ hC9] at HO
  have ht6 : (bs.take 256).length = 256 := by rw [List.length_take]; omega
  have HF := Lib.hid (fun W => fix_any (bs.take 256) ht6 (frC bs) hC9 W)
  rw [show fixR (bs.take 256) (frC bs) = frX bs from rfl] at HF
  have hXl := frX_len bs hl
  obtain ⟨hX1, hX2⟩ := frX_err bs
  obtain ⟨L, hL⟩ : ∃ L, L = bs.map encB := ⟨_, rfl⟩
  have hLl : L.length = 258 := by rw [hL, List.length_map]; exact hl
  have HBS := Lib.hid (fun W b (h : Arr W b (bs.map encB)) => h.bs 256 2 2 (by omega) (by decide) (by decide))
  rw [show (bs.drop 256).take 2 = bs.drop 256 from List.take_of_length_le (by omega)] at HBS
  have hLt : L.take 256 = (bs.take 256).map encB := by rw [hL, List.map_take]
  have HRG := Lib.hid (fun W b (h : Arr W b L) => show W.rangeAt b 0 (L.take 256) from fun j v hv => h.1 j v (by
    have hj : j < 256 := by have := (List.getElem?_eq_some_iff.1 hv).1; rw [List.length_take] at this; omega
    rwa [List.getElem?_take_of_lt hj] at hv))
  rw [← hL] at HB HBS ⊢
  rw [← hLt] at HF
  have HI := Lib.hid (show (Try.prog.info? 26).map (·.size) = some L.length by rw [hLl]; exact page_info)
  have HIT := Lib.hid (show (Try.prog.info? 76).map (·.size) = some (L.take 256).length by rw [List.length_take, hLl]; exact data_info)
  obtain ⟨LT, hLTe⟩ : ∃ T, T = L.take 256 := ⟨_, rfl⟩
  rw [← hLTe] at HF HRG HIT
  obtain ⟨C, hC⟩ : ∃ C, C = frC bs := ⟨_, rfl⟩
  obtain ⟨V, hV⟩ : ∃ C, C = abv (frC bs) := ⟨_, rfl⟩
  have hC16' := hC16
  rw [← hV] at HO ha
  rw [← hC] at H2 hC16 hnot HO HF
  obtain ⟨M, hM⟩ : ∃ M, M = C / 8192 * 8192 := ⟨_, rfl⟩
  rw [← hM] at hnot HO
  have hai : ¬ (1 : Int) < V := by omega
  obtain ⟨d, hd⟩ : ∃ d, d = (frX bs).1 := ⟨_, rfl⟩
  obtain ⟨N, hN⟩ : ∃ d, d = (frX bs).2.1 := ⟨_, rfl⟩
  obtain ⟨E, hE⟩ : ∃ d, d = (frX bs).2.2 := ⟨_, rfl⟩
  rw [← hd, ← hN, ← hE] at HF
  rw [← hE] at he
  rw [← hd] at hXl
  obtain ⟨D, hDD⟩ : ∃ D, D = d.map encB := ⟨_, rfl⟩
  rw [← hDD] at HF
  have hDl : D.length = 256 := by rw [hDD, List.length_map]; exact hXl
  have HID := Lib.hid (show (Try.prog.info? 76).map (·.size) = some D.length by rw [hDl]; exact data_info)
  have HIDA := Lib.hid (show (Try.prog.info? 76).map (·.size) = some D.toArray.size by rw [List.size_toArray, hDl]; exact data_info)
  have H1D : Hid (D.toArray.all (·.oneCell') = true) := Lib.hid (all_oneCell_toArray (by rw [hDD]; exact encB_all _))
  have hzd := data_zero
  obtain ⟨Y, hY⟩ : ∃ Z, Z = z256.map encB := ⟨_, rfl⟩
  have hYl : Y.length = 256 := by rw [hY, List.length_map, z256_len]
  rw [← hY] at hzd
  have HYD : Hid (D.toArray.size = Y.toArray.toList.length) := Lib.hid (by simp [hDl, hYl])
  have HDD := Lib.hid hDD
  have HDL := Lib.hid hXl
  clear hL hLl hl hb hd2 hC9 hC hV hM hd hN hE hXl hX1 hX2 hLt hLTe hC16' hDD hDl hY hYl ht6
  subst he
  obtain ⟨W, hW⟩ : ∃ W, W = w.alloc (.cells L.toArray 26) := ⟨_, rfl⟩
  obtain ⟨xb, hxb⟩ : ∃ xb, xb = w.heap.size := ⟨_, rfl⟩
  have hR0 : Rows w [(xb, L)] W := by rw [hW, hxb]; exact (Rows.nil w).newL L _
  have hA0 := hR0.get (b := xb) (L := L) (by simp)
  have hat : ∀ w, (Instr.arrayAt 76 (.slice (some ⟨xb, 0, none⟩) 256 258)).run Try.prog w = .ok (.pointer (some ⟨xb, 0, none⟩)) w := fun w => run_arrayAt w 76 _ 256 _ 256 258 Try.underlying76 (by decide)
  go_enter Try.func16, Try.ntmps16
  go_upto_region 1 with fail
  rw [← hW]
  simp only [← hxb]
  clear hW hxb
  go_wp2_with (first
    | (refine wpList_load_mid rfl 26 _ rfl xb 0 rfl L _ hA0.1 Try.underlying26 rfl HI.out ?_)
    | (refine wp_load_mid 26 _ rfl xb 0 rfl L _ hA0.1 Try.underlying26 rfl HI.out ?_)
    | (go_at_call 17; refine (HB.out _).mono ?_; rintro e w1 ⟨rfl, hb1⟩; have hR1 := hR0.go hb1; have hA1 := hR1.get (b := xb) (L := L) (by simp))
    | (go_at_call 41; refine (HN.out _ _ (HBS.out _ _ hA1)).mono ?_; rintro e w2 ⟨rb, D9, rfl, hrb, hD1, hD2, hr2, hb2⟩; have hR2 := hR1.go hb2)
    | (go_at_call 42; refine (H2.out _ _ _ hr2).mono ?_; rintro e w3 ⟨rfl, hr3, hg3⟩; have hR3 := hR2.grown hg3 (by intro p hp; simp at hp; subst hp; have := hA1.2.2; simp only; omega) (Nat.le_trans hR1.below.size hrb))
    | (go_at_call 43; refine (HO.out _).mono ?_; rintro e w4 ⟨rfl, hb4⟩; have hR4 := hR3.go hb4; have hA4 := hR4.get (b := xb) (L := L) (by simp))
    | (refine wpList_load_mid rfl 76 _ rfl xb 0 rfl LT _ (HRG.out _ _ hA4) Try.underlying76 rfl HIT.out ?_)
    | (refine wp_load_mid 76 _ rfl xb 0 rfl LT _ (HRG.out _ _ hA4) Try.underlying76 rfl HIT.out ?_)
    | (go_at_call 44; refine (HF.out _).mono ?_; rintro e w5 ⟨rfl, hb5⟩; have hR5 := hR4.go hb5; have hR6 := hR5.new Y.toArray 76)
    | (refine wpList_store_mid rfl 76 _ _ rfl w5.heap.size 0 D.toArray rfl rfl ((hR6.get (b := w5.heap.size) (L := Y.toArray.toList) (by simp)).thereA HYD.out) HIDA.out H1D.out ?_))
  have hR7 := hR6.storeA HYD.out
  exact bodyPost_ret (v := .tuple #[.int .u8 0, .slice none 0 0, .int .i64 0, .int .i64 21]) (by simp [results, Try.results16, go_sem]) rfl ⟨rfl, by simpa using hR7.below⟩
set_option maxRecDepth 100000 in
set_option maxHeartbeats 8000000 in
theorem fread_big (bs : List UInt8) (hl : bs.length = 258) (hb : blankB bs = false) (ha : abv (frC bs) ≤ 1) (he : (frX bs).2.2 = 0) (hs : 240 < sizeD (frX bs).1) (w : World) :
    Calls Try.prog 16 #[.agg (bs.map encB).toArray] w fun e w' => e = .returned (.tuple #[.int .u8 0, .slice none 0 0, .int .i64 0, .int .i64 21]) ∧ Below w.heap.size w w' := by
  have HB := Lib.hid (fun W => blank_any bs hl W)
  rw [hb] at HB
  have hd2 : (bs.drop 256).length = 2 := by rw [List.length_drop, hl]
  have HN := Lib.hid (fun W A h => new_any A 2 2 (bs.drop 256) W h (by decide))
  have H2 := Lib.hid (fun b D W h => rnum_in b D (bs.drop 256) false 2 2 W rfl (by omega) h (by omega))
  rw [List.take_of_length_le (by omega), show numV (bs.drop 256) = frC bs from rfl] at H2
  have hC9 := frC_lt bs hl
  have hC16 : IntKind.u16.wrap ((frC bs : Nat) : Int) = frC bs := by rw [IntKind.wrap_u16]; omega
  have hnot := andNot_hi (frC bs) hC9
  have HO := Lib.hid (fun W => ones16w (frC bs / 8192 * 8192) (by omega) W)
  rw [pc16_hi _ hC9] at HO
  have ht6 : (bs.take 256).length = 256 := by rw [List.length_take]; omega
  have HF := Lib.hid (fun W => fix_any (bs.take 256) ht6 (frC bs) hC9 W)
  rw [show fixR (bs.take 256) (frC bs) = frX bs from rfl] at HF
  have hXl := frX_len bs hl
  obtain ⟨hX1, hX2⟩ := frX_err bs
  obtain ⟨L, hL⟩ : ∃ L, L = bs.map encB := ⟨_, rfl⟩
  have hLl : L.length = 258 := by rw [hL, List.length_map]; exact hl
  have HBS := Lib.hid (fun W b (h : Arr W b (bs.map encB)) => h.bs 256 2 2 (by omega) (by decide) (by decide))
  rw [show (bs.drop 256).take 2 = bs.drop 256 from List.take_of_length_le (by omega)] at HBS
  have hLt : L.take 256 = (bs.take 256).map encB := by rw [hL, List.map_take]
  have HRG := Lib.hid (fun W b (h : Arr W b L) => show W.rangeAt b 0 (L.take 256) from fun j v hv => h.1 j v (by
    have hj : j < 256 := by have := (List.getElem?_eq_some_iff.1 hv).1; rw [List.length_take] at this; omega
    rwa [List.getElem?_take_of_lt hj] at hv))
  rw [← hL] at HB HBS ⊢
  rw [← hLt] at HF
  have HI := Lib.hid (show (Try.prog.info? 26).map (·.size) = some L.length by rw [hLl]; exact page_info)
  have HIT := Lib.hid (show (Try.prog.info? 76).map (·.size) = some (L.take 256).length by rw [List.length_take, hLl]; exact data_info)
  obtain ⟨LT, hLTe⟩ : ∃ T, T = L.take 256 := ⟨_, rfl⟩
  rw [← hLTe] at HF HRG HIT
  obtain ⟨C, hC⟩ : ∃ C, C = frC bs := ⟨_, rfl⟩
  obtain ⟨V, hV⟩ : ∃ C, C = abv (frC bs) := ⟨_, rfl⟩
  have hC16' := hC16
  rw [← hV] at HO ha
  rw [← hC] at H2 hC16 hnot HO HF
  obtain ⟨M, hM⟩ : ∃ M, M = C / 8192 * 8192 := ⟨_, rfl⟩
  rw [← hM] at hnot HO
  have hai : ¬ (1 : Int) < V := by omega
  obtain ⟨d, hd⟩ : ∃ d, d = (frX bs).1 := ⟨_, rfl⟩
  obtain ⟨N, hN⟩ : ∃ d, d = (frX bs).2.1 := ⟨_, rfl⟩
  obtain ⟨E, hE⟩ : ∃ d, d = (frX bs).2.2 := ⟨_, rfl⟩
  rw [← hd, ← hN, ← hE] at HF
  rw [← hE] at he
  rw [← hd] at hXl hs
  obtain ⟨S, hS⟩ : ∃ S, S = sizeD d := ⟨_, rfl⟩
  rw [← hS] at hs
  have hS8 : S < 256 := by rw [hS]; exact (d.getD 1 0).toNat_lt
  have hc1v : (d.map encB)[1]? = some (.int .u8 (S : Int)) := by rw [hS]; exact encB_cell d 1 (by omega)
  have hc0v : (d.map encB)[0]? = some (.int .u8 ((d.getD 0 0).toNat : Int)) := encB_cell d 0 (by omega)
  have hsi : 240 < (S : Int) := by omega
  have hbo : bodyD d = [] := by unfold bodyD; rw [← hS, if_neg (by omega)]
  have HW := fun W A n c h hn => fw_any (d.getD 0 0) A n c [bodyD d] W h hn (by rw [hbo]; decide)
  rw [show [bodyD d].flatten = bodyD d from by simp] at HW
  have hPl := fwR_len (d.getD 0 0) (bodyD d)
  have hP01 := fwR_01 (d.getD 0 0) (bodyD d)
  obtain ⟨pl, hpl⟩ : ∃ p, p = (fwR (d.getD 0 0) (bodyD d)).1 := ⟨_, rfl⟩
  obtain ⟨G, hG⟩ : ∃ p, p = (fwR (d.getD 0 0) (bodyD d)).2 := ⟨_, rfl⟩
  rw [← hpl, ← hG] at HW
  rw [← hpl] at hPl
  rw [← hG] at hP01
  obtain ⟨K, hK⟩ : ∃ K, K = ((d.getD 0 0).toNat : Int) := ⟨_, rfl⟩
  rw [← hK] at hc0v HW
  obtain ⟨P, hP⟩ : ∃ P, P = pl.map encB := ⟨_, rfl⟩
  rw [← hP] at HW
  have hPPl : P.length = 258 := by rw [hP, List.length_map]; exact hPl
  have HIPA := Lib.hid (show (Try.prog.info? 26).map (·.size) = some P.toArray.size by rw [List.size_toArray, hPPl]; exact page_info)
  have H1P : Hid (P.toArray.all (·.oneCell') = true) := Lib.hid (all_oneCell_toArray (by rw [hP]; exact encB_all _))
  have hzp := page_zero
  obtain ⟨Z, hZ⟩ : ∃ Z, Z = z258.map encB := ⟨_, rfl⟩
  have hZl : Z.length = 258 := by rw [hZ, List.length_map, z258_len]
  rw [← hZ] at hzp
  have HZP : Hid (P.toArray.size = Z.toArray.toList.length) := Lib.hid (by simp [hPPl, hZl])
  replace HW := Lib.hid HW
  have HP01 := Lib.hid hP01
  have HPE := Lib.hid hP
  have HPL := Lib.hid hPl
  obtain ⟨D, hDD⟩ : ∃ D, D = d.map encB := ⟨_, rfl⟩
  rw [← hDD] at HF
  have hDl : D.length = 256 := by rw [hDD, List.length_map]; exact hXl
  have HID := Lib.hid (show (Try.prog.info? 76).map (·.size) = some D.length by rw [hDl]; exact data_info)
  have HIDA := Lib.hid (show (Try.prog.info? 76).map (·.size) = some D.toArray.size by rw [List.size_toArray, hDl]; exact data_info)
  have H1D : Hid (D.toArray.all (·.oneCell') = true) := Lib.hid (all_oneCell_toArray (by rw [hDD]; exact encB_all _))
  have hzd := data_zero
  obtain ⟨Y, hY⟩ : ∃ Z, Z = z256.map encB := ⟨_, rfl⟩
  have hYl : Y.length = 256 := by rw [hY, List.length_map, z256_len]
  rw [← hY] at hzd
  have HYD : Hid (D.toArray.size = Y.toArray.toList.length) := Lib.hid (by simp [hDl, hYl])
  have HDD := Lib.hid hDD
  have HDL := Lib.hid hXl
  rw [← hDD] at hc1v hc0v
  have HC1 := Lib.hid hc1v
  have HC0 := Lib.hid hc0v
  have HBO := Lib.hid hbo
  clear hL hLl hl hb hd2 hC9 hC hV hM hd hN hE hXl hX1 hX2 hLt hLTe hC16' hDD hDl hY hYl ht6 hS hc1v hc0v hbo hPl hP01 hpl hG hK hP hPPl hZ hZl
  subst he
  obtain ⟨W, hW⟩ : ∃ W, W = w.alloc (.cells L.toArray 26) := ⟨_, rfl⟩
  obtain ⟨xb, hxb⟩ : ∃ xb, xb = w.heap.size := ⟨_, rfl⟩
  have hR0 : Rows w [(xb, L)] W := by rw [hW, hxb]; exact (Rows.nil w).newL L _
  have hA0 := hR0.get (b := xb) (L := L) (by simp)
  have hat : ∀ w, (Instr.arrayAt 76 (.slice (some ⟨xb, 0, none⟩) 256 258)).run Try.prog w = .ok (.pointer (some ⟨xb, 0, none⟩)) w := fun w => run_arrayAt w 76 _ 256 _ 256 258 Try.underlying76 (by decide)
  go_enter Try.func16, Try.ntmps16
  go_upto_region 1 with fail
  rw [← hW]
  simp only [← hxb]
  clear hW hxb
  go_upto_region 10 with (first
    | (refine wpList_load_mid rfl 26 _ rfl xb 0 rfl L _ hA0.1 Try.underlying26 rfl HI.out ?_)
    | (refine wp_load_mid 26 _ rfl xb 0 rfl L _ hA0.1 Try.underlying26 rfl HI.out ?_)
    | (go_at_call 17; refine (HB.out _).mono ?_; rintro e w1 ⟨rfl, hb1⟩; have hR1 := hR0.go hb1; have hA1 := hR1.get (b := xb) (L := L) (by simp))
    | (go_at_call 41; refine (HN.out _ _ (HBS.out _ _ hA1)).mono ?_; rintro e w2 ⟨rb, D9, rfl, hrb, hD1, hD2, hr2, hb2⟩; have hR2 := hR1.go hb2)
    | (go_at_call 42; refine (H2.out _ _ _ hr2).mono ?_; rintro e w3 ⟨rfl, hr3, hg3⟩; have hR3 := hR2.grown hg3 (by intro p hp; simp at hp; subst hp; have := hA1.2.2; simp only; omega) (Nat.le_trans hR1.below.size hrb))
    | (go_at_call 43; refine (HO.out _).mono ?_; rintro e w4 ⟨rfl, hb4⟩; have hR4 := hR3.go hb4; have hA4 := hR4.get (b := xb) (L := L) (by simp))
    | (refine wpList_load_mid rfl 76 _ rfl xb 0 rfl LT _ (HRG.out _ _ hA4) Try.underlying76 rfl HIT.out ?_)
    | (refine wp_load_mid 76 _ rfl xb 0 rfl LT _ (HRG.out _ _ hA4) Try.underlying76 rfl HIT.out ?_)
    | (go_at_call 44; refine (HF.out _).mono ?_; rintro e w5 ⟨rfl, hb5⟩; have hR5 := hR4.go hb5; have hR6 := hR5.new Y.toArray 76)
    | (refine wpList_store_mid rfl 76 _ _ rfl w5.heap.size 0 D.toArray rfl rfl ((hR6.get (b := w5.heap.size) (L := Y.toArray.toList) (by simp)).thereA HYD.out) HIDA.out H1D.out ?_))
  have hR7 := hR6.storeA HYD.out
  rw [List.toList_toArray] at hR7
  obtain ⟨W7, hW7⟩ : ∃ W7, W7 = (w5.alloc (.cells Y.toArray 76)).setCells w5.heap.size 0 D := ⟨_, rfl⟩
  obtain ⟨db, hdb⟩ : ∃ db, db = w5.heap.size := ⟨_, rfl⟩
  rw [← hW7] at hR7 ⊢
  simp only [← hdb] at hR7 ⊢
  clear hW7 hdb hR6 hR5 hA4 hR4 hR3 hR2 hA1 hR1 hR0 hr2 hr3 hA0 hat
  have hA7 := hR7.get (b := db) (L := D) (by simp)
  have hc1 := hA7.at_ 1 _ HC1.out
  have hc0 := hA7.at_ 0 _ HC0.out
  have HB7 := Lib.hid (Bss.new1 (w := W7) (b := W7.heap.size) (T := 22) (fz := (0, 0)) rfl (HBO.out ▸ (⟨none, 0, rfl, by simp, by simp, At.nil W7 _⟩ : Bs W7 (.slice none 0 0) [])))
  have hR7b := hR7.alloc (.cells #[.slice none 0 0] 22)
  go_upto_region 14 with (first
    | (go_at_call 14; refine (HW.out _ _ _ _ HB7.out (by decide)).mono ?_; rintro e w8 ⟨rfl, hb8⟩; have hR8 := hR7b.go hb8; have hR9 := hR8.new Z.toArray 26)
    | (refine wpList_store_mid rfl 26 _ _ rfl w8.heap.size 0 P.toArray rfl rfl ((hR9.get (b := w8.heap.size) (L := Z.toArray.toList) (by simp)).thereA HZP.out) HIPA.out H1P.out ?_))
  have hR := hR9.storeA HZP.out
  rw [List.toList_toArray] at hR
  obtain ⟨W9, hW9⟩ : ∃ W9, W9 = (w8.alloc (.cells Z.toArray 26)).setCells w8.heap.size 0 P := ⟨_, rfl⟩
  obtain ⟨ab, hab⟩ : ∃ ab, ab = w8.heap.size := ⟨_, rfl⟩
  rw [← hW9] at hR ⊢
  simp only [← hab] at hR ⊢
  clear hW9 hab hR9 hR8 hR7b hR7 hA7 hc1 hc0
  rcases HP01.out with g0 | g0
  · subst g0
    refine wp_region_front 12 [53, 54, 55, 56, 57, 58, 59, 60, 61, 62, 63, 64] 0 #[true, true, true, true, true, true, true, true, true, true, true, true] (fun W => Rows w [(ab, P), (db, D), (xb, L)] W ∧ True) (fsB S ab db) yesP (by kernel_rfl) (by kernel_rfl) (by kernel_rfl) (by kernel_rfl) (by kernel_rfl) (fun _ _ hb h => ⟨h.1.go hb, trivial⟩) fsB_below ⟨hR.drew, trivial⟩ ?_ ?_
    · intro i hi s w9 hs hB hd
      have s8 : s 8 = .pointer (some ⟨db, 0, none⟩) := hs 8 (by decide)
      have s10 : s 10 = .int .i64 0 := hs 10 (by decide)
      have s11 : s 11 = .int .i64 (S : Int) := hs 11 (by decide)
      have s12 : s 12 = .pointer (some ⟨ab, 0, none⟩) := hs 12 (by decide)
      obtain rfl | rfl | rfl | rfl | rfl | rfl | rfl | rfl | rfl | rfl | rfl | rfl : i = 0 ∨ i = 1 ∨ i = 2 ∨ i = 3 ∨ i = 4 ∨ i = 5 ∨ i = 6 ∨ i = 7 ∨ i = 8 ∨ i = 9 ∨ i = 10 ∨ i = 11 := by omega
      · exact stepG_plain (by rfl) (stepS_move _ rfl ⟨Below.refl _ _, s10, fun j _ _ u _ => ⟨trivial, trivial⟩⟩)
      · have h0 : s 53 = .int .i64 0 := hd 0 (by decide +kernel)
        refine stepG_plain (by rfl) (stepS_run (v := .bool false) ?_ ⟨Below.refl _ _, rfl, fun j _ _ u _ => ⟨trivial, trivial⟩⟩)
        simp [execOp, evS, h0, Result.andThen, go_sem]
      · have h1 : s 54 = .bool false := hd 1 (by decide +kernel)
        exact stepG_plain (by rfl) (stepS_move _ rfl ⟨Below.refl _ _, h1, fun j _ _ u _ => ⟨trivial, trivial⟩⟩)
      · have h2 : s 55 = .bool false := hd 2 (by decide +kernel)
        exact stepG_struck (b := false) (g := 2) (by rfl) h2 (stepS_move _ rfl ⟨Below.refl _ _, s11, fun j _ _ u _ => ⟨trivial, trivial⟩⟩)
      · have h2 : s 55 = .bool false := hd 2 (by decide +kernel)
        have h3 : s 56 = .int .i64 (S : Int) := hd 3 (by decide +kernel)
        refine stepG_struck (b := false) (g := 2) (by rfl) h2 (stepS_run (v := .bool true) ?_ ⟨Below.refl _ _, rfl, fun j _ _ u _ => ⟨trivial, trivial⟩⟩)
        simp [execOp, evS, h3, hsi, Result.andThen, go_sem]
      · have h2 : s 55 = .bool false := hd 2 (by decide +kernel)
        have h4 : s 57 = .bool true := hd 4 (by decide +kernel)
        refine stepG_plain (by rfl) (stepS_run (v := .bool true) ?_ ⟨Below.refl _ _, rfl, fun j _ _ u _ => ⟨trivial, trivial⟩⟩)
        simp [execOp, evS, h2, h4, Result.andThen, go_sem]
      · have h5 : s 58 = .bool true := hd 5 (by decide +kernel)
        exact stepG_plain (by rfl) (stepS_move _ rfl ⟨Below.refl _ _, h5, fun j _ _ u _ => ⟨trivial, trivial⟩⟩)
      · have h6 : s 59 = .bool true := hd 6 (by decide +kernel)
        exact stepG_not (b := false) (g := 6) (by rfl) h6 ⟨Below.refl _ _, rfl, fun j _ _ u _ => ⟨trivial, trivial⟩⟩
      · have h6 : s 59 = .bool true := hd 6 (by decide +kernel)
        exact stepG_not (b := false) (g := 6) (by rfl) h6 ⟨Below.refl _ _, rfl, fun j _ _ u _ => ⟨trivial, trivial⟩⟩
      · have h6 : s 59 = .bool true := hd 6 (by decide +kernel)
        exact stepG_not (b := false) (g := 6) (by rfl) h6 ⟨Below.refl _ _, rfl, fun j _ _ u _ => ⟨trivial, trivial⟩⟩
      · have h6 : s 59 = .bool true := hd 6 (by decide +kernel)
        exact stepG_not (b := false) (g := 6) (by rfl) h6 ⟨Below.refl _ _, rfl, fun j _ _ u _ => ⟨trivial, trivial⟩⟩
      · have h6 : s 59 = .bool true := hd 6 (by decide +kernel)
        have h10 : s 63 = undef := hd 10 (by decide +kernel)
        refine stepG_plain (by rfl) (stepS_run (v := .bool true) ?_ ⟨Below.refl _ _, rfl, fun j _ _ u _ => ⟨trivial, trivial⟩⟩)
        simp [execOp, evS, h6, h10, Result.andThen, go_sem]
    intro s w9 hB hF _
    have h64 : s 64 = .bool true := hF 11 (by decide)
    refine wpAny_end (by kernel_rfl) ?_
    simp only [setAll, List.foldl_cons, List.foldl_nil, List.setIfInBounds_toArray, List.set_cons_succ, List.set_cons_zero, h64]
    clear hF h64
    go_wp2_with fail
    exact bodyPost_ret (v := .tuple #[.int .u8 0, .slice none 0 0, .int .i64 0, .int .i64 21]) (by simp [results, Try.results16, go_sem]) rfl ⟨rfl, hB.1.below⟩
  · subst g0
    refine wp_region_front 12 [53, 54, 55, 56, 57, 58, 59, 60, 61, 62, 63, 64] 0 #[true, true, true, true, true, true, true, true, true, true, true, true] (fun W => Rows w [(ab, P), (db, D), (xb, L)] W ∧ True) (fsA S ab db) yesP (by kernel_rfl) (by kernel_rfl) (by kernel_rfl) (by kernel_rfl) (by kernel_rfl) (fun _ _ hb h => ⟨h.1.go hb, trivial⟩) fsA_below ⟨hR.drew, trivial⟩ ?_ ?_
    · intro i hi s w9 hs hB hd
      have s8 : s 8 = .pointer (some ⟨db, 0, none⟩) := hs 8 (by decide)
      have s10 : s 10 = .int .i64 1 := hs 10 (by decide)
      have s11 : s 11 = .int .i64 (S : Int) := hs 11 (by decide)
      have s12 : s 12 = .pointer (some ⟨ab, 0, none⟩) := hs 12 (by decide)
      obtain rfl | rfl | rfl | rfl | rfl | rfl | rfl | rfl | rfl | rfl | rfl | rfl : i = 0 ∨ i = 1 ∨ i = 2 ∨ i = 3 ∨ i = 4 ∨ i = 5 ∨ i = 6 ∨ i = 7 ∨ i = 8 ∨ i = 9 ∨ i = 10 ∨ i = 11 := by omega
      · exact stepG_plain (by rfl) (stepS_move _ rfl ⟨Below.refl _ _, s10, fun j _ _ u _ => ⟨trivial, trivial⟩⟩)
      · have h0 : s 53 = .int .i64 1 := hd 0 (by decide +kernel)
        refine stepG_plain (by rfl) (stepS_run (v := .bool true) ?_ ⟨Below.refl _ _, rfl, fun j _ _ u _ => ⟨trivial, trivial⟩⟩)
        simp [execOp, evS, h0, Result.andThen, go_sem]
      · have h1 : s 54 = .bool true := hd 1 (by decide +kernel)
        exact stepG_plain (by rfl) (stepS_move _ rfl ⟨Below.refl _ _, h1, fun j _ _ u _ => ⟨trivial, trivial⟩⟩)
      · have h2 : s 55 = .bool true := hd 2 (by decide +kernel)
        exact stepG_not (b := false) (g := 2) (by rfl) h2 ⟨Below.refl _ _, rfl, fun j _ _ u _ => ⟨trivial, trivial⟩⟩
      · have h2 : s 55 = .bool true := hd 2 (by decide +kernel)
        exact stepG_not (b := false) (g := 2) (by rfl) h2 ⟨Below.refl _ _, rfl, fun j _ _ u _ => ⟨trivial, trivial⟩⟩
      · have h2 : s 55 = .bool true := hd 2 (by decide +kernel)
        have h4 : s 57 = undef := hd 4 (by decide +kernel)
        refine stepG_plain (by rfl) (stepS_run (v := .bool true) ?_ ⟨Below.refl _ _, rfl, fun j _ _ u _ => ⟨trivial, trivial⟩⟩)
        simp [execOp, evS, h2, h4, Result.andThen, go_sem]
      · have h5 : s 58 = .bool true := hd 5 (by decide +kernel)
        exact stepG_plain (by rfl) (stepS_move _ rfl ⟨Below.refl _ _, h5, fun j _ _ u _ => ⟨trivial, trivial⟩⟩)
      · have h6 : s 59 = .bool true := hd 6 (by decide +kernel)
        exact stepG_not (b := false) (g := 6) (by rfl) h6 ⟨Below.refl _ _, rfl, fun j _ _ u _ => ⟨trivial, trivial⟩⟩
      · have h6 : s 59 = .bool true := hd 6 (by decide +kernel)
        exact stepG_not (b := false) (g := 6) (by rfl) h6 ⟨Below.refl _ _, rfl, fun j _ _ u _ => ⟨trivial, trivial⟩⟩
      · have h6 : s 59 = .bool true := hd 6 (by decide +kernel)
        exact stepG_not (b := false) (g := 6) (by rfl) h6 ⟨Below.refl _ _, rfl, fun j _ _ u _ => ⟨trivial, trivial⟩⟩
      · have h6 : s 59 = .bool true := hd 6 (by decide +kernel)
        exact stepG_not (b := false) (g := 6) (by rfl) h6 ⟨Below.refl _ _, rfl, fun j _ _ u _ => ⟨trivial, trivial⟩⟩
      · have h6 : s 59 = .bool true := hd 6 (by decide +kernel)
        have h10 : s 63 = undef := hd 10 (by decide +kernel)
        refine stepG_plain (by rfl) (stepS_run (v := .bool true) ?_ ⟨Below.refl _ _, rfl, fun j _ _ u _ => ⟨trivial, trivial⟩⟩)
        simp [execOp, evS, h6, h10, Result.andThen, go_sem]
    intro s w9 hB hF _
    have h64 : s 64 = .bool true := hF 11 (by decide)
    refine wpAny_end (by kernel_rfl) ?_
    simp only [setAll, List.foldl_cons, List.foldl_nil, List.setIfInBounds_toArray, List.set_cons_succ, List.set_cons_zero, h64]
    clear hF h64
    go_wp2_with fail
    exact bodyPost_ret (v := .tuple #[.int .u8 0, .slice none 0 0, .int .i64 0, .int .i64 21]) (by simp [results, Try.results16, go_sem]) rfl ⟨rfl, hB.1.below⟩
end Go.Proofs.YtljdfhckllncoaaK
