import Derived.Test.YtljdfhckllncoaaKFrmN
import Derived.Test.YtljdfhckllncoaaKFrmH
namespace Go.Proofs.YtljdfhckllncoaaK
open Go.RowKit
set_option linter.unusedSimpArgs false
set_option linter.unusedVariables false
/-! The reference's Read. -/
theorem frOut_bad {A : Option Addr} {c E : Nat} {E' : Int} (hE : E' = (E : Int)) (w : World) : FrOut (0, [], 0, E) (.returned (.tuple #[.int .u8 0, .slice A 0 c, .int .i64 0, .int .i64 E'])) w := by
  subst hE
  exact ⟨.slice A 0 c, rfl, ⟨A, 0, c, rfl, ⟨A, c, rfl, by simp, by simp, At.nil _ _⟩⟩⟩
set_option maxRecDepth 100000 in
theorem above_all : ∀ y : Fin 256, wrap64 (wrap64 ((y.val : Int) / 128 + wrap64 (bits .and .u8 ((y.val : Int) / 64) 1)) + wrap64 (bits .and .u8 ((y.val : Int) / 32) 1)) = ((bitN y.val 5 + (bitN y.val 6 + bitN y.val 7) : Nat) : Int) := by decide +kernel
theorem abv_of (x y : Nat) (hx : x < 256) : abv (x + 256 * y) = bitN y 5 + (bitN y 6 + bitN y 7) := by
  unfold abv
  rw [show bitN (x + 256 * y) 13 = bitN ((x + 256 * y) / 256) 5 from bitN_hi _ 5, show bitN (x + 256 * y) 14 = bitN ((x + 256 * y) / 256) 6 from bitN_hi _ 6, show bitN (x + 256 * y) 15 = bitN ((x + 256 * y) / 256) 7 from bitN_hi _ 7, show (x + 256 * y) / 256 = y from by omega]
theorem spl_whole {α : Type} (L vs : List α) (h : vs.length = L.length) : spl L 0 vs = vs := by
  unfold spl
  rw [List.take_zero, List.nil_append, Nat.zero_add, h, List.drop_length, List.append_nil]
theorem rfix_at (d : List UInt8) (hl : d.length = 256) (c : Nat) (hc : c < 65536) (X : List UInt8) (N E : Nat) (hX : fixR d c = (X, N, E)) (c' E' : Int) (hc' : c' = (c : Int)) (hE : E' = (E : Int)) (w : World) :
    Calls Try.prog 48 #[.agg (d.map encB).toArray, .int .i64 c'] w fun e w' => e = .returned (.tuple #[.agg (X.map encB).toArray, .int .i64 (N : Int), .int .i64 E']) ∧ Below w.heap.size w w' := by
  have h := rfix_any d hl c hc w
  rw [hX] at h
  rw [hc', hE]
  exact h
theorem rr_nums (S : Nat) (hS : S ≤ 240) : (0 : Int) ≤ 2 + S ∧ (2 : Int) + S ≤ 256 ∧ (2 : Int) ≤ 2 + S ∧ (2 + (S : Int)).toNat - 2 = S ∧ IntKind.i64.wrap (2 + (S : Int)) = 2 + S ∧ wrap64 (2 + (S : Int)) = 2 + S ∧ 2 + S ≤ 256 ∧ S ≤ 254 ∧ S ≤ 9223372036854775807 ∧ S * 1 ≤ 140737488355328 := by
  refine ⟨by omega, by omega, by omega, by omega, ?_, ?_, by omega, by omega, by omega, by omega⟩
  · rw [IntKind.wrap_i64]; omega
  · unfold wrap64; omega
theorem rr_cases (i : Nat) (h : i < 14) : i = 0 ∨ i = 1 ∨ i = 2 ∨ i = 3 ∨ i = 4 ∨ i = 5 ∨ i = 6 ∨ i = 7 ∨ i = 8 ∨ i = 9 ∨ i = 10 ∨ i = 11 ∨ i = 12 ∨ i = 13 := by omega
theorem rr_sum (N av : Nat) (h1 : N ≤ 1) (h2 : av ≤ 3) : IntKind.i64.wrap ((N : Int) + av) = ((N + av : Nat) : Int) ∧ wrap64 ((N : Int) + av) = ((N + av : Nat) : Int) := by
  refine ⟨?_, ?_⟩
  · rw [IntKind.wrap_i64]; omega
  · unfold wrap64; omega
def rrF (yb eb S : Nat) (k0 : Int) (N av : Nat) (body : List UInt8) : Nat → Value → World → Prop
  | 0, v, _ => v = .pointer (some ⟨yb, 0, none⟩)
  | 1, v, _ => v = .int .u8 k0
  | 2, v, _ => v = .slice (some ⟨eb, 0, none⟩) 0 0
  | 3, v, _ => v = .int .i64 (S : Int)
  | 4, v, _ => v = .int .i64 (2 + (S : Int))
  | 5, v, _ => v = .slice (some ⟨yb, 2, none⟩) S 254
  | 6, v, w => BsV body v w
  | 7, v, _ => v = .int .i64 (N : Int)
  | 8, v, _ => v = .int .i64 (av : Int)
  | 9, v, _ => v = .int .i64 ((N + av : Nat) : Int)
  | 10, v, _ => v = .int .u8 k0
  | 11, v, w => BsV body v w
  | 12, v, _ => v = .int .i64 ((N + av : Nat) : Int)
  | 13, v, _ => v = .int .i64 0
  | _, _, _ => False
theorem rrF_below {yb eb S : Nat} {k0 : Int} {N av : Nat} {body : List UInt8} (i : Nat) (v : Value) (w w' : World) (hb : Below w.heap.size w w') (h : rrF yb eb S k0 N av body i v w) : rrF yb eb S k0 N av body i v w' := by
  match i with
  | 6 => exact BsV.below h hb
  | 11 => exact BsV.below h hb
  | 0 | 1 | 2 | 3 | 4 | 5 | 7 | 8 | 9 | 10 | 12 | 13 => exact h
  | n + 14 => exact h
set_option maxRecDepth 100000 in
set_option maxHeartbeats 8000000 in
theorem rread_any (bs : List UInt8) (hl : bs.length = 258) (w : World) :
    Calls Try.prog 18 #[.agg (bs.map encB).toArray] w fun e w' => FrOut (frR bs) e w' ∧ Below w.heap.size w w' := by
  have hzD := data_zero
  obtain ⟨Y, hY⟩ : ∃ Z, Z = z256.map encB := ⟨_, rfl⟩
  have hYl : Y.length = 256 := by rw [hY, List.length_map, z256_len]
  have h1Y : ∀ v ∈ Y, v.oneCell' = true := by rw [hY]; exact encB_all _
  rw [← hY] at hzD
  have HIY := Lib.hid (show (Try.prog.info? 76).map (·.size) = some Y.toArray.size by rw [List.size_toArray, hYl]; exact data_info)
  have H1Y : Hid (Y.toArray.all (·.oneCell') = true) := Lib.hid (all_oneCell_toArray h1Y)
  have HYY : Hid (Y.toArray.size = Y.length) := Lib.hid (by simp)
  have HYL := Lib.hid hYl
  have HYE := Lib.hid hY
  clear hY hYl h1Y
  have HL := Lib.hid hl
  have HBK := Lib.hid (fun W => rblank_any bs hl W)
  obtain ⟨P, hP⟩ : ∃ P, P = bs.map encB := ⟨_, rfl⟩
  rw [← hP] at HBK ⊢
  have hPl : P.length = 258 := by rw [hP, List.length_map]; exact hl
  have HIP := Lib.hid (show (Try.prog.info? 26).map (·.size) = some P.length by rw [hPl]; exact page_info)
  have HP := Lib.hid hP
  clear hP hPl
  obtain ⟨W, hW⟩ : ∃ W, W = (w.alloc (.cells P.toArray 26)).alloc (.cells #[] 5) := ⟨_, rfl⟩
  obtain ⟨xb, hxb⟩ : ∃ pb, pb = w.heap.size := ⟨_, rfl⟩
  have hR0 : Rows w [(xb, P)] W := by rw [hW, hxb]; exact ((Rows.nil w).newL P _).alloc _
  obtain ⟨eb, heb⟩ : ∃ pb, pb = xb + 1 := ⟨_, rfl⟩
  have hA0 := hR0.get (b := xb) (L := P) (by simp)
  go_enter Try.func18, Try.ntmps18
  go_upto_region 2 with fail
  rw [← hW]
  simp only [← hxb]
  simp only [← heb]
  clear hW hxb heb
  rcases hbk : blankB bs with _ | _
  rotate_left
  · have hfr : frR bs = (0, [], 0, 20) := by unfold frR; rw [hbk, if_pos rfl]
    have HFR := Lib.hid hfr
    rw [hbk] at HBK
    clear hbk hfr
    refine wp_region_lit ?_
    refine wpList_load_mid rfl 26 _ rfl xb 0 rfl P _ hA0.1 Try.underlying26 rfl HIP.out ?_
    go_wp2_with (go_at_call 19; refine (HBK.out _).mono ?_; rintro e w2 ⟨rfl, hb2⟩; have hR2 := hR0.go hb2)
    exact bodyPost_ret (v := .tuple #[.int .u8 0, .slice (some ⟨eb, 0, none⟩) 0 0, .int .i64 0, .int .i64 20]) (by simp [results, Try.results18, go_sem]) rfl ⟨by rw [HFR.out]; exact frOut_bad rfl _, hR2.below⟩
  have HBK2 := Lib.hid hbk
  rw [hbk] at HBK
  clear hbk
  refine wp_region_lit ?_
  refine wpList_load_mid rfl 26 _ rfl xb 0 rfl P _ hA0.1 Try.underlying26 rfl HIP.out ?_
  go_upto_region 4 with (go_at_call 19; refine (HBK.out _).mono ?_; rintro e w2 ⟨rfl, hb2⟩; have hR2 := hR0.go hb2)
  rw [HP.out] at hR2
  have hA2 := hR2.get (b := xb) (L := bs.map encB) (by simp)
  have hc1 := hA2.at_ 257 _ (encB_cell bs 257 (by rw [HL.out]; decide))
  have hc0 := hA2.at_ 256 _ (encB_cell bs 256 (by rw [HL.out]; decide))
  obtain ⟨y, hy⟩ : ∃ y, y = (bs.getD 257 0).toNat := ⟨_, rfl⟩
  obtain ⟨z, hz⟩ : ∃ y, y = (bs.getD 256 0).toNat := ⟨_, rfl⟩
  have hy8 : y < 256 := by rw [hy]; exact (bs.getD 257 0).toNat_lt
  have hz8 : z < 256 := by rw [hz]; exact (bs.getD 256 0).toNat_lt
  rw [← hy] at hc1
  rw [← hz] at hc0
  have HY9 := Lib.hid hy
  have HZ9 := Lib.hid hz
  clear hy hz HBK hA0 hb2 hl
  go_upto_region 5 with fail
  have hab := above_all ⟨y, hy8⟩
  simp only at hab
  rw [hab]
  have hfc := frC_two bs HL.out
  rw [← HZ9.out, ← HY9.out] at hfc
  have hav := abv_of z y hz8
  rw [← hfc] at hav
  rw [← hav]
  obtain ⟨C, hC⟩ : ∃ c, c = frC bs := ⟨_, rfl⟩
  have hC8 : C < 65536 := by rw [hC]; exact frC_lt bs HL.out
  rw [← hC] at hfc ⊢
  obtain ⟨av, hav9⟩ : ∃ c, c = abv C := ⟨_, rfl⟩
  rw [← hav9]
  have HC := Lib.hid hC
  have HAV := Lib.hid hav9
  have hav3 : av ≤ 3 := by rw [hav9]; exact abv_le C
  clear hab hav hC hav9
  by_cases ha : 1 < av
  · have HFR : Hid (frR bs = (0, [], 0, 21)) := Lib.hid (by unfold frR; rw [HBK2.out, if_neg (by decide), if_pos (by rw [← HC.out, ← HAV.out]; exact ha)])
    have hai : (1 : Int) < (av : Int) := by omega
    clear hfc
    go_wp2_with fail
    exact bodyPost_ret (v := .tuple #[.int .u8 0, .slice (some ⟨eb, 0, none⟩) 0 0, .int .i64 0, .int .i64 21]) (by simp [results, Try.results18, go_sem]) rfl ⟨by rw [HFR.out]; exact frOut_bad rfl _, hR2.below⟩
  have hai : ¬ (1 : Int) < (av : Int) := by omega
  have HA1 : Hid (abv (frC bs) ≤ 1) := Lib.hid (by rw [← HC.out, ← HAV.out]; omega)
  have HFC := Lib.hid hfc
  clear hfc
  go_upto_region 8 with (refine wpList_store_mid rfl 76 _ _ rfl w2.heap.size 0 Y.toArray rfl rfl (((hR2.newL Y 76).get (b := w2.heap.size) (L := Y) (by simp)).thereA HYY.out) HIY.out H1Y.out ?_)
  have hR3 := (hR2.newL Y 76).storeA HYY.out
  rw [List.toList_toArray] at hR3
  obtain ⟨W3, hW3⟩ : ∃ W1, W1 = (w2.alloc (.cells Y.toArray 76)).setCells w2.heap.size 0 Y := ⟨_, rfl⟩
  obtain ⟨db, hdb⟩ : ∃ db, db = w2.heap.size := ⟨_, rfl⟩
  rw [← hW3] at hR3 ⊢
  simp only [← hdb] at hR3 ⊢
  obtain ⟨Q0, hQ0⟩ : ∃ Q, Q = z256 := ⟨_, rfl⟩
  rw [HYE.out, ← hQ0] at hR3
  have HL0 := Lib.hid (show Q0.length = 256 by rw [hQ0]; exact z256_len)
  obtain ⟨D, hD⟩ : ∃ Q, Q = bs.take 256 := ⟨_, rfl⟩
  have HDL := Lib.hid (show D.length = 256 by rw [hD, List.length_take, HL.out]; rfl)
  have HDE := Lib.hid hD
  clear hW3 hdb hQ0 hR2 hA2 hc0 hc1 hD hai ha
  go_wp2_with fail
  go_loopw [9] (fun v9 wr => ∃ i : Nat, i ≤ 256 ∧ v9 = .int .i64 (i : Int) ∧ Rows w [(db, (spl Q0 0 (D.take i)).map encB), (xb, bs.map encB)] wr) (fun v9 _ => 256 - (intOf v9).toNat)
  case atStart => exact ⟨0, by omega, rfl, by rw [List.take_zero, spl_nil]; exact hR3⟩
  case round =>
    obtain ⟨m, hm, rfl, hRq⟩ := hrel
    clear hR3
    by_cases hlt2 : m < 256
    · obtain ⟨x, hx⟩ : ∃ x : UInt8, x = bs.getD m 0 := ⟨_, rfl⟩
      have hb := (hRq.get (b := xb) (L := bs.map encB) (by simp)).at_ m _ (encB_cell bs m (by rw [HL.out]; omega))
      rw [← hx] at hb
      have HXX := Lib.hid (show x = D[m]'(by rw [HDL.out]; exact hlt2) by
        have e1 := get_some bs m (by rw [HL.out]; omega)
        rw [← hx, ← List.getElem?_take_of_lt hlt2, ← HDE.out, List.getElem?_eq_getElem (by rw [HDL.out]; exact hlt2)] at e1
        exact (Option.some.inj e1).symm)
      obtain ⟨P1, hP1⟩ : ∃ P, P = spl Q0 0 (D.take m) := ⟨_, rfl⟩
      have HPL := Lib.hid (show P1.length = 256 by rw [hP1, spl_length (by rw [List.length_take, HL0.out]; omega)]; exact HL0.out)
      have HPE := Lib.hid hP1
      rw [← hP1] at hRq
      have hAp := hRq.get (b := db) (L := P1.map encB) (by simp)
      have hcell := hAp.at_ m _ (encB_cell P1 m (by rw [HPL.out]; omega))
      have hfz := hAp.2.1 m (by rw [List.length_map, HPL.out]; omega)
      rw [Nat.zero_add] at hfz
      have h2j : (m : Int) < 256 := by omega
      have h2k : (m : Int) < 258 := by omega
      clear hx hP1
      go_wp2_with fail
      go_roundw
      case rel =>
        refine ⟨m + 1, by omega, by go_num, ?_⟩
        have h9 := hRq.cell m (encB x)
        have hs : P1.set m x = spl Q0 0 (D.take (m + 1)) := by
          have := spl_set Q0 0 m D (by rw [HL0.out, HDL.out]; decide) (by rw [HDL.out]; exact hlt2)
          rw [Nat.zero_add] at this
          rw [HPE.out, HXX.out]; exact this
        rw [← List.map_set, hs] at h9
        exact h9
      case measure => simp [intOf]; omega
    · have hin : m = 256 := by omega
      subst hin
      rw [show ((256 : Nat) : Int) = 256 from rfl]
      rw [spl_all Q0 0 256 D HDL.out.symm, spl_whole Q0 D (by rw [HDL.out, HL0.out])] at hRq
      obtain ⟨X, hX⟩ : ∃ X, X = (frX bs).1 := ⟨_, rfl⟩
      obtain ⟨N, hN⟩ : ∃ X, X = (frX bs).2.1 := ⟨_, rfl⟩
      have hXl : X.length = 256 := by rw [hX]; exact frX_len bs HL.out
      have hN1 : N ≤ 1 := by rw [hN]; exact (frX_err bs).1
      have hXE : ∀ E, (frX bs).2.2 = E → fixR D C = (X, N, E) := fun E hE => by
        rw [HDE.out, HC.out, hX, hN, ← hE]; rfl
      have HXE := Lib.hid hXE
      have hzy : (z : Int) + 256 * (y : Int) = (C : Int) := by have := HFC.out; omega
      have hA3 := hRq.get (b := xb) (L := bs.map encB) (by simp)
      have hc1 := hA3.at_ 257 _ (encB_cell bs 257 (by rw [HL.out]; decide))
      have hc0 := hA3.at_ 256 _ (encB_cell bs 256 (by rw [HL.out]; decide))
      rw [← HY9.out] at hc1
      rw [← HZ9.out] at hc0
      obtain ⟨DL, hDL⟩ : ∃ L, L = D.map encB := ⟨_, rfl⟩
      have hDLl : DL.length = 256 := by rw [hDL, List.length_map]; exact HDL.out
      have HID := Lib.hid (show (Try.prog.info? 76).map (·.size) = some DL.length by rw [hDLl]; exact data_info)
      obtain ⟨XL, hXL⟩ : ∃ L, L = X.map encB := ⟨_, rfl⟩
      have hXLl : XL.length = 256 := by rw [hXL, List.length_map]; exact hXl
      have HIX := Lib.hid (show (Try.prog.info? 76).map (·.size) = some XL.toArray.size by rw [List.size_toArray, hXLl]; exact data_info)
      have H1X : Hid (XL.toArray.all (·.oneCell') = true) := Lib.hid (all_oneCell_toArray (by rw [hXL]; exact encB_all _))
      have HXY : Hid (XL.toArray.size = Y.length) := Lib.hid (by rw [List.size_toArray, hXLl, HYL.out])
      have HFX := Lib.hid (fun E E' (hE : (frX bs).2.2 = E) (hE' : E' = (E : Int)) W => rfix_at D HDL.out C hC8 X N E (HXE.out E hE) ((z : Int) + 256 * (y : Int)) E' hzy hE' W)
      rw [← hDL] at hRq
      rw [← hDL, ← hXL] at HFX
      have hAd := hRq.get (b := db) (L := DL) (by simp)
      have HXN := Lib.hid hX
      have HNN := Lib.hid hN
      have HXl := Lib.hid hXl
      have HXL := Lib.hid hXL
      clear hX hN hXE hDL hDLl hXL hXLl hXl hlt2 hm hA3 hzy
      go_upto_region 12 with fail
      rcases (frX_err bs).2 with he | he
      rotate_left
      · have HFR := Lib.hid (frR_fixed bs HBK2.out HA1.out (by rw [he]; decide))
        have HF1 := Lib.hid (fun W => HFX.out 21 21 he rfl W)
        clear he HFX
        refine wp_region_lit ?_
        refine wpList_load_mid rfl 76 _ rfl db 0 rfl DL _ hAd.1 Try.underlying76 rfl HID.out ?_
        go_wp2_with (first
          | (go_at_call 48; refine (HF1.out _).mono ?_; rintro e w7 ⟨rfl, hb7⟩; have hR7 := hRq.go hb7)
          | (refine wpList_store_mid rfl 76 _ _ rfl w7.heap.size 0 XL.toArray rfl rfl (((hR7.newL Y 76).get (b := w7.heap.size) (L := Y) (by simp)).thereA HXY.out) HIX.out H1X.out ?_))
        exact bodyPost_ret (v := .tuple #[.int .u8 0, .slice (some ⟨eb, 0, none⟩) 0 0, .int .i64 0, .int .i64 21]) (by simp [results, Try.results18, go_sem]) rfl ⟨by rw [HFR.out]; exact frOut_bad rfl _, ((hR7.newL Y 76).storeA HXY.out).below⟩
      have HF1 := Lib.hid (fun W => HFX.out 0 0 he rfl W)
      have HE0 := Lib.hid he
      clear he HFX
      refine wp_region_lit ?_
      refine wpList_load_mid rfl 76 _ rfl db 0 rfl DL _ hAd.1 Try.underlying76 rfl HID.out ?_
      go_upto_region 15 with (first
        | (go_at_call 48; refine (HF1.out _).mono ?_; rintro e w7 ⟨rfl, hb7⟩; have hR7 := hRq.go hb7)
        | (refine wpList_store_mid rfl 76 _ _ rfl w7.heap.size 0 XL.toArray rfl rfl (((hR7.newL Y 76).get (b := w7.heap.size) (L := Y) (by simp)).thereA HXY.out) HIX.out H1X.out ?_))
      have hR9 := (hR7.newL Y 76).storeA HXY.out
      rw [List.toList_toArray] at hR9
      obtain ⟨W9, hW9⟩ : ∃ W1, W1 = (w7.alloc (.cells Y.toArray 76)).setCells w7.heap.size 0 XL := ⟨_, rfl⟩
      obtain ⟨yb, hyb⟩ : ∃ db, db = w7.heap.size := ⟨_, rfl⟩
      rw [← hW9] at hR9 ⊢
      simp only [← hyb] at hR9 ⊢
      rw [HXL.out] at hR9
      have hAx := hR9.get (b := yb) (L := X.map encB) (by simp)
      have hx1 := hAx.at_ 1 _ (encB_cell X 1 (by rw [HXl.out]; decide))
      have hx0 := hAx.at_ 0 _ (encB_cell X 0 (by rw [HXl.out]; decide))
      obtain ⟨S, hS⟩ : ∃ S, S = (X.getD 1 0).toNat := ⟨_, rfl⟩
      have hS8 : S < 256 := by rw [hS]; exact (X.getD 1 0).toNat_lt
      obtain ⟨k0, hk0⟩ : ∃ S, S = ((X.getD 0 0).toNat : Int) := ⟨_, rfl⟩
      have hk8 : 0 ≤ k0 ∧ k0 < 256 := by have := (X.getD 0 0).toNat_lt; omega
      rw [← hS] at hx1
      rw [← hk0] at hx0
      have HSZ : Hid (sizeD X = S) := Lib.hid (by rw [hS]; rfl)
      have HK0 := Lib.hid hk0
      have HNO := Lib.hid (frR_no bs HL.out HBK2.out HA1.out HE0.out X HXN.out)
      clear hW9 hyb hR7 hRq hAd hb7 hc0 hc1 hS hk0 hAx
      by_cases hS2 : 240 < S
      · have HFR := Lib.hid (HNO.out (fun h => by have h1 := h.1; rw [HSZ.out] at h1; omega))
        have d1 : decide ((240 : Int) < (S : Int)) = true := decide_eq_true (by omega)
        clear HNO
        go_wp2_with fail
        exact bodyPost_ret (v := .tuple #[.int .u8 0, .slice (some ⟨eb, 0, none⟩) 0 0, .int .i64 0, .int .i64 21]) (by simp [results, Try.results18, go_sem]) rfl ⟨by rw [HFR.out]; exact frOut_bad rfl _, hR9.below⟩
      have d1 : decide ((240 : Int) < (S : Int)) = false := decide_eq_false (by omega)
      by_cases hk00 : k0 = 0
      · have HFR := Lib.hid (HNO.out (fun h => h.2.1 (by apply UInt8.toNat.inj; have := HK0.out; show (X.getD 0 0).toNat = 0; omega)))
        subst hk00
        clear HNO
        go_wp2_with fail
        exact bodyPost_ret (v := .tuple #[.int .u8 0, .slice (some ⟨eb, 0, none⟩) 0 0, .int .i64 0, .int .i64 21]) (by simp [results, Try.results18, go_sem]) rfl ⟨by rw [HFR.out]; exact frOut_bad rfl _, hR9.below⟩
      have d2 : (k0 == 0) = false := by simpa using hk00
      by_cases hk55 : k0 = 255
      · have HFR := Lib.hid (HNO.out (fun h => h.2.2.1 (by apply UInt8.toNat.inj; have := HK0.out; show (X.getD 0 0).toNat = 255; omega)))
        subst hk55
        clear HNO
        go_wp2_with fail
        exact bodyPost_ret (v := .tuple #[.int .u8 0, .slice (some ⟨eb, 0, none⟩) 0 0, .int .i64 0, .int .i64 21]) (by simp [results, Try.results18, go_sem]) rfl ⟨by rw [HFR.out]; exact frOut_bad rfl _, hR9.below⟩
      have d3 : (k0 == 255) = false := by simpa using hk55
      have HN1 := Lib.hid (show X.getD 0 0 ≠ 0 from fun e => hk00 (by rw [HK0.out, e]; rfl))
      have HN2 := Lib.hid (show X.getD 0 0 ≠ 255 from fun e => hk55 (by rw [HK0.out, e]; rfl))
      have HSL : Hid (sizeD X ≤ 240) := Lib.hid (by rw [HSZ.out]; omega)
      obtain ⟨m0, hm0⟩ : ∃ m, m = 2 + S := ⟨_, rfl⟩
      have hm0i : (2 : Int) + (S : Int) = (m0 : Int) := by omega
      have HM0 := Lib.hid hm0
      have hm02 : m0 ≤ 252 := by omega
      clear hk00 hk55 hm0
      go_wp2_with fail
      go_loopw [14] (fun v14 wr => ∃ i : Nat, m0 ≤ i ∧ i ≤ 252 ∧ v14 = .int .i64 (i : Int) ∧ (∀ q, m0 ≤ q → q < i → X.getD q 0 = 0) ∧ Rows w [(yb, X.map encB), (db, DL), (xb, bs.map encB)] wr) (fun v14 _ => 252 - (intOf v14).toNat)
      case atStart => exact ⟨m0, Nat.le_refl _, by omega, rfl, fun q h1 h2 => by omega, hR9⟩
      case round =>
        obtain ⟨i, hi1, hi2, rfl, hF, hRz⟩ := hrel
        have HF := Lib.hid hF
        clear hF hR9 hx0 hx1
        have hAz := hRz.get (b := yb) (L := X.map encB) (by simp)
        by_cases hlt : i < 252
        · have hci := hAz.at_ i _ (encB_cell X i (by rw [HXl.out]; omega))
          obtain ⟨xi, hxi⟩ : ∃ S, S = ((X.getD i 0).toNat : Int) := ⟨_, rfl⟩
          rw [← hxi] at hci
          have HXI := Lib.hid hxi
          have hxi8 : 0 ≤ xi := by omega
          have hii : (i : Int) < 256 := by omega
          have hij : (i : Int) < 252 := by omega
          have hi0 : (0 : Int) ≤ i := by omega
          clear hxi hAz
          by_cases hx00 : xi = 0
          · subst hx00
            clear HNO
            go_wp2_with fail
            go_roundw
            case rel => exact ⟨i + 1, by omega, by omega, by go_num, fun q h1 h2 => by
              by_cases e : q = i
              · subst e; apply UInt8.toNat.inj; have := HXI.out; show (X.getD q 0).toNat = 0; omega
              · exact HF.out q h1 (by omega), hRz⟩
            case measure => simp [intOf]; omega
          · have HFR := Lib.hid (HNO.out (fun h => hx00 (by
              have h1 := h.2.2.2.1 i (by rw [HSZ.out, ← HM0.out]; exact hi1) hlt
              rw [HXI.out, h1]; rfl)))
            have d4 : (xi == 0) = false := by simpa using hx00
            have d5 : (xi != 0) = true := by simpa using hx00
            clear HNO hx00
            go_wp2_with fail
            exact bodyPost_ret (v := .tuple #[.int .u8 0, .slice (some ⟨eb, 0, none⟩) 0 0, .int .i64 0, .int .i64 21]) (by simp [results, Try.results18, go_sem]) rfl ⟨by rw [HFR.out]; exact frOut_bad rfl _, hRz.below⟩
        · have hi9 : i = 252 := by omega
          subst hi9
          rw [show ((252 : Nat) : Int) = 252 from rfl]
          have HZD : Hid (zerosD X) := Lib.hid (fun q h1 h2 => HF.out q (by rw [HSZ.out, ← HM0.out] at h1; exact h1) h2)
          obtain ⟨T, hT⟩ : ∃ T, T = (crcF 0#32 (X.take 252)).toNat := ⟨_, rfl⟩
          have hTl : T < 4294967296 := by rw [hT]; exact (crcF 0#32 (X.take 252)).isLt
          have hT64 : IntKind.u64.wrap (T : Int) = (T : Int) := by rw [IntKind.wrap_u64]; omega
          have hT' : ((crcF 0#32 (X.take 252)).toNat : Int) = (T : Int) := by rw [hT]
          have HOn := Lib.hid (fun W h => ref_r 0 (T : Int) 0#32 (by rfl) (some ⟨yb, 0, none⟩) 252 256 (X.take 252) W (by rw [List.length_take, HXl.out]; rfl) h hT')
          have HNum := Lib.hid (fun W => refnum_any 4 T W (by omega))
          rw [show wid 4 = 4 from rfl] at HNum
          obtain ⟨N4, hN4⟩ : ∃ N, N = numB 4 T := ⟨_, rfl⟩
          rw [← hN4] at HNum
          have HSD : Hid (sumD X = N4) := Lib.hid (by rw [hN4, hT]; rfl)
          have HBS : Hid (Bs wr (.slice (some ⟨yb, 0, none⟩) 252 256) (X.take 252)) := Lib.hid (hAz.bs 0 252 256 (by rw [HXl.out]; decide) (by decide) (by decide))
          obtain ⟨R4, hR4⟩ : ∃ R, R = X.drop 252 := ⟨_, rfl⟩
          have HR4 := Lib.hid hR4
          clear hT hT' hN4 hR4 hAz HF hi1 hi2 hlt
          go_upto_region 24 with (first
            | (go_at_call 39; refine (HOn.out _ HBS.out).mono ?_; rintro e w5 ⟨rfl, rfl⟩)
            | (go_at_call 33; refine (HNum.out _).mono ?_; rintro e w5 ⟨v, rfl, ho5, hb5⟩; obtain ⟨g, c5, rfl, _, _, _, _⟩ := own_pos ho5 (by decide)))
          have hRy := hRz.go hb5
          have hAy := hRy.get (b := yb) (L := X.map encB) (by simp)
          have hB4 := (own_bs ho5).2
          have hB5 := hAy.bs 252 4 4 (by rw [HXl.out]; decide) (by decide) (by decide)
          rw [← HR4.out, List.take_of_length_le (by rw [HR4.out, List.length_drop, HXl.out]; decide)] at hB5
          have hd1 := run_str (w := w5.drew) hB4
          have hd2 := run_str (w := w5.drew) hB5
          clear ho5 hb5 hRz HBS HOn HNum
          by_cases hq : N4 = R4
          · have HSS : Hid (sumD X = X.drop 252) := Lib.hid (by rw [HSD.out, hq, HR4.out])
            rw [← hq] at hd2
            clear hq HNO
            go_region
            go_upto_region 26 with fail
            obtain ⟨body, hbd9⟩ : ∃ b, b = (X.drop 2).take S := ⟨_, rfl⟩
            have HBL : Hid (body.length = S) := Lib.hid (by rw [hbd9, List.length_take, List.length_drop, HXl.out]; omega)
            have HBD := Lib.hid hbd9
            obtain ⟨hi1, hi2, hi3, hi4, hW2, hW2b, hn1, hn2, hn3, hn4⟩ := rr_nums S (Nat.le_of_not_lt hS2)
            obtain ⟨hW3, hW3b⟩ := rr_sum N av hN1 hav3
            clear hbd9 hm0i hd1 hd2
            refine wp_region_front 14 [103, 104, 105, 106, 107, 108, 109, 110, 111, 112, 2, 3, 4, 5] 0 #[true, true, true, true, true, true, true, true, true, true, true, true, true, true] (fun W => Rows w [(yb, X.map encB), (db, DL), (xb, bs.map encB)] W) (rrF yb eb S k0 N av body) yesP (by kernel_rfl) (by kernel_rfl) (by kernel_rfl) (by kernel_rfl) (by kernel_rfl) (fun _ _ hb h => h.go hb) rrF_below hRy.drew.drew ?_ ?_
            · intro i hi s w9 hs hB hd
              have s6 : s 6 = .slice (some ⟨eb, 0, none⟩) 0 0 := hs 6 (by decide)
              have s7 : s 7 = .int .i64 (av : Int) := hs 7 (by decide)
              have s10 : s 10 = .pointer (some ⟨yb, 0, none⟩) := hs 10 (by decide)
              have s11 : s 11 = .int .i64 (N : Int) := hs 11 (by decide)
              have s13 : s 13 = .int .i64 (S : Int) := hs 13 (by decide)
              have hAb := hB.get (b := yb) (L := X.map encB) (by simp)
              have hc0 := hAb.at_ 0 _ (encB_cell X 0 (by rw [HXl.out]; decide))
              rw [← HK0.out] at hc0
              have hbd := hAb.bs 2 S 254 (by rw [HXl.out]; exact hn1) hn2 hn3
              rw [← HBD.out] at hbd
              obtain rfl | rfl | rfl | rfl | rfl | rfl | rfl | rfl | rfl | rfl | rfl | rfl | rfl | rfl : i = 0 ∨ i = 1 ∨ i = 2 ∨ i = 3 ∨ i = 4 ∨ i = 5 ∨ i = 6 ∨ i = 7 ∨ i = 8 ∨ i = 9 ∨ i = 10 ∨ i = 11 ∨ i = 12 ∨ i = 13 := rr_cases i hi
              · refine stepG_plain (by rfl) (stepS_run (v := .pointer (some ⟨yb, 0, none⟩)) ?_ ⟨Below.refl _ _, rfl, fun j _ _ u _ => ⟨trivial, trivial⟩⟩)
                simp [execOp, evS, s10, Result.andThen, go_sem]
              · have h0 : s 103 = .pointer (some ⟨yb, 0, none⟩) := hd 0 (by decide +kernel)
                refine stepG_plain (by rfl) (stepS_run (v := .int .u8 k0) ?_ ⟨Below.refl _ _, rfl, fun j _ _ u _ => ⟨trivial, trivial⟩⟩)
                simp [execOp, evS, h0, hc0, Result.andThen, go_sem]
              · exact stepG_plain (by rfl) (stepS_move _ rfl ⟨Below.refl _ _, s6, fun j _ _ u _ => ⟨trivial, trivial⟩⟩)
              · exact stepG_plain (by rfl) (stepS_move _ rfl ⟨Below.refl _ _, s13, fun j _ _ u _ => ⟨trivial, trivial⟩⟩)
              · have h3 : s 106 = .int .i64 (S : Int) := hd 3 (by decide +kernel)
                refine stepG_plain (by rfl) (stepS_run (v := .int .i64 (2 + (S : Int))) ?_ ⟨Below.refl _ _, rfl, fun j _ _ u _ => ⟨trivial, trivial⟩⟩)
                simp [execOp, evS, h3, hW2, hW2b, Result.andThen, go_sem]
              · have h4 : s 107 = .int .i64 (2 + (S : Int)) := hd 4 (by decide +kernel)
                refine stepG_plain (by rfl) (stepS_run (v := .slice (some ⟨yb, 2, none⟩) S 254) ?_ ⟨Below.refl _ _, rfl, fun j _ _ u _ => ⟨trivial, trivial⟩⟩)
                simp [execOp, evS, s10, h4, hi1, hi2, hi3, hi4, Result.andThen, go_sem]
              · have h2 : s 105 = .slice (some ⟨eb, 0, none⟩) 0 0 := hd 2 (by decide +kernel)
                have h5 : s 108 = .slice (some ⟨yb, 2, none⟩) S 254 := hd 5 (by decide +kernel)
                refine stepG_plain (by rfl) ?_
                refine stepS_append rfl Try.underlying22 info_u8 rfl (by decide) (by decide) eb h2 (some ⟨yb, 2, none⟩) S 254 (body.map encB) h5 hbd.at (by rw [List.length_map, HBL.out, Nat.mul_one]) (encB_all body) hn4 ?_
                intro A9 c9 w10 hat hmc hcm hb9
                exact ⟨hb9, ⟨A9, S, c9, rfl, ⟨A9, c9, by rw [HBL.out], by rw [HBL.out]; exact hmc, by rw [HBL.out]; exact hn3, hat⟩⟩, fun j _ _ u _ => ⟨trivial, trivial⟩⟩
              · exact stepG_plain (by rfl) (stepS_move _ rfl ⟨Below.refl _ _, s11, fun j _ _ u _ => ⟨trivial, trivial⟩⟩)
              · exact stepG_plain (by rfl) (stepS_move _ rfl ⟨Below.refl _ _, s7, fun j _ _ u _ => ⟨trivial, trivial⟩⟩)
              · have h7 : s 110 = .int .i64 (N : Int) := hd 7 (by decide +kernel)
                have h8 : s 111 = .int .i64 (av : Int) := hd 8 (by decide +kernel)
                refine stepG_plain (by rfl) (stepS_run (v := .int .i64 ((N + av : Nat) : Int)) ?_ ⟨Below.refl _ _, rfl, fun j _ _ u _ => ⟨trivial, trivial⟩⟩)
                simp [execOp, evS, h7, h8, hW3, hW3b, Result.andThen, go_sem]
              · have h1 : s 104 = .int .u8 k0 := hd 1 (by decide +kernel)
                exact stepG_plain (by rfl) (stepS_assign _ rfl ⟨Below.refl _ _, h1, fun j _ _ u _ => ⟨trivial, trivial⟩⟩)
              · obtain ⟨A6, n6, c6, h6, b6⟩ : BsV body (s 109) w9 := hd 6 (by decide +kernel)
                refine stepG_plain (by rfl) ?_
                exact stepS_assign _ rfl ⟨Below.refl _ _, ⟨_, _, _, h6, b6⟩, fun j _ _ u _ => ⟨trivial, trivial⟩⟩
              · have h9 : s 112 = .int .i64 ((N + av : Nat) : Int) := hd 9 (by decide +kernel)
                exact stepG_plain (by rfl) (stepS_assign _ rfl ⟨Below.refl _ _, h9, fun j _ _ u _ => ⟨trivial, trivial⟩⟩)
              · exact stepG_plain (by rfl) (stepS_assign _ rfl ⟨Below.refl _ _, rfl, fun j _ _ u _ => ⟨trivial, trivial⟩⟩)
            intro s w9 hB hF _
            have h2 : s 2 = .int .u8 k0 := hF 10 (by decide)
            obtain ⟨A3, n3, c3, h3, b3⟩ : BsV body (s 3) w9 := hF 11 (by decide)
            have h4 : s 4 = .int .i64 ((N + av : Nat) : Int) := hF 12 (by decide)
            have h5 : s 5 = .int .i64 0 := hF 13 (by decide)
            refine wpAny_end (by kernel_rfl) ?_
            simp only [setAll, List.foldl_cons, List.foldl_nil, List.setIfInBounds_toArray, List.set_cons_succ, List.set_cons_zero, h2, h3, h4, h5]
            clear hF h2 h3 h4 h5 hW2 hW2b hW3 hW3b hi1 hi2 hi3 hi4 hn1 hn2 hn3 hn4
            go_wp2_with fail
            have hyes := frR_yes bs HL.out HBK2.out HA1.out HE0.out X HXN.out HSL.out HN1.out HN2.out HZD.out HSS.out
            rw [HSZ.out, ← HBD.out, ← HNN.out, ← HC.out, ← HAV.out] at hyes
            rw [HK0.out]
            exact bodyPost_ret (v := .tuple #[.int .u8 ((X.getD 0 0).toNat : Int), .slice A3 n3 c3, .int .i64 ((N + av : Nat) : Int), .int .i64 0]) (by simp [results, Try.results18, go_sem]) rfl ⟨by rw [hyes]; exact ⟨_, rfl, ⟨A3, n3, c3, rfl, b3⟩⟩, hB.below⟩
          · have HFR := Lib.hid (HNO.out (fun h => hq (by rw [← HSD.out, h.2.2.2.2, HR4.out])))
            have hqb : (N4 == R4) = false := by simpa using hq
            clear HNO hq
            go_region
            go_wp2_with fail
            exact bodyPost_ret (v := .tuple #[.int .u8 0, .slice (some ⟨eb, 0, none⟩) 0 0, .int .i64 0, .int .i64 21]) (by simp [results, Try.results18, go_sem]) rfl ⟨by rw [HFR.out]; exact frOut_bad rfl _, hRy.drew.below⟩
end Go.Proofs.YtljdfhckllncoaaK
