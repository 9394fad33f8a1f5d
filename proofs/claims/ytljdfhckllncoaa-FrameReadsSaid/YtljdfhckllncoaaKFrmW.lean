import Derived.Test.YtljdfhckllncoaaKFrmP
import Derived.Test.YtljdfhckllncoaaKMa
import Derived.Test.YtljdfhckllncoaaKMc
import Derived.Test.YtljdfhckllncoaaKMb
import Derived.Deep.DeepCutAuto
namespace Go.Proofs.YtljdfhckllncoaaK
open Go.RowKit
set_option linter.unusedSimpArgs false
set_option linter.unusedVariables false
theorem page_zero (w : World) : (zeroValue 26).run Try.prog w = .ok (.agg (z258.map encB).toArray) w :=
  (zero_of_info (P := Try.prog) (t := 26) (v := .agg (z258.map encB).toArray) (n := 258) (by kernel_rfl)).1 w
theorem data_zero (w : World) : (zeroValue 76).run Try.prog w = .ok (.agg (z256.map encB).toArray) w :=
  (zero_of_info (P := Try.prog) (t := 76) (v := .agg (z256.map encB).toArray) (n := 256) (by kernel_rfl)).1 w
theorem page_info : (Try.prog.info? 26).map (·.size) = some 258 := by kernel_rfl
theorem data_info : (Try.prog.info? 76).map (·.size) = some 256 := by kernel_rfl
set_option maxRecDepth 100000 in
set_option maxHeartbeats 4000000 in
theorem fw_bad (k : UInt8) (A : Option Addr) (n c : Nat) (xss : List (List UInt8)) (w : World) (hX : Bss w (.slice A n c) xss) (hn : n ≤ 1000000) (hlens : Lib.lens xss ≤ 100000000) (h : k = 0 ∨ k = 255 ∨ 240 < xss.flatten.length) :
    Calls Try.prog 14 #[.int .u8 (k.toNat : Int), .slice A n c] w fun e w' => e = .returned (.tuple #[.agg (z258.map encB).toArray, .int .i64 1]) ∧ Below w.heap.size w w' := by
  have hz := page_zero
  obtain ⟨Z, hZ⟩ : ∃ Z, Z = z258.map encB := ⟨_, rfl⟩
  have hZl : Z.length = 258 := by rw [hZ, List.length_map, z258_len]
  have h1Z : ∀ v ∈ Z, v.oneCell' = true := by rw [hZ]; exact encB_all _
  rw [← hZ] at hz ⊢
  have HI := Lib.hid (show (Try.prog.info? 26).map (·.size) = some Z.length by rw [hZl]; exact page_info)
  have HIA := Lib.hid (show (Try.prog.info? 26).map (·.size) = some Z.toArray.size by rw [List.size_toArray, hZl]; exact page_info)
  have H1A : Hid (Z.toArray.all (·.oneCell') = true) := Lib.hid (all_oneCell_toArray h1Z)
  have HZZ : Hid (Z.toArray.size = Z.length) := Lib.hid (by simp)
  have HJ := Lib.hid (fun W h => pjoin_any A n c xss W h (by omega) (by omega))
  obtain ⟨body, hbd⟩ : ∃ b, b = xss.flatten := ⟨_, rfl⟩
  rw [← hbd] at HJ h
  clear hZ hZl h1Z hbd
  obtain ⟨W, hW⟩ : ∃ W, W = w.alloc (.cells Z.toArray 26) := ⟨_, rfl⟩
  obtain ⟨pb, hpb⟩ : ∃ pb, pb = w.heap.size := ⟨_, rfl⟩
  have hR0 : Rows w [(pb, Z)] W := by rw [hW, hpb]; exact (Rows.nil w).newL Z _
  have HX := Lib.hid (hX.below hR0.below)
  obtain ⟨K, hK⟩ : ∃ K, K = (k.toNat : Int) := ⟨_, rfl⟩
  have hcase : K = 0 ∨ K ≠ 0 ∧ K = 255 ∨ K ≠ 0 ∧ K ≠ 255 ∧ 240 < body.length := by
    have a1 : k = 0 → K = 0 := fun e => by rw [hK, e]; rfl
    have a2 : k = 255 → K = 255 := fun e => by rw [hK, e]; rfl
    rcases h with h | h | h
    · exact .inl (a1 h)
    · exact .inr (.inl ⟨by rw [a2 h]; decide, a2 h⟩)
    · by_cases e1 : K = 0
      · exact .inl e1
      · by_cases e2 : K = 255
        · exact .inr (.inl ⟨e1, e2⟩)
        · exact .inr (.inr ⟨e1, e2, h⟩)
  rw [← hK]
  clear h hK hX
  go_enter Try.func14, Try.ntmps14
  go_wp2_with fail
  rw [← hW]
  simp only [← hpb]
  clear hW hpb
  rcases hcase with e1 | ⟨e0, e1⟩ | ⟨e0, e1, e2⟩
  · subst e1
    go_wp2_with (first
      | (go_at_call 35; refine (HJ.out _ HX.out).mono ?_; rintro e w1 ⟨v, rfl, hf, hb1⟩; have hR1 := hR0.go hb1; have hA1 := hR1.get (b := pb) (L := Z) (by simp))
      | (refine wpList_load_mid rfl 26 _ rfl pb 0 rfl Z _ hA1.1 Try.underlying26 rfl HI.out ?_)
      | (refine wp_load_mid 26 _ rfl pb 0 rfl Z _ hA1.1 Try.underlying26 rfl HI.out ?_)
      | (refine wpList_store_mid rfl 26 _ _ rfl pb 0 Z.toArray rfl rfl (hA1.thereA HZZ.out) HIA.out H1A.out ?_))
    have hR2 := hR1.storeA HZZ.out
    exact bodyPost_row2 rfl rfl rfl rfl (hR2.get (b := pb) (L := Z.toArray.toList) (by simp)) Try.underlying26 rfl (by simpa using HI.out) ⟨by simp, hR2.below⟩
  · subst e1
    go_wp2_with (first
      | (go_at_call 35; refine (HJ.out _ HX.out).mono ?_; rintro e w1 ⟨v, rfl, hf, hb1⟩; have hR1 := hR0.go hb1; have hA1 := hR1.get (b := pb) (L := Z) (by simp))
      | (refine wpList_load_mid rfl 26 _ rfl pb 0 rfl Z _ hA1.1 Try.underlying26 rfl HI.out ?_)
      | (refine wp_load_mid 26 _ rfl pb 0 rfl Z _ hA1.1 Try.underlying26 rfl HI.out ?_)
      | (refine wpList_store_mid rfl 26 _ _ rfl pb 0 Z.toArray rfl rfl (hA1.thereA HZZ.out) HIA.out H1A.out ?_))
    have hR2 := hR1.storeA HZZ.out
    exact bodyPost_row2 rfl rfl rfl rfl (hR2.get (b := pb) (L := Z.toArray.toList) (by simp)) Try.underlying26 rfl (by simpa using HI.out) ⟨by simp, hR2.below⟩
  · have e2i : (240 : Int) < (body.length : Int) := by omega
    have b0 : (K == 0) = false := beq_eq_false_iff_ne.2 e0
    have b1 : (K == 255) = false := beq_eq_false_iff_ne.2 e1
    go_wp2_with (first
      | (go_at_call 35; refine (HJ.out _ HX.out).mono ?_; rintro e w1 ⟨v, rfl, hf, hb1⟩; obtain ⟨A2, c2, rfl, hcc1, hcc2, _⟩ := hf.1; have hR1 := hR0.go hb1; have hA1 := hR1.get (b := pb) (L := Z) (by simp))
      | (refine wpList_load_mid rfl 26 _ rfl pb 0 rfl Z _ hA1.1 Try.underlying26 rfl HI.out ?_)
      | (refine wp_load_mid 26 _ rfl pb 0 rfl Z _ hA1.1 Try.underlying26 rfl HI.out ?_)
      | (refine wpList_store_mid rfl 26 _ _ rfl pb 0 Z.toArray rfl rfl (hA1.thereA HZZ.out) HIA.out H1A.out ?_))
    have hR2 := hR1.storeA HZZ.out
    exact bodyPost_row2 rfl rfl rfl rfl (hR2.get (b := pb) (L := Z.toArray.toList) (by simp)) Try.underlying26 rfl (by simpa using HI.out) ⟨by simp, hR2.below⟩
def fwF (db : Nat) (h252 n4 : List UInt8) (S : Nat) : Nat → Value → World → Prop
  | 0, v, _ => v = .slice (some ⟨db, 252, none⟩) 4 4
  | 1, v, _ => v = .slice (some ⟨db, 0, none⟩) 252 256
  | 2, v, w => ∃ A n c, v = .slice A n c ∧ n = 1 ∧ Bss w (.slice A n c) [h252]
  | 3, v, _ => v = .int .u32 (S : Int)
  | 4, v, _ => v = .int .u64 (S : Int)
  | 5, v, w => BsV n4 v w
  | _, _, _ => False
theorem fwF_below {db : Nat} {h252 n4 : List UInt8} {S : Nat} (i : Nat) (v : Value) (w w' : World) (hb : Below w.heap.size w w') (h : fwF db h252 n4 S i v w) : fwF db h252 n4 S i v w' := by
  match i with
  | 2 => obtain ⟨A, n, c, h1, h2, h3⟩ := h; exact ⟨A, n, c, h1, h2, h3.below hb⟩
  | 5 => exact BsV.below h hb
  | 0 | 1 | 3 | 4 => exact h
  | n + 6 => exact h
def fwE (pb db : Nat) : Nat → Value → World → Prop
  | 0, v, _ => v = .slice (some ⟨pb, 0, none⟩) 258 258
  | 1, v, _ => v = .slice (some ⟨db, 0, none⟩) 256 256
  | _, _, _ => False
theorem fwE_below {pb db : Nat} (i : Nat) (v : Value) (w w' : World) (hb : Below w.heap.size w w') (h : fwE pb db i v w) : fwE pb db i v w' := by
  match i with
  | 0 | 1 => exact h
  | n + 2 => exact h
def fwG (db : Nat) (D : List Value) (C : Nat) (n2 : List UInt8) (pb : Nat) : Nat → Value → World → Prop
  | 0, v, _ => v = .slice (some ⟨pb, 256, none⟩) 2 2
  | 1, v, _ => v = .agg D.toArray
  | 2, v, _ => v = .int .u16 (C : Int)
  | 3, v, _ => v = .int .u64 (C : Int)
  | 4, v, w => BsV n2 v w
  | _, _, _ => False
theorem fwG_below {db : Nat} {D : List Value} {C : Nat} {n2 : List UInt8} {pb : Nat} (i : Nat) (v : Value) (w w' : World) (hb : Below w.heap.size w w') (h : fwG db D C n2 pb i v w) : fwG db D C n2 pb i v w' := by
  match i with
  | 4 => exact BsV.below h hb
  | 0 | 1 | 2 | 3 => exact h
  | n + 5 => exact h
set_option maxRecDepth 100000 in
set_option maxHeartbeats 8000000 in
theorem fw_ok (k : UInt8) (A : Option Addr) (n c : Nat) (xss : List (List UInt8)) (w : World) (hX : Bss w (.slice A n c) xss) (hn : n ≤ 1000000) (hlens : Lib.lens xss ≤ 100000000) (h0 : k ≠ 0) (h1 : k ≠ 255) (hbl : xss.flatten.length ≤ 240) :
    Calls Try.prog 14 #[.int .u8 (k.toNat : Int), .slice A n c] w fun e w' => e = .returned (.tuple #[.agg ((frP k xss.flatten).map encB).toArray, .int .i64 0]) ∧ Below w.heap.size w w' := by
  have hzp := page_zero
  have hzd := data_zero
  have HJ := Lib.hid (fun W h => pjoin_any A n c xss W h (by omega) (by omega))
  obtain ⟨body, hbd⟩ : ∃ b, b = xss.flatten := ⟨_, rfl⟩
  rw [← hbd] at HJ hbl ⊢
  have hHl := frH_len k body hbl
  have hDl := frD_len k body hbl
  have hQl := frQ_len k body hbl
  have hPl := frP_len k body hbl
  -- the rows, one behind the other
  have d0 : (z256.map encB).set 0 (encB k) = (z256.set 0 k).map encB := by rw [← List.map_set]
  have d1 : ((z256.set 0 k).map encB).set 1 (encB (UInt8.ofNat body.length)) = ((z256.set 0 k).set 1 (UInt8.ofNat body.length)).map encB := by rw [← List.map_set]
  have d2 : spl (((z256.set 0 k).set 1 (UInt8.ofNat body.length)).map encB) 2 (body.map encB) = (frH k body).map encB := by rw [← spl_map]; rfl
  have d3 : spl ((frH k body).map encB) 252 ((numB 4 (frS k body)).map encB) = (frD k body).map encB := by rw [← spl_map]; rfl
  have p1 : spl (z258.map encB) 0 ((frD k body).map encB) = (spl z258 0 (frD k body)).map encB := by rw [← spl_map]
  have p2 : spl ((spl z258 0 (frD k body)).map encB) 256 ((numB 2 (chk (frD k body))).map encB) = (frP k body).map encB := by rw [← spl_map]; rfl
  have hk : encB k = .int .u8 (k.toNat : Int) := rfl
  have hb : encB (UInt8.ofNat body.length) = .int .u8 (body.length : Int) := by
    unfold encB; rw [UInt8.toNat_ofNat_of_lt' (Nat.lt_of_le_of_lt hbl (by decide))]
  rw [hk] at d0
  rw [hb] at d1
  have hS9 := frS_lt k body
  have hC9 := chk_lt (frD k body)
  have hCk := fun W => check_any (frD k body) hDl W
  have hsum : ((crcF 0#32 [(frH k body).take 252].flatten).toNat : Int) = (frS k body : Int) := by
    rw [show [(frH k body).take 252].flatten = (frH k body).take 252 from by simp]; rfl
  have hK0 : (k.toNat : Int) ≠ 0 := fun e => h0 (by apply UInt8.toNat_inj.1; simpa using e)
  have hK1 : (k.toNat : Int) ≠ 255 := fun e => h1 (by apply UInt8.toNat_inj.1; show k.toNat = 255; omega)
  obtain ⟨K, hKe⟩ : ∃ K, K = (k.toNat : Int) := ⟨_, rfl⟩
  rw [← hKe] at d0 hK0 hK1 ⊢
  have hD0 : ((z256.map encB))[0]? = some (.int .u8 0) := by rfl
  have hD1 : ((z256.set 0 k).map encB)[1]? = some (.int .u8 0) := by rfl
  obtain ⟨S, hSe⟩ : ∃ S, S = frS k body := ⟨_, rfl⟩
  obtain ⟨Hh, hHe⟩ : ∃ H, H = frH k body := ⟨_, rfl⟩
  obtain ⟨D, hDe⟩ : ∃ D, D = frD k body := ⟨_, rfl⟩
  obtain ⟨C, hCe⟩ : ∃ C, C = chk (frD k body) := ⟨_, rfl⟩
  rw [← hCe] at hC9 hCk p2
  rw [← hSe] at hS9 d3 hsum
  rw [← hHe] at d2 d3 hHl hsum
  rw [← hDe] at d3 p1 p2 hDl hCk hQl
  obtain ⟨Z, hZ⟩ : ∃ Z, Z = z258.map encB := ⟨_, rfl⟩
  obtain ⟨Y, hY⟩ : ∃ Z, Z = z256.map encB := ⟨_, rfl⟩
  obtain ⟨Y0, hY0⟩ : ∃ Z, Z = (z256.set 0 k).map encB := ⟨_, rfl⟩
  obtain ⟨Y1, hY1⟩ : ∃ Z, Z = ((z256.set 0 k).set 1 (UInt8.ofNat body.length)).map encB := ⟨_, rfl⟩
  obtain ⟨Q, hQ⟩ : ∃ Z, Z = (spl z258 0 D).map encB := ⟨_, rfl⟩
  obtain ⟨P, hP⟩ : ∃ Z, Z = (frP k body).map encB := ⟨_, rfl⟩
  have hZl : Z.length = 258 := by rw [hZ, List.length_map, z258_len]
  have hYl : Y.length = 256 := by rw [hY, List.length_map, z256_len]
  have hY0l : Y0.length = 256 := by rw [hY0, List.length_map, List.length_set, z256_len]
  have hY1l : Y1.length = 256 := by rw [hY1, List.length_map, List.length_set, List.length_set, z256_len]
  have hQQl : Q.length = 258 := by rw [hQ, List.length_map]; exact hQl
  have hPPl : P.length = 258 := by rw [hP, List.length_map]; exact hPl
  have h1P : ∀ v ∈ P, v.oneCell' = true := by rw [hP]; exact encB_all _
  rw [← hZ] at hzp p1
  rw [← hY] at hzd d0 hD0
  rw [← hY0] at d0 d1 hD1
  rw [← hY1] at d1 d2
  rw [← hQ] at p1 p2
  rw [← hP] at p2 ⊢
  have HIP := Lib.hid (show (Try.prog.info? 26).map (·.size) = some P.length by rw [hPPl]; exact page_info)
  have HIPA := Lib.hid (show (Try.prog.info? 26).map (·.size) = some P.toArray.size by rw [List.size_toArray, hPPl]; exact page_info)
  have H1P : Hid (P.toArray.all (·.oneCell') = true) := Lib.hid (all_oneCell_toArray h1P)
  have HPP : Hid (P.toArray.size = P.length) := Lib.hid (by simp)
  have HID := Lib.hid (show (Try.prog.info? 76).map (·.size) = some (D.map encB).length by rw [List.length_map, hDl]; exact data_info)
  have D0 := Lib.hid d0
  have D1 := Lib.hid d1
  have D2 := Lib.hid d2
  have D3 := Lib.hid d3
  have P1 := Lib.hid p1
  have P2 := Lib.hid p2
  have HD0 := Lib.hid hD0
  have HD1 := Lib.hid hD1
  have HZL := Lib.hid hZl
  have HYL := Lib.hid hYl
  have HY0L := Lib.hid hY0l
  have HY1L := Lib.hid hY1l
  have HQL := Lib.hid hQQl
  have HHL := Lib.hid hHl
  have HDL := Lib.hid hDl
  have HCK := Lib.hid hCk
  have HSUM := Lib.hid hsum
  have HS9 := Lib.hid hS9
  have HC9 := Lib.hid hC9
  have HBL := Lib.hid hbl
  have hz24 : ∀ w, (zeroValue 22).run Try.prog w = .ok (.slice none 0 0) w := fun w => by kernel_rfl
  have HZ24 := Lib.hid hz24
  have w8 : IntKind.u8.wrap (body.length : Int) = body.length := by rw [IntKind.wrap_u8]; omega
  have b0 : (K == 0) = false := beq_eq_false_iff_ne.2 hK0
  have b1 : (K == 255) = false := beq_eq_false_iff_ne.2 hK1
  have b2 : ¬ (240 : Int) < (body.length : Int) := by omega
  have eS : IntKind.u64.wrap (S : Int) = S := by rw [IntKind.wrap_u64]; omega
  have eC : IntKind.u64.wrap (C : Int) = C := by rw [IntKind.wrap_u64]; omega
  have ES := Lib.hid eS
  have EC := Lib.hid eC
  obtain ⟨W, hW⟩ : ∃ W, W = w.alloc (.cells Z.toArray 26) := ⟨_, rfl⟩
  obtain ⟨pb, hpb⟩ : ∃ pb, pb = w.heap.size := ⟨_, rfl⟩
  have hR0 : Rows w [(pb, Z)] W := by rw [hW, hpb]; exact (Rows.nil w).newL Z _
  have HX := Lib.hid (hX.below hR0.below)
  clear h0 h1 hK0 hK1 hKe hbd hSe hHe hDe hCe hZ hY hY0 hY1 hQ hP hk hb d0 d1 d2 d3 p1 p2 hD0 hD1 hZl hYl hY0l hY1l hQQl hPPl h1P hHl hDl hQl hPl hCk hsum hS9 hC9 hX hbl hz24 eS eC
  go_enter Try.func14, Try.ntmps14
  go_wp2_with fail
  rw [← hW]
  simp only [← hpb]
  clear hW hpb
  go_upto_region 4 with (go_at_call 35; refine (HJ.out _ HX.out).mono ?_; rintro e w1 ⟨v, rfl, hf, hb1⟩; have hR1 := hR0.go hb1; obtain ⟨A2, c2, rfl, hcc1, hcc2, _⟩ := hf.1; have hB1 := hf.1)
  have hR2 := hR1.newL Y 76
  have hBl2 := hR1.below.size
  go_upto_region 5 with fail
  obtain ⟨W2, hW2⟩ : ∃ W2, W2 = w1.alloc (.cells Y.toArray 76) := ⟨_, rfl⟩
  obtain ⟨db, hdb⟩ : ∃ db, db = w1.heap.size := ⟨_, rfl⟩
  have hfr : W.heap.size ≤ db := by rw [hdb]; exact hb1.size
  have hdq : w1.heap.size ≤ db := by omega
  have hq2 : Below w1.heap.size w1 W2 := by rw [hW2]; exact (Below.refl _ _).alloc (Nat.le_refl _) _
  rw [← hW2] at hR2 ⊢
  simp only [← hdb] at hR2 ⊢
  clear hW2 hdb
  have hA2 := hR2.get (b := db) (L := Y) (by simp)
  have hc0 := hA2.at_ 0 _ HD0.out
  have hf0 := (hA2.2.1 0 (by rw [HYL.out]; decide)).2
  rw [Nat.zero_add] at hf0
  have hR3 := hR2.cell 0 (.int .u8 K)
  rw [D0.out] at hR3
  have hA3 := hR3.get (b := db) (L := Y0) (by simp)
  have hc1 := hA3.at_ 1 _ HD1.out
  have hf1 := (hA3.2.1 1 (by rw [HY0L.out]; decide)).2
  rw [Nat.zero_add] at hf1
  have hR4 := hR3.cell 1 (.int .u8 (body.length : Int))
  rw [D1.out] at hR4
  go_upto_region 6 with fail
  have hq4 := (hq2.setCell (p := ⟨db, 0, none⟩) hdq (.int .u8 K)).setCell (p := ⟨db, 1, none⟩) hdq (.int .u8 (body.length : Int))
  obtain ⟨W4, hW4⟩ : ∃ W4, W4 = (W2.setCell ⟨db, 0, none⟩ (.int .u8 K)).setCell ⟨db, 1, none⟩ (.int .u8 (body.length : Int)) := ⟨_, rfl⟩
  rw [← hW4] at hR4 hq4 ⊢
  clear hW4 hc0 hf0 hA2 hc1 hf1 hA3 hR3 hR2 hq2
  have hB4 := hB1.below hq4
  have hA4 := hR4.get (b := db) (L := Y1) (by simp)
  have hmin : Nat.min body.length 254 = body.length := Nat.min_eq_left (by have := HBL.out; omega)
  have htk : (body.map encB).take body.length = body.map encB := List.take_of_length_le (by simp)
  have HMIN := Lib.hid hmin
  have HTK := Lib.hid htk
  have hfit : 2 + Nat.min body.length 254 ≤ Y1.length := by rw [hmin, HY1L.out]; have := HBL.out; omega
  have HFIT := Lib.hid hfit
  clear hmin htk hfit
  go_upto_region 7 with (refine wpList_copy rfl (Operand.tmp 28) (Operand.tmp 29) 22 22 rfl 5 Try.underlying22 (by kernel_rfl) db 2 254 254 A2 body.length c2 (body.map encB) (by simp [Act.eval]) (by simp [Act.eval]) (by simp) hB4.at hA4 HFIT.out (encB_all _) ?_; rw [HMIN.out, HTK.out])
  have hR6 := hR4.splice (vs := body.map encB) 2 (by have := HFIT.out; rw [HMIN.out] at this; simpa using this)
  rw [D2.out] at hR6
  obtain ⟨W6, hW6⟩ : ∃ W6, W6 = W4.setCells db 2 (body.map encB) := ⟨_, rfl⟩
  rw [← hW6] at hR6 ⊢
  clear hW6 hB4 hA4 hq4 hR4 hB1
  simp only [List.getElem_toArray, List.getElem_cons_succ, List.getElem_cons_zero, Act.put, List.setIfInBounds_toArray, List.set_cons_zero, List.set_cons_succ]
  obtain ⟨i24, hi24⟩ : ∃ i, Try.prog.info? 22 = some i := by
    cases h : Try.prog.info? 22 with
    | none => have := info24; rw [h] at this; cases this
    | some i => exact ⟨i, rfl⟩
  have hi1 : i24.size = 1 := by have := info24; rw [hi24] at this; simp at this; exact this.2.1
  refine wp_region_front 6 [31, 32, 33, 34, 35, 36] 1 #[true, true, true, true, true, true, false] (Rows w [(db, Hh.map encB), (pb, Z)]) (fwF db (Hh.take 252) (numB 4 S) S) yesP (by kernel_rfl) (by kernel_rfl) (by kernel_rfl) (by kernel_rfl) (by kernel_rfl) (fun _ _ hb h => h.go hb) fwF_below hR6.drew ?_ ?_
  · intro i hi s w7 hs hB hd
    have s7 : s 7 = .pointer (some ⟨db, 0, none⟩) := hs 7 (by decide)
    have hA := hB.get (b := db) (L := Hh.map encB) (by simp)
    obtain rfl | rfl | rfl | rfl | rfl | rfl : i = 0 ∨ i = 1 ∨ i = 2 ∨ i = 3 ∨ i = 4 ∨ i = 5 := by omega
    all_goals refine stepG_plain (by rfl) ?_
    · refine stepS_run (v := .slice (some ⟨db, 252, none⟩) 4 4) ?_ ⟨Below.refl _ _, rfl, fun j _ _ u _ => ⟨trivial, trivial⟩⟩
      simp [execOp, evS, s7, go_sem]
    · refine stepS_run (v := .slice (some ⟨db, 0, none⟩) 252 256) ?_ ⟨Below.refl _ _, rfl, fun j _ _ u _ => ⟨trivial, trivial⟩⟩
      simp [execOp, evS, s7, go_sem]
    · have h1 : s 32 = .slice (some ⟨db, 0, none⟩) 252 256 := hd 1 (by decide +kernel)
      have hbs : Bs w7 (.slice (some ⟨db, 0, none⟩) 252 256) (Hh.take 252) := hA.bs 0 252 256 (by rw [HHL.out]; decide) (by decide) (by decide)
      exact stepS_one rfl Try.underlying31 hi24 hi1 h1 rfl (HZ24.out w7) ⟨(Below.refl _ _).alloc (Nat.le_refl _) _, ⟨_, 1, 1, rfl, rfl, Bss.new1 rfl hbs⟩, fun j _ _ u _ => ⟨trivial, trivial⟩⟩
    · obtain ⟨A3, n3, c3, h3, h4, h5⟩ : ∃ A n c, s 33 = .slice A n c ∧ n = 1 ∧ Bss w7 (.slice A n c) [Hh.take 252] := hd 2 (by decide +kernel)
      refine stepS_call rfl Try.func37 (by kernel_rfl) (by kernel_rfl) #[.slice A3 n3 c3] (by simp [evS, h3]) ((sum_r (S : Int) A3 n3 c3 [Hh.take 252] w7 h4 h5 HSUM.out).mono ?_)
      rintro e w8 ⟨rfl, rfl⟩
      exact ⟨_, rfl, Below.refl _ _, rfl, fun j _ _ u _ => ⟨trivial, trivial⟩⟩
    · have h3 : s 34 = .int .u32 (S : Int) := hd 3 (by decide +kernel)
      refine stepS_run (v := .int .u64 (S : Int)) ?_ ⟨Below.refl _ _, rfl, fun j _ _ u _ => ⟨trivial, trivial⟩⟩
      simp [execOp, evS, h3, go_sem, ES.out]
    · have h3 : s 35 = .int .u64 (S : Int) := hd 4 (by decide +kernel)
      refine stepS_call rfl Try.func36 (by kernel_rfl) (by kernel_rfl) #[.int .i64 4, .int .u64 (S : Int)] (by simp [evS, h3]) ((num_any 4 S w7 (by have := HS9.out; omega)).mono ?_)
      rintro e w8 ⟨v, rfl, ho, hb8⟩
      exact ⟨_, rfl, hb8, bsV_own ho, fun j _ _ u _ => ⟨trivial, trivial⟩⟩
  intro s w7 hR7 hF _
  have h31 : s 31 = .slice (some ⟨db, 252, none⟩) 4 4 := hF 0 (by decide)
  obtain ⟨A3, n3, c3, h36, hB7⟩ : BsV (numB 4 S) (s 36) w7 := hF 5 (by decide)
  simp only [setAll, List.foldl_cons, List.foldl_nil, List.setIfInBounds_toArray, List.set_cons_succ, List.set_cons_zero, h31, h36]
  have hn3 := hB7.len
  rw [numB_length] at hn3
  subst hn3
  clear hF h31 h36 hR6
  have hA7 := hR7.get (b := db) (L := Hh.map encB) (by simp)
  have htk4 : ((numB 4 S).map encB).take (Nat.min 4 4) = (numB 4 S).map encB := List.take_of_length_le (by simp [numB_length])
  refine wpAny_one 6 _ (by kernel_rfl) (by simp only [List.getElem?_toArray, List.getElem?_cons_succ, List.getElem?_cons_zero]; rfl) (by rfl) ?_
  refine wp_copy (ops := #[]) (Operand.tmp 31) (Operand.tmp 36) 22 22 ?_ 5 Try.underlying22 (by kernel_rfl) db 252 4 4 A3 4 c3 ((numB 4 S).map encB) ?_ ?_ (by simp [numB_length]) hB7.at hA7 ?_ (encB_all _) ?_
  · rfl
  · simp [Act.eval]
  · simp [Act.eval]
  · rw [List.length_map, HHL.out]; decide
  rw [htk4, show Nat.min 4 4 = 4 from rfl, show goInt ((4 : Nat) : Int) = .int .i64 4 from rfl]
  simp only [List.getElem_toArray, List.getElem_cons_succ, List.getElem_cons_zero, Act.put, List.setIfInBounds_toArray, List.set_cons_zero, List.set_cons_succ]
  have hR8 := hR7.splice (vs := (numB 4 S).map encB) 252 (by rw [List.length_map, List.length_map, HHL.out, numB_length]; decide)
  rw [D3.out] at hR8
  obtain ⟨W8, hW8⟩ : ∃ W8, W8 = w7.setCells db 252 ((numB 4 S).map encB) := ⟨_, rfl⟩
  rw [← hW8] at hR8 ⊢
  refine wpAny_end (by kernel_rfl) ?_
  clear hW8 hA7 hR7 hB7 htk4
  go_upto_region 8 with fail
  refine wp_region_front 2 [38, 39] 1 #[true, true, false] (Rows w [(db, D.map encB), (pb, Z)]) (fwE pb db) yesP (by kernel_rfl) (by kernel_rfl) (by kernel_rfl) (by kernel_rfl) (by kernel_rfl) (fun _ _ hb h => h.go hb) fwE_below hR8.drew ?_ ?_
  · intro i hi s w7 hs hB hd
    have s7 : s 7 = .pointer (some ⟨db, 0, none⟩) := hs 7 (by decide)
    have s4 : s 4 = .pointer (some ⟨pb, 0, none⟩) := hs 4 (by decide)
    obtain rfl | rfl : i = 0 ∨ i = 1 := by omega
    all_goals refine stepG_plain (by rfl) ?_
    · refine stepS_run (v := .slice (some ⟨pb, 0, none⟩) 258 258) ?_ ⟨Below.refl _ _, rfl, fun j _ _ u _ => ⟨trivial, trivial⟩⟩
      simp [execOp, evS, s4, go_sem]
    · refine stepS_run (v := .slice (some ⟨db, 0, none⟩) 256 256) ?_ ⟨Below.refl _ _, rfl, fun j _ _ u _ => ⟨trivial, trivial⟩⟩
      simp [execOp, evS, s7, go_sem]
  intro s w9 hR9 hF _
  have h38 : s 38 = .slice (some ⟨pb, 0, none⟩) 258 258 := hF 0 (by decide)
  have h39 : s 39 = .slice (some ⟨db, 0, none⟩) 256 256 := hF 1 (by decide)
  simp only [setAll, List.foldl_cons, List.foldl_nil, List.setIfInBounds_toArray, List.set_cons_succ, List.set_cons_zero, h38, h39]
  clear hF h38 h39 hR8
  have hA9 := hR9.get (b := pb) (L := Z) (by simp)
  have hD9 := hR9.get (b := db) (L := D.map encB) (by simp)
  have hB9 := hD9.bs 0 256 256 (by rw [HDL.out]; decide) (by decide) (by decide)
  rw [List.drop_zero, List.take_of_length_le (by rw [HDL.out]; decide)] at hB9
  have htk4 : (D.map encB).take (Nat.min 256 258) = D.map encB := List.take_of_length_le (by rw [List.length_map, HDL.out]; decide)
  refine wpAny_one 2 _ (by kernel_rfl) (by simp only [List.getElem?_toArray, List.getElem?_cons_succ, List.getElem?_cons_zero]; rfl) (by rfl) ?_
  refine wp_copy (ops := #[]) (Operand.tmp 38) (Operand.tmp 39) 22 22 ?_ 5 Try.underlying22 (by kernel_rfl) pb 0 258 258 (some ⟨db, 0, none⟩) 256 256 (D.map encB) ?_ ?_ (by rw [List.length_map, HDL.out]) hB9.at hA9 ?_ (encB_all _) ?_
  · rfl
  · simp [Act.eval]
  · simp [Act.eval]
  · rw [HZL.out]; decide
  rw [htk4, show Nat.min 256 258 = 256 from rfl, show goInt ((256 : Nat) : Int) = .int .i64 256 from rfl]
  simp only [List.getElem_toArray, List.getElem_cons_succ, List.getElem_cons_zero, Act.put, List.setIfInBounds_toArray, List.set_cons_zero, List.set_cons_succ]
  have hR10 := hR9.swap.splice (vs := D.map encB) 0 (by rw [List.length_map, HDL.out, HZL.out]; decide)
  rw [P1.out] at hR10
  obtain ⟨W10, hW10⟩ : ∃ W10, W10 = w9.setCells pb 0 (D.map encB) := ⟨_, rfl⟩
  rw [← hW10] at hR10 ⊢
  refine wpAny_end (by kernel_rfl) ?_
  clear hW10 hA9 hD9 hR9 hB9 htk4
  go_upto_region 9 with fail
  refine wp_region_front 5 [41, 42, 43, 44, 45] 1 #[true, true, true, true, true, false] (Rows w [(pb, Q), (db, D.map encB)]) (fwG db (D.map encB) C (numB 2 C) pb) yesP (by kernel_rfl) (by kernel_rfl) (by kernel_rfl) (by kernel_rfl) (by kernel_rfl) (fun _ _ hb h => h.go hb) fwG_below hR10.drew ?_ ?_
  · intro i hi s w7 hs hB hd
    have s7 : s 7 = .pointer (some ⟨db, 0, none⟩) := hs 7 (by decide)
    have s4 : s 4 = .pointer (some ⟨pb, 0, none⟩) := hs 4 (by decide)
    obtain rfl | rfl | rfl | rfl | rfl : i = 0 ∨ i = 1 ∨ i = 2 ∨ i = 3 ∨ i = 4 := by omega
    all_goals refine stepG_plain (by rfl) ?_
    · refine stepS_run (v := .slice (some ⟨pb, 256, none⟩) 2 2) ?_ ⟨Below.refl _ _, rfl, fun j _ _ u _ => ⟨trivial, trivial⟩⟩
      simp [execOp, evS, s4, go_sem]
    · exact stepS_load rfl s7 (hB.get (by simp)) Try.underlying76 rfl HID.out ⟨Below.refl _ _, rfl, fun j _ _ u _ => ⟨trivial, trivial⟩⟩
    · have h1 : s 42 = .agg (D.map encB).toArray := hd 1 (by decide +kernel)
      refine stepS_call rfl Try.func38 (by kernel_rfl) (by kernel_rfl) #[.agg (D.map encB).toArray] (by simp [evS, h1]) ((HCK.out w7).mono ?_)
      rintro e w8 ⟨rfl, hb8⟩
      exact ⟨_, rfl, hb8, rfl, fun j _ _ u _ => ⟨trivial, trivial⟩⟩
    · have h3 : s 43 = .int .u16 (C : Int) := hd 2 (by decide +kernel)
      refine stepS_run (v := .int .u64 (C : Int)) ?_ ⟨Below.refl _ _, rfl, fun j _ _ u _ => ⟨trivial, trivial⟩⟩
      simp [execOp, evS, h3, go_sem, EC.out]
    · have h3 : s 44 = .int .u64 (C : Int) := hd 3 (by decide +kernel)
      refine stepS_call rfl Try.func36 (by kernel_rfl) (by kernel_rfl) #[.int .i64 2, .int .u64 (C : Int)] (by simp [evS, h3]) ((num_any 2 C w7 (by have := HC9.out; omega)).mono ?_)
      rintro e w8 ⟨v, rfl, ho, hb8⟩
      exact ⟨_, rfl, hb8, bsV_own ho, fun j _ _ u _ => ⟨trivial, trivial⟩⟩
  intro s w11 hR11 hF _
  have h41 : s 41 = .slice (some ⟨pb, 256, none⟩) 2 2 := hF 0 (by decide)
  obtain ⟨A5, n5, c5, h45, hB11⟩ : BsV (numB 2 C) (s 45) w11 := hF 4 (by decide)
  simp only [setAll, List.foldl_cons, List.foldl_nil, List.setIfInBounds_toArray, List.set_cons_succ, List.set_cons_zero, h41, h45]
  have hn5 := hB11.len
  rw [numB_length] at hn5
  subst hn5
  clear hF h41 h45 hR10
  have hA11 := hR11.get (b := pb) (L := Q) (by simp)
  have htk4 : ((numB 2 C).map encB).take (Nat.min 2 2) = (numB 2 C).map encB := List.take_of_length_le (by simp [numB_length])
  refine wpAny_one 5 _ (by kernel_rfl) (by simp only [List.getElem?_toArray, List.getElem?_cons_succ, List.getElem?_cons_zero]; rfl) (by rfl) ?_
  refine wp_copy (ops := #[]) (Operand.tmp 41) (Operand.tmp 45) 22 22 ?_ 5 Try.underlying22 (by kernel_rfl) pb 256 2 2 A5 2 c5 ((numB 2 C).map encB) ?_ ?_ (by simp [numB_length]) hB11.at hA11 ?_ (encB_all _) ?_
  · rfl
  · simp [Act.eval]
  · simp [Act.eval]
  · rw [HQL.out]; decide
  rw [htk4, show Nat.min 2 2 = 2 from rfl, show goInt ((2 : Nat) : Int) = .int .i64 2 from rfl]
  simp only [List.getElem_toArray, List.getElem_cons_succ, List.getElem_cons_zero, Act.put, List.setIfInBounds_toArray, List.set_cons_zero, List.set_cons_succ]
  have hR12 := hR11.splice (vs := (numB 2 C).map encB) 256 (by rw [List.length_map, HQL.out, numB_length]; decide)
  rw [P2.out] at hR12
  obtain ⟨W12, hW12⟩ : ∃ W12, W12 = w11.setCells pb 256 ((numB 2 C).map encB) := ⟨_, rfl⟩
  rw [← hW12] at hR12 ⊢
  refine wpAny_end (by kernel_rfl) ?_
  clear hW12 hA11 hR11 hB11 htk4
  have hA12 := hR12.get (b := pb) (L := P) (by simp)
  go_wp2_with (first
    | (refine wpList_load_mid rfl 26 _ rfl pb 0 rfl P _ hA12.1 Try.underlying26 rfl HIP.out ?_)
    | (refine wp_load_mid 26 _ rfl pb 0 rfl P _ hA12.1 Try.underlying26 rfl HIP.out ?_)
    | (refine wpList_store_mid rfl 26 _ _ rfl pb 0 P.toArray rfl rfl (hA12.thereA HPP.out) HIPA.out H1P.out ?_))
  have hR13 := hR12.storeA HPP.out
  exact bodyPost_row2 rfl rfl rfl rfl (hR13.get (b := pb) (L := P.toArray.toList) (by simp)) Try.underlying26 rfl (by simpa using HIP.out) ⟨by simp, hR13.below⟩
/-- What Write leaves, and the error's number. -/
def fwR (k : UInt8) (body : List UInt8) : List UInt8 × Nat := if k = 0 ∨ k = 255 ∨ 240 < body.length then (z258, 1) else (frP k body, 0)
theorem fw_any (k : UInt8) (A : Option Addr) (n c : Nat) (xss : List (List UInt8)) (w : World) (hX : Bss w (.slice A n c) xss) (hn : n ≤ 1000000) (hlens : Lib.lens xss ≤ 100000000) :
    Calls Try.prog 14 #[.int .u8 (k.toNat : Int), .slice A n c] w fun e w' => e = .returned (.tuple #[.agg ((fwR k xss.flatten).1.map encB).toArray, .int .i64 ((fwR k xss.flatten).2 : Int)]) ∧ Below w.heap.size w w' := by
  unfold fwR
  by_cases h : k = 0 ∨ k = 255 ∨ 240 < xss.flatten.length
  · rw [if_pos h]; exact fw_bad k A n c xss w hX hn hlens h
  · rw [if_neg h]
    exact fw_ok k A n c xss w hX hn hlens (fun e => h (.inl e)) (fun e => h (.inr (.inl e))) (by omega)
end Go.Proofs.YtljdfhckllncoaaK
