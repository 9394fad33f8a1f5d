import Derived.Test.YtljdfhckllncoaaKFrmA
import Derived.Test.YtljdfhckllncoaaKFrmB
import Derived.Test.YtljdfhckllncoaaKHamK
import Derived.Test.YtljdfhckllncoaaKHamH
namespace Go.Proofs.YtljdfhckllncoaaK
open Go.RowKit
set_option linter.unusedSimpArgs false
set_option linter.unusedVariables false
/-! The reference's Write. -/
theorem own_aside {w w1 : World} {B n size : Nat} {e : TypeId} {v : Value} {xs : List Value} {row : Option Nat} (h : w.ownsRow B e size v n xs) (hg : w.grownBy w1 row) (hr : ∀ k, row = some k → k < B) : w1.ownsRow B e size v n xs :=
  h.kept hg (by
    cases hv : v.ownBlock with
    | none => exact .inl rfl
    | some k => exact .inr (fun he => by have h1 := (h.lt k hv).1; have h2 := hr k he.symm; omega))
theorem spl_set {α : Type} (L : List α) (o i : Nat) (vs : List α) (h : o + vs.length ≤ L.length) (hi : i < vs.length) : (spl L o (vs.take i)).set (o + i) vs[i] = spl L o (vs.take (i + 1)) := by
  have l1 : (vs.take i).length = i := by rw [List.length_take]; omega
  have l2 : (vs.take (i + 1)).length = i + 1 := by rw [List.length_take]; omega
  apply List.ext_getElem?
  intro j
  rw [spl_get (by omega), l2]
  by_cases e : o + i = j
  · subst e
    rw [List.getElem?_set_self (by rw [spl_length (by omega)]; omega), if_pos ⟨by omega, by omega⟩, show o + i - o = i from by omega, List.getElem?_take_of_lt (by omega), List.getElem?_eq_getElem hi]
  · rw [List.getElem?_set_ne e, spl_get (by omega), l1]
    by_cases h1 : o ≤ j ∧ j < o + i
    · rw [if_pos h1, if_pos ⟨h1.1, by omega⟩, List.getElem?_take_of_lt (by omega), List.getElem?_take_of_lt (by omega)]
    · rw [if_neg h1, if_neg (by omega)]
theorem spl_all {α : Type} (L : List α) (o i : Nat) (vs : List α) (h : i = vs.length) : spl L o (vs.take i) = spl L o vs := by
  rw [h, List.take_of_length_le (Nat.le_refl _)]
theorem wrap_u8_small (n : Nat) (h : n < 256) : IntKind.u8.wrap (n : Int) = (n : Int) := by rw [IntKind.wrap_u8]; omega
theorem encB_of (n : Nat) (h : n < 256) : encB (UInt8.ofNat n) = .int .u8 (n : Int) := by
  unfold encB
  rw [UInt8.toNat_ofNat_of_lt' h]
theorem numB_two (n : Nat) : numB 2 n = [UInt8.ofNat (n % 256), UInt8.ofNat (n / 256 % 256)] := by
  rw [numB_snoc, numB_snoc]
  simp [numB]
set_option maxRecDepth 100000 in
set_option maxHeartbeats 8000000 in
theorem rw_bad (k : UInt8) (A : Option Addr) (n c : Nat) (body : List UInt8) (w : World) (hX : Bs w (.slice A n c) body) (h : k = 0 ∨ k = 255 ∨ 240 < body.length) :
    Calls Try.prog 15 #[.int .u8 (k.toNat : Int), .slice A n c] w fun e w' => e = .returned (.tuple #[.agg (z258.map encB).toArray, .int .i64 1]) ∧ Below w.heap.size w w' := by
  have hn := hX.len
  have hz := page_zero
  obtain ⟨Z, hZ⟩ : ∃ Z, Z = z258.map encB := ⟨_, rfl⟩
  have hZl : Z.length = 258 := by rw [hZ, List.length_map, z258_len]
  have h1Z : ∀ v ∈ Z, v.oneCell' = true := by rw [hZ]; exact encB_all _
  rw [← hZ] at hz ⊢
  have HI := Lib.hid (show (Try.prog.info? 26).map (·.size) = some Z.length by rw [hZl]; exact page_info)
  have HIA := Lib.hid (show (Try.prog.info? 26).map (·.size) = some Z.toArray.size by rw [List.size_toArray, hZl]; exact page_info)
  have H1A : Hid (Z.toArray.all (·.oneCell') = true) := Lib.hid (all_oneCell_toArray h1Z)
  have HZZ : Hid (Z.toArray.size = Z.length) := Lib.hid (by simp)
  clear hZ hZl h1Z
  obtain ⟨W, hW⟩ : ∃ W, W = w.alloc (.cells Z.toArray 26) := ⟨_, rfl⟩
  obtain ⟨pb, hpb⟩ : ∃ pb, pb = w.heap.size := ⟨_, rfl⟩
  have hR0 : Rows w [(pb, Z)] W := by rw [hW, hpb]; exact (Rows.nil w).newL Z _
  have hA0 := hR0.get (b := pb) (L := Z) (by simp)
  obtain ⟨K, hK⟩ : ∃ K, K = (k.toNat : Int) := ⟨_, rfl⟩
  have hcase : K = 0 ∨ K ≠ 0 ∧ K = 255 ∨ K ≠ 0 ∧ K ≠ 255 ∧ (240 : Int) < n := by
    have a1 : k = 0 → K = 0 := fun e => by rw [hK, e]; rfl
    have a2 : k = 255 → K = 255 := fun e => by rw [hK, e]; rfl
    rcases h with h | h | h
    · exact .inl (a1 h)
    · exact .inr (.inl ⟨by rw [a2 h]; decide, a2 h⟩)
    · by_cases e1 : K = 0
      · exact .inl e1
      · by_cases e2 : K = 255
        · exact .inr (.inl ⟨e1, e2⟩)
        · exact .inr (.inr ⟨e1, e2, by omega⟩)
  rw [← hK]
  clear h hK hX hn
  go_enter Try.func15, Try.ntmps15
  go_upto_region 1 with fail
  rw [← hW]
  simp only [← hpb]
  clear hW hpb
  rcases hcase with e1 | ⟨e0, e1⟩ | ⟨e0, e1, e2⟩
  · subst e1
    go_wp2_with (refine wpList_store_mid rfl 26 _ _ rfl pb 0 Z.toArray rfl rfl (hA0.thereA HZZ.out) HIA.out H1A.out ?_)
    exact bodyPost_row2 rfl rfl rfl rfl ((hR0.storeA HZZ.out).get (b := pb) (L := Z.toArray.toList) (by simp)) Try.underlying26 rfl (by simpa using HI.out) ⟨by simp, (hR0.storeA HZZ.out).below⟩
  · subst e1
    go_wp2_with (refine wpList_store_mid rfl 26 _ _ rfl pb 0 Z.toArray rfl rfl (hA0.thereA HZZ.out) HIA.out H1A.out ?_)
    exact bodyPost_row2 rfl rfl rfl rfl ((hR0.storeA HZZ.out).get (b := pb) (L := Z.toArray.toList) (by simp)) Try.underlying26 rfl (by simpa using HI.out) ⟨by simp, (hR0.storeA HZZ.out).below⟩
  · go_wp2_with (refine wpList_store_mid rfl 26 _ _ rfl pb 0 Z.toArray rfl rfl (hA0.thereA HZZ.out) HIA.out H1A.out ?_)
    exact bodyPost_row2 rfl rfl rfl rfl ((hR0.storeA HZZ.out).get (b := pb) (L := Z.toArray.toList) (by simp)) Try.underlying26 rfl (by simpa using HI.out) ⟨by simp, (hR0.storeA HZZ.out).below⟩
set_option maxRecDepth 100000 in
set_option maxHeartbeats 8000000 in
theorem rw_ok (k : UInt8) (A : Option Addr) (n c : Nat) (body : List UInt8) (w : World) (hX : Bs w (.slice A n c) body) (hk0 : k ≠ 0) (hk255 : k ≠ 255) (hbl : body.length ≤ 240) :
    Calls Try.prog 15 #[.int .u8 (k.toNat : Int), .slice A n c] w fun e w' => e = .returned (.tuple #[.agg ((frP k body).map encB).toArray, .int .i64 0]) ∧ Below w.heap.size w w' := by
  have hn := hX.len
  have hzD := data_zero
  obtain ⟨Y, hY⟩ : ∃ Z, Z = z256.map encB := ⟨_, rfl⟩
  have hYl : Y.length = 256 := by rw [hY, List.length_map, z256_len]
  have h1Y : ∀ v ∈ Y, v.oneCell' = true := by rw [hY]; exact encB_all _
  rw [← hY] at hzD
  have hz := page_zero
  obtain ⟨Z, hZ⟩ : ∃ Z, Z = z258.map encB := ⟨_, rfl⟩
  have hZl : Z.length = 258 := by rw [hZ, List.length_map, z258_len]
  have h1Z : ∀ v ∈ Z, v.oneCell' = true := by rw [hZ]; exact encB_all _
  rw [← hZ] at hz
  have HI := Lib.hid (show (Try.prog.info? 26).map (·.size) = some Z.length by rw [hZl]; exact page_info)
  have HIA := Lib.hid (show (Try.prog.info? 26).map (·.size) = some Z.toArray.size by rw [List.size_toArray, hZl]; exact page_info)
  have H1A : Hid (Z.toArray.all (·.oneCell') = true) := Lib.hid (all_oneCell_toArray h1Z)
  have HZZ : Hid (Z.toArray.size = Z.length) := Lib.hid (by simp)
  have HIY := Lib.hid (show (Try.prog.info? 76).map (·.size) = some Y.toArray.size by rw [List.size_toArray, hYl]; exact data_info)
  have H1Y : Hid (Y.toArray.all (·.oneCell') = true) := Lib.hid (all_oneCell_toArray h1Y)
  have HYY : Hid (Y.toArray.size = Y.length) := Lib.hid (by simp)
  have HZL := Lib.hid hZl
  have HYL := Lib.hid hYl
  have HZE := Lib.hid hZ
  have HYE := Lib.hid hY
  clear hZ hZl h1Z hY hYl h1Y
  obtain ⟨W, hW⟩ : ∃ W, W = w.alloc (.cells Z.toArray 26) := ⟨_, rfl⟩
  obtain ⟨pb, hpb⟩ : ∃ pb, pb = w.heap.size := ⟨_, rfl⟩
  have hR0 : Rows w [(pb, Z)] W := by rw [hW, hpb]; exact (Rows.nil w).newL Z _
  obtain ⟨K, hK⟩ : ∃ K, K = k.toNat := ⟨_, rfl⟩
  have hK0' : ¬ (K : Int) = 0 := fun e => hk0 (by apply UInt8.toNat.inj; rw [← hK, show K = 0 from by omega]; rfl)
  have hK5' : ¬ (K : Int) = 255 := fun e => hk255 (by apply UInt8.toNat.inj; rw [← hK, show K = 255 from by omega]; rfl)
  have hn4 : (n : Int) ≤ 240 := by omega
  have hK0 : ((K : Int) == 0) = false := by simpa using hK0'
  have hK5 : ((K : Int) == 255) = false := by simpa using hK5'
  have hn5 : decide ((240 : Int) < (n : Int)) = false := decide_eq_false (by omega)
  clear hK0' hK5'
  have hnw := wrap_u8_small n (by omega)
  rw [← hK]
  have HX := Lib.hid hX
  have HK := Lib.hid hK
  have HGE : Hid (w.heap.size ≤ pb) := Lib.hid (by rw [hpb]; exact Nat.le_refl _)
  have HN := Lib.hid hn
  clear hK hX hn
  go_enter Try.func15, Try.ntmps15
  go_upto_region 1 with fail
  rw [← hW]
  simp only [← hpb]
  clear hW hpb
  go_upto_region 4 with (refine wpList_store_mid rfl 76 _ _ rfl W.heap.size 0 Y.toArray rfl rfl (((hR0.newL Y 76).get (b := W.heap.size) (L := Y) (by simp)).thereA HYY.out) HIY.out H1Y.out ?_)
  have hR1 := (hR0.newL Y 76).storeA HYY.out
  rw [List.toList_toArray] at hR1
  obtain ⟨W1, hW1⟩ : ∃ W1, W1 = (W.alloc (.cells Y.toArray 76)).setCells W.heap.size 0 Y := ⟨_, rfl⟩
  obtain ⟨db, hdb⟩ : ∃ db, db = W.heap.size := ⟨_, rfl⟩
  rw [← hW1] at hR1 ⊢
  simp only [← hdb] at hR1 ⊢
  obtain ⟨Q0, hQ0⟩ : ∃ Q, Q = z256 := ⟨_, rfl⟩
  rw [HYE.out, ← hQ0] at hR1
  have HL0 := Lib.hid (show Q0.length = 256 by rw [hQ0]; exact z256_len)
  have HE0 := Lib.hid hQ0
  clear hW1 hdb hQ0 hR0
  have hApa := hR1.get (b := db) (L := Q0.map encB) (by simp)
  have hcella := hApa.at_ 0 _ (encB_cell Q0 0 (by rw [HL0.out]; decide))
  have hfza := hApa.2.1 0 (by rw [List.length_map, HL0.out]; decide)
  rw [Nat.zero_add] at hfza
  go_upto_region 5 with fail
  obtain ⟨W2, hwa⟩ : ∃ w8, w8 = W1.setCell ⟨db, 0, none⟩ (.int .u8 (K : Int)) := ⟨_, rfl⟩
  have hR2 := hR1.cell 0 (.int .u8 (K : Int))
  rw [← hwa] at hR2 ⊢
  obtain ⟨Q1, hQa⟩ : ∃ Q, Q = Q0.set 0 (k) := ⟨_, rfl⟩
  rw [show (Q0.map encB).set 0 (.int .u8 (K : Int)) = Q1.map encB from by rw [hQa, List.map_set, show encB k = .int .u8 (K : Int) from by unfold encB; rw [HK.out]]] at hR2
  have HLa := Lib.hid (show Q1.length = 256 by rw [hQa, List.length_set]; exact HL0.out)
  have HEa := Lib.hid hQa
  clear hQa hwa hApa hcella hfza hR1
  have hApb := hR2.get (b := db) (L := Q1.map encB) (by simp)
  have hcellb := hApb.at_ 1 _ (encB_cell Q1 1 (by rw [HLa.out]; decide))
  have hfzb := hApb.2.1 1 (by rw [List.length_map, HLa.out]; decide)
  rw [Nat.zero_add] at hfzb
  go_upto_region 6 with fail
  obtain ⟨W3, hwb⟩ : ∃ w8, w8 = W2.setCell ⟨db, 1, none⟩ (.int .u8 (n : Int)) := ⟨_, rfl⟩
  have hR3 := hR2.cell 1 (.int .u8 (n : Int))
  rw [← hwb] at hR3 ⊢
  obtain ⟨Q2, hQb⟩ : ∃ Q, Q = Q1.set 1 (UInt8.ofNat n) := ⟨_, rfl⟩
  rw [show (Q1.map encB).set 1 (.int .u8 (n : Int)) = Q2.map encB from by rw [hQb, List.map_set, encB_of n (by omega)]] at hR3
  have HLb := Lib.hid (show Q2.length = 256 by rw [hQb, List.length_set]; exact HLa.out)
  have HEb := Lib.hid hQb
  clear hQb hwb hApb hcellb hfzb hR2
  go_wp2_with fail
  go_loopw [7] (fun v7 wr => ∃ i : Nat, i ≤ n ∧ v7 = .int .i64 (i : Int) ∧ Rows w [(db, (spl Q2 2 (body.take i)).map encB), (pb, Z)] wr) (fun v7 _ => n - (intOf v7).toNat)
  case atStart => exact ⟨0, by omega, rfl, by rw [List.take_zero, spl_nil]; exact hR3⟩
  case round =>
    obtain ⟨i, hi, rfl, hRq⟩ := hrel
    clear hR3
    by_cases hlt : i < n
    · obtain ⟨a1, rfl, hb⟩ := (HX.out.below hRq.below).at.map i (by rw [← HN.out]; exact hlt)
      unfold encB at hb
      obtain ⟨x, hx⟩ : ∃ x : UInt8, x = body[i]'(by rw [← HN.out]; exact hlt) := ⟨_, rfl⟩
      rw [← hx] at hb
      have HXX := Lib.hid hx
      obtain ⟨P, hP⟩ : ∃ P, P = spl Q2 2 (body.take i) := ⟨_, rfl⟩
      have HPL := Lib.hid (show P.length = 256 by rw [hP, spl_length (by rw [List.length_take, HLb.out]; omega)]; exact HLb.out)
      have HPE := Lib.hid hP
      rw [← hP] at hRq
      have hAp := hRq.get (b := db) (L := P.map encB) (by simp)
      obtain ⟨m, hm⟩ : ∃ m, m = 2 + i := ⟨_, rfl⟩
      have hcell := hAp.at_ m _ (encB_cell P m (by rw [HPL.out]; omega))
      have hfz := hAp.2.1 m (by rw [List.length_map, HPL.out]; omega)
      rw [Nat.zero_add] at hfz
      have h2i : (2 : Int) + (i : Int) = (m : Int) := by omega
      have h2j : (m : Int) < 256 := by omega
      have h2k : (0 : Int) ≤ m := by omega
      have HM := Lib.hid hm
      have hii : (i : Int) < (n : Int) := by omega
      clear hx hP hm
      go_wp2_with fail
      go_roundw
      case rel =>
        refine ⟨i + 1, by omega, by go_num, ?_⟩
        have h9 := hRq.cell m (encB x)
        have hs : P.set m x = spl Q2 2 (body.take (i + 1)) := by rw [HPE.out, HM.out, HXX.out]; exact spl_set Q2 2 i body (by rw [HLb.out]; omega) (by rw [← HN.out]; exact hlt)
        rw [← List.map_set, hs] at h9
        exact h9
      case measure => simp [intOf]; omega
    · have hin : i = n := by omega
      subst hin
      rw [spl_all Q2 2 i body HN.out] at hRq
      obtain ⟨H, hH⟩ : ∃ H, H = spl Q2 2 body := ⟨_, rfl⟩
      have HHL := Lib.hid (show H.length = 256 by rw [hH, spl_length (by rw [HLb.out]; omega)]; exact HLb.out)
      have HHE := Lib.hid (show H = frH k body by rw [hH, HEb.out, HEa.out, HE0.out, HN.out]; rfl)
      rw [← hH] at hRq
      have hSl := frS_lt k body
      have hSS : (crcF 0#32 (H.take 252)).toNat = frS k body := by rw [HHE.out]; rfl
      obtain ⟨S, hS⟩ : ∃ S, S = frS k body := ⟨_, rfl⟩
      rw [← hS] at hSl hSS
      have hS64 : IntKind.u64.wrap (S : Int) = (S : Int) := by rw [IntKind.wrap_u64]; omega
      have hSS' : ((crcF 0#32 (H.take 252)).toNat : Int) = (S : Int) := by rw [hSS]
      have HOn := Lib.hid (fun W h => ref_r 0 (S : Int) 0#32 (by rfl) (some ⟨db, 0, none⟩) 252 256 (H.take 252) W (by rw [List.length_take, HHL.out]; rfl) h hSS')
      have HNum := Lib.hid (fun W => refnum_any 4 S W (by omega))
      rw [show wid 4 = 4 from rfl] at HNum
      have HSE := Lib.hid hS
      have hAp := hRq.get (b := db) (L := H.map encB) (by simp)
      have HBS : Hid (Bs wr (.slice (some ⟨db, 0, none⟩) 252 256) (H.take 252)) := Lib.hid (hAp.bs 0 252 256 (by rw [HHL.out]; decide) (by decide) (by decide))
      have hdb : db < wr.heap.size := World.block_lt_of_cell? _ _ (hAp.at_ 0 _ (encB_cell H 0 (by rw [HHL.out]; decide)))
      clear hH hS hSS hSS' hAp
      go_upto_region 11 with (first
        | (go_at_call 39; refine (HOn.out _ HBS.out).mono ?_; rintro e w5 ⟨rfl, rfl⟩)
        | (go_at_call 33; refine (HNum.out _).mono ?_; rintro e w5 ⟨v, rfl, ho5, hb5⟩; obtain ⟨g, c5, rfl, _, _, _, _⟩ := own_pos ho5 (by decide)))
      have hR5 := hRq.go hb5
      obtain ⟨B, hB⟩ : ∃ B, B = wr.heap.size := ⟨_, rfl⟩
      rw [← hB] at ho5 hdb
      obtain ⟨N4, hN4⟩ : ∃ N, N = numB 4 S := ⟨_, rfl⟩
      rw [← hN4] at ho5
      have HN4 := Lib.hid hN4
      have HN4L := Lib.hid (show N4.length = 4 by rw [hN4, numB_length])
      clear hN4 hB hb5 hRq HBS
      go_wp2_with fail
      go_loopw [9] (fun v9 wr => ∃ i : Nat, i ≤ 4 ∧ v9 = .int .i64 (i : Int) ∧ Rows w [(db, (spl H 252 (N4.take i)).map encB), (pb, Z)] wr ∧ wr.ownsRow B 5 1 (.slice (some ⟨g, 0, none⟩) 4 c5) 4 (N4.map encB)) (fun v9 _ => 4 - (intOf v9).toNat)
      case atStart => exact ⟨0, by omega, rfl, by rw [List.take_zero, spl_nil]; exact hR5, ho5⟩
      case round =>
        obtain ⟨j, hj, rfl, hRq, hoq⟩ := hrel
        clear hR5 ho5
        by_cases hlt4 : j < 4
        · obtain ⟨x, hx⟩ : ∃ x : UInt8, x = N4[j]'(by rw [HN4L.out]; exact hlt4) := ⟨_, rfl⟩
          have hb := (own_cell hoq j (encB x) (by rw [List.getElem?_map, List.getElem?_eq_getElem (by rw [HN4L.out]; exact hlt4), hx]; rfl)).1
          unfold encB at hb
          have HXX := Lib.hid hx
          obtain ⟨P, hP⟩ : ∃ P, P = spl H 252 (N4.take j) := ⟨_, rfl⟩
          have HPL := Lib.hid (show P.length = 256 by rw [hP, spl_length (by rw [List.length_take, HHL.out]; omega)]; exact HHL.out)
          have HPE := Lib.hid hP
          rw [← hP] at hRq
          have hAp := hRq.get (b := db) (L := P.map encB) (by simp)
          obtain ⟨m, hm⟩ : ∃ m, m = 252 + j := ⟨_, rfl⟩
          have hcell := hAp.at_ m _ (encB_cell P m (by rw [HPL.out]; omega))
          have hfz := hAp.2.1 m (by rw [List.length_map, HPL.out]; omega)
          rw [Nat.zero_add] at hfz
          have h2i : (252 : Int) + (j : Int) = (m : Int) := by omega
          have h2j : (m : Int) < 256 := by omega
          have h2k : (0 : Int) ≤ m := by omega
          have hjj : (j : Int) < 4 := by omega
          have HM := Lib.hid hm
          clear hx hP hm
          go_wp2_with fail
          go_roundw
          case rel =>
            refine ⟨j + 1, by omega, by go_num, ?_, own_aside hoq (grown_set _ db m _) (fun k9 hk9 => by cases hk9; exact hdb)⟩
            have h9 := hRq.cell m (encB x)
            have hs : P.set m x = spl H 252 (N4.take (j + 1)) := by rw [HPE.out, HM.out, HXX.out]; exact spl_set H 252 j N4 (by rw [HHL.out, HN4L.out]; decide) (by rw [HN4L.out]; exact hlt4)
            rw [← List.map_set, hs] at h9
            exact h9
          case measure => simp [intOf]; omega
        · have hin : j = 4 := by omega
          subst hin
          rw [show ((4 : Nat) : Int) = 4 from rfl]
          rw [spl_all H 252 4 N4 HN4L.out.symm] at hRq
          obtain ⟨D, hD⟩ : ∃ H, H = frD k body := ⟨_, rfl⟩
          rw [show spl H 252 N4 = D from by rw [hD, HHE.out, HN4.out, HSE.out]; rfl] at hRq
          have hDl : D.length = 256 := by rw [hD]; exact frD_len k body hbl
          have HCk := Lib.hid (fun W => rcheck_any D hDl W)
          have hCl := chk_lt D
          obtain ⟨C, hC⟩ : ∃ C, C = chk D := ⟨_, rfl⟩
          rw [← hC] at HCk hCl
          obtain ⟨DL, hDL⟩ : ∃ L, L = D.map encB := ⟨_, rfl⟩
          have hDLl : DL.length = 256 := by rw [hDL, List.length_map]; exact hDl
          have HID := Lib.hid (show (Try.prog.info? 76).map (·.size) = some DL.length by rw [hDLl]; exact data_info)
          rw [← hDL] at HCk hRq
          have hAd := hRq.get (b := db) (L := DL) (by simp)
          have HDD := Lib.hid hD
          have HDL := Lib.hid hDl
          have HDE := Lib.hid hDL
          have HC := Lib.hid hC
          clear hD hC hDL hDLl hDl hoq hlt4 hj
          go_upto_region 16 with (first
            | (refine wpList_load_mid rfl 76 _ rfl db 0 rfl DL _ hAd.1 Try.underlying76 rfl HID.out ?_)
            | (go_at_call 40; refine (HCk.out _).mono ?_; rintro e w7 ⟨rfl, hb7⟩; have hR7 := hRq.go hb7)
            | (refine wpList_store_mid rfl 26 _ _ rfl w7.heap.size 0 Z.toArray rfl rfl (((hR7.newL Z 26).get (b := w7.heap.size) (L := Z) (by simp)).thereA HZZ.out) HIA.out H1A.out ?_))
          have hR8 := (hR7.newL Z 26).storeA HZZ.out
          rw [List.toList_toArray] at hR8
          obtain ⟨W8, hW8⟩ : ∃ W1, W1 = (w7.alloc (.cells Z.toArray 26)).setCells w7.heap.size 0 Z := ⟨_, rfl⟩
          obtain ⟨qb, hqb⟩ : ∃ db, db = w7.heap.size := ⟨_, rfl⟩
          rw [← hW8] at hR8 ⊢
          simp only [← hqb] at hR8 ⊢
          obtain ⟨Zb, hZb⟩ : ∃ Q, Q = z258 := ⟨_, rfl⟩
          have hR9 : Rows w [(qb, Zb.map encB), (db, D.map encB), (pb, Z)] W8 := by rw [hZb, ← HZE.out, ← HDE.out]; exact hR8
          have HZbL := Lib.hid (show Zb.length = 258 by rw [hZb]; exact z258_len)
          have HZbE := Lib.hid hZb
          clear hW8 hqb hZb hR8 hR7 hb7 hRq hAd
          go_wp2_with fail
          go_loopw [12] (fun v12 wr => ∃ i : Nat, i ≤ 256 ∧ v12 = .int .i64 (i : Int) ∧ Rows w [(qb, (spl Zb 0 (D.take i)).map encB), (db, D.map encB), (pb, Z)] wr) (fun v12 _ => 256 - (intOf v12).toNat)
          case atStart => exact ⟨0, by omega, rfl, by rw [List.take_zero, spl_nil]; exact hR9⟩
          case round =>
            obtain ⟨m, hm, rfl, hRq⟩ := hrel
            clear hR9
            by_cases hlt2 : m < 256
            · obtain ⟨x, hx⟩ : ∃ x : UInt8, x = D.getD m 0 := ⟨_, rfl⟩
              have hb := (hRq.get (b := db) (L := D.map encB) (by simp)).at_ m _ (encB_cell D m (by rw [HDL.out]; exact hlt2))
              rw [← hx] at hb
              have HXX := Lib.hid (show x = D[m]'(by rw [HDL.out]; exact hlt2) by rw [hx, List.getD_eq_getElem?_getD, List.getElem?_eq_getElem (by rw [HDL.out]; exact hlt2)]; rfl)
              obtain ⟨P, hP⟩ : ∃ P, P = spl Zb 0 (D.take m) := ⟨_, rfl⟩
              have HPL := Lib.hid (show P.length = 258 by rw [hP, spl_length (by rw [List.length_take, HZbL.out]; omega)]; exact HZbL.out)
              have HPE := Lib.hid hP
              rw [← hP] at hRq
              have hAp := hRq.get (b := qb) (L := P.map encB) (by simp)
              have hcell := hAp.at_ m _ (encB_cell P m (by rw [HPL.out]; omega))
              have hfz := hAp.2.1 m (by rw [List.length_map, HPL.out]; omega)
              rw [Nat.zero_add] at hfz
              have h2j : (m : Int) < 256 := by omega
              have h2k : (m : Int) < 258 := by omega
              clear hx hP
              go_wp2_with fail
              go_roundw
              case rel =>
                refine ⟨m + 1, by omega, by go_num, ?_⟩
                have h9 := hRq.cell m (encB x)
                have hs : P.set m x = spl Zb 0 (D.take (m + 1)) := by
                  have := spl_set Zb 0 m D (by rw [HZbL.out, HDL.out]; decide) (by rw [HDL.out]; exact hlt2)
                  rw [Nat.zero_add] at this
                  rw [HPE.out, HXX.out]; exact this
                rw [← List.map_set, hs] at h9
                exact h9
              case measure => simp [intOf]; omega
            · have hin : m = 256 := by omega
              subst hin
              rw [show ((256 : Nat) : Int) = 256 from rfl]
              rw [spl_all Zb 0 256 D HDL.out.symm] at hRq
              obtain ⟨P0, hP0⟩ : ∃ P, P = spl Zb 0 D := ⟨_, rfl⟩
              have HLP := Lib.hid (show P0.length = 258 by rw [hP0, spl_length (by rw [HDL.out, HZbL.out]; decide)]; exact HZbL.out)
              have HEP := Lib.hid hP0
              rw [← hP0] at hRq
              obtain ⟨r, hr⟩ : ∃ r, r = C % 256 := ⟨_, rfl⟩
              obtain ⟨q, hq⟩ : ∃ r, r = C / 256 := ⟨_, rfl⟩
              have hr8 : r < 256 := by omega
              have hq8 : q < 256 := by omega
              have c1 : (C : Int) % 256 = (r : Int) := by omega
              have c2 : (C : Int) / 256 = (q : Int) := by omega
              have c3 := wrap_u8_small r hr8
              have c4 := wrap_u8_small q hq8
              have HRR := Lib.hid hr
              have HQQ := Lib.hid hq
              clear hP0 hr hq hlt2 hm
              have hApd := hRq.get (b := qb) (L := P0.map encB) (by simp)
              have hcelld := hApd.at_ 256 _ (encB_cell P0 256 (by rw [HLP.out]; decide))
              have hfzd := hApd.2.1 256 (by rw [List.length_map, HLP.out]; decide)
              rw [Nat.zero_add] at hfzd
              go_upto_region 21 with fail
              obtain ⟨w10, hwd⟩ : ∃ w8, w8 = wr.setCell ⟨qb, 256, none⟩ (.int .u8 (r : Int)) := ⟨_, rfl⟩
              have hR10 := hRq.cell 256 (.int .u8 (r : Int))
              rw [← hwd] at hR10 ⊢
              obtain ⟨P1, hQd⟩ : ∃ Q, Q = P0.set 256 (UInt8.ofNat r) := ⟨_, rfl⟩
              rw [show (P0.map encB).set 256 (.int .u8 (r : Int)) = P1.map encB from by rw [hQd, List.map_set, encB_of r hr8]] at hR10
              have HLd := Lib.hid (show P1.length = 258 by rw [hQd, List.length_set]; exact HLP.out)
              have HEd := Lib.hid hQd
              clear hQd hwd hApd hcelld hfzd hRq
              have hApe := hR10.get (b := qb) (L := P1.map encB) (by simp)
              have hcelle := hApe.at_ 257 _ (encB_cell P1 257 (by rw [HLd.out]; decide))
              have hfze := hApe.2.1 257 (by rw [List.length_map, HLd.out]; decide)
              rw [Nat.zero_add] at hfze
              go_upto_region 22 with fail
              obtain ⟨w11, hwe⟩ : ∃ w8, w8 = w10.setCell ⟨qb, 257, none⟩ (.int .u8 (q : Int)) := ⟨_, rfl⟩
              have hR11 := hR10.cell 257 (.int .u8 (q : Int))
              rw [← hwe] at hR11 ⊢
              obtain ⟨P2, hQe⟩ : ∃ Q, Q = P1.set 257 (UInt8.ofNat q) := ⟨_, rfl⟩
              rw [show (P1.map encB).set 257 (.int .u8 (q : Int)) = P2.map encB from by rw [hQe, List.map_set, encB_of q hq8]] at hR11
              have HLe := Lib.hid (show P2.length = 258 by rw [hQe, List.length_set]; exact HLd.out)
              have HEe := Lib.hid hQe
              clear hQe hwe hApe hcelle hfze hR10
              have HPP : Hid (P2 = frP k body) := Lib.hid (by
                have hn2 := numB_two C
                rw [Nat.mod_eq_of_lt (show C / 256 < 256 by omega), ← HRR.out, ← HQQ.out] at hn2
                have hl2 : (numB 2 C).length = 2 := numB_length _ _
                have s1 := spl_set P0 256 0 (numB 2 C) (by rw [HLP.out, hl2]; decide) (by rw [hl2]; decide)
                have s2 := spl_set P0 256 1 (numB 2 C) (by rw [HLP.out, hl2]; decide) (by rw [hl2]; decide)
                rw [List.take_zero, spl_nil] at s1
                rw [← s1] at s2
                rw [spl_all P0 256 2 (numB 2 C) hl2.symm] at s2
                have e0 : (numB 2 C)[0]'(by rw [hl2]; decide) = UInt8.ofNat r := by simp [hn2]
                have e1 : (numB 2 C)[1]'(by rw [hl2]; decide) = UInt8.ofNat q := by simp [hn2]
                rw [e0, e1] at s2
                rw [HEe.out, HEd.out]
                rw [show (256 : Nat) + 0 = 256 from rfl, show (256 : Nat) + 1 = 257 from rfl] at s2
                rw [s2, HEP.out, HZbE.out, HC.out, HDD.out]
                rfl)
              obtain ⟨L9, hL9⟩ : ∃ L, L = P2.map encB := ⟨_, rfl⟩
              have hL9l : L9.length = 258 := by rw [hL9, List.length_map]; exact HLe.out
              have HI9 := Lib.hid (show (Try.prog.info? 26).map (·.size) = some L9.length by rw [hL9l]; exact page_info)
              have HI9A := Lib.hid (show (Try.prog.info? 26).map (·.size) = some L9.toArray.size by rw [List.size_toArray, hL9l]; exact page_info)
              have H19 : Hid (L9.toArray.all (·.oneCell') = true) := Lib.hid (all_oneCell_toArray (by rw [hL9]; exact encB_all _))
              have H9Z : Hid (L9.toArray.size = Z.length) := Lib.hid (by rw [List.size_toArray, hL9l, HZL.out])
              rw [← hL9] at hR11
              have HL9 := Lib.hid hL9
              have hA9 := hR11.get (b := qb) (L := L9) (by simp)
              have hA0 := hR11.get (b := pb) (L := Z) (by simp)
              clear hL9 hL9l
              go_wp2_with fail
              refine wp_load_mid 26 _ rfl qb 0 rfl L9 _ hA9.1 Try.underlying26 rfl HI9.out ?_
              simp only [Act.put, List.setIfInBounds_toArray, List.set_cons_zero, List.set_cons_succ]
              go_wp2_with (refine wpList_store_mid rfl 26 _ _ rfl pb 0 L9.toArray rfl rfl (hA0.thereA H9Z.out) HI9A.out H19.out ?_)
              refine bodyPost_row2 rfl rfl rfl rfl (hA0.setA_same H9Z.out) Try.underlying26 rfl (by simpa using HI9.out) ⟨?_, below_setCells HGE.out _ _ hR11.below⟩
              rw [← HPP.out, ← HL9.out]
              rfl
set_option maxRecDepth 100000 in
theorem rw_any (k : UInt8) (A : Option Addr) (n c : Nat) (body : List UInt8) (w : World) (hX : Bs w (.slice A n c) body) :
    Calls Try.prog 15 #[.int .u8 (k.toNat : Int), .slice A n c] w fun e w' => e = .returned (.tuple #[.agg ((fwR k body).1.map encB).toArray, .int .i64 ((fwR k body).2 : Int)]) ∧ Below w.heap.size w w' := by
  unfold fwR
  by_cases h : k = 0 ∨ k = 255 ∨ 240 < body.length
  · rw [if_pos h]
    exact rw_bad k A n c body w hX h
  · rw [if_neg h]
    exact rw_ok k A n c body w hX (fun e => h (.inl e)) (fun e => h (.inr (.inl e))) (by omega)
end Go.Proofs.YtljdfhckllncoaaK
