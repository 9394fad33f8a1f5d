import Derived.Test.YtljdfhckllncoaaKFrmV
import Derived.Test.YtljdfhckllncoaaKFrmA
namespace Go.Proofs.YtljdfhckllncoaaK
open Go.RowKit
set_option linter.unusedSimpArgs false
set_option linter.unusedVariables false
theorem and_mask16 (x : Int) : bits .and .i64 x 65535 = ((x % 65536).toNat : Int) := by
  have h1 : bits .and .i64 x 65535 = IntKind.i64.wrap (((BitVec.ofInt 64 x) &&& (BitVec.ofInt 64 65535)).toNat : Int) := rfl
  have h2 : (BitVec.ofInt 64 (65535 : Int)).toNat = 2 ^ 16 - 1 := by decide
  rw [h1, BitVec.toNat_and, h2, Nat.and_two_pow_sub_one_eq_mod, BitVec.toNat_ofInt, IntKind.wrap_i64]
  omega
theorem frOut_nil {E : Nat} {e : Ending} {w : World} (ho : FrOut (0, [], 0, E) e w) : ∃ A c, e = .returned (.tuple #[.int .u8 0, .slice A 0 c, .int .i64 0, .int .i64 (E : Int)]) := by
  obtain ⟨v, h1, A, n, c, h2, hB⟩ := ho
  have h3 := hB.len
  simp only [List.length_nil] at h3
  subst h3
  subst h2
  exact ⟨A, c, h1⟩
theorem torn_out (bs : List UInt8) (hl : bs.length = 258) (h : tornB (bs.getD 257 0).toNat = true) (F : Int) (hF : F = if blankB bs = true then 20 else 21) (w : World) :
    Calls Try.prog 16 #[.agg (bs.map encB).toArray] w fun e w' => ∃ A c, e = .returned (.tuple #[.int .u8 0, .slice A 0 c, .int .i64 0, .int .i64 F]) ∧ Below w.heap.size w w' := by
  have h1 := torn_read bs hl h
  have h2 := fread_any bs hl w
  rw [h1] at h2
  refine h2.mono ?_
  rintro e w' ⟨ho, hb⟩
  obtain ⟨A, c, he⟩ := frOut_nil ho
  refine ⟨A, c, ?_, hb⟩
  rw [he, hF]
  split <;> rfl
set_option maxRecDepth 100000 in
set_option maxHeartbeats 8000000 in
theorem torn_walk (k : UInt8) (A : Option Addr) (n c : Nat) (body : List UInt8) (x y : Int) (w : World) (hX : Bs w (.slice A n c) body) :
    Calls Try.prog 7 #[.int .u8 (k.toNat : Int), .slice A n c, .agg #[.int .i64 x, .int .i64 y]] w fun e w' => e = .returned (.bool true) ∧ Below w.heap.size w w' := by
  have HL := Lib.hid hX.len
  by_cases hg : 240 < n
  · clear hX
    go_enter Try.func7, Try.ntmps7
    go_wp2_with (go_at_call 13; refine (frame_speaks _).mono ?_; rintro e w1 ⟨rfl, hb1⟩)
    go_ret
    exact ⟨rfl, ((Below.refl w.heap.size w).alloc (Nat.le_refl _) _).trans (hb1.mono (by simp))⟩
  have hal : body.length ≤ 240 := by rw [← HL.out]; omega
  have HW1 := fun W A n c h hn => fw_any k A n c [body] W h hn (by simp [Lib.lens]; omega)
  rw [show [body].flatten = body from by simp] at HW1
  have hl1 := fwR_len k body
  have he1 := fwR_01 k body
  obtain ⟨E1, hE1⟩ : ∃ E, E = (fwR k body).2 := ⟨_, rfl⟩
  obtain ⟨pl, hpl⟩ : ∃ E, E = (fwR k body).1 := ⟨_, rfl⟩
  rw [← hE1, ← hpl] at HW1
  rw [← hpl] at hl1
  rw [← hE1] at he1
  obtain ⟨P1, hP1⟩ : ∃ E, E = pl.map encB := ⟨_, rfl⟩
  rw [← hP1] at HW1
  have hP1l : P1.length = 258 := by rw [hP1, List.length_map]; exact hl1
  have HIA1 := Lib.hid (show (Try.prog.info? 26).map (·.size) = some P1.toArray.size by rw [List.size_toArray, hP1l]; exact page_info)
  have H11 : Hid (P1.toArray.all (·.oneCell') = true) := Lib.hid (all_oneCell_toArray (by rw [hP1]; exact encB_all _))
  have hz := page_zero
  obtain ⟨Z, hZ⟩ : ∃ Z, Z = z258.map encB := ⟨_, rfl⟩
  have hZl : Z.length = 258 := by rw [hZ, List.length_map, z258_len]
  rw [← hZ] at hz
  have HZ1 : Hid (P1.toArray.size = Z.toArray.toList.length) := Lib.hid (by simp [hP1l, hZl])
  replace HW1 := Lib.hid HW1
  have HP1 := Lib.hid hP1
  have HPL := Lib.hid hl1
  obtain ⟨p, hp⟩ : ∃ p, p = (x % 65536).toNat := ⟨_, rfl⟩
  obtain ⟨q, hq⟩ : ∃ p, p = (y % 65536).toNat := ⟨_, rfl⟩
  have x1 : bits .and .i64 x 65535 = (p : Int) := by rw [and_mask16, hp]
  have x2 : bits .and .i64 y 65535 = (q : Int) := by rw [and_mask16, hq]
  obtain ⟨m, hm⟩ : ∃ m, m = p % 258 := ⟨_, rfl⟩
  have hm8 : m < 258 := by omega
  have x3 : (p : Int) % 258 = (m : Int) := by omega
  have hqb : q < 65536 := by omega
  have hpb : p < 65536 := by omega
  have hp0 : (0 : Int) ≤ p := by omega
  have hq0 : (0 : Int) ≤ q := by omega
  clear hl1 hE1 hpl hP1 hP1l hZ hZl hal hp hq hm hpb
  obtain ⟨W, hW⟩ : ∃ W, W = w.alloc (.cells #[.int .i64 x, .int .i64 y] 40) := ⟨_, rfl⟩
  obtain ⟨xb, hxb⟩ : ∃ xb, xb = w.heap.size := ⟨_, rfl⟩
  have hR0 : Rows w [(xb, [.int .i64 x, .int .i64 y])] W := by rw [hW, hxb]; exact (Rows.nil w).new #[.int .i64 x, .int .i64 y] _
  have HXX := Lib.hid hX
  go_enter Try.func7, Try.ntmps7
  go_wp2_with fail
  rw [← hW]
  simp only [← hxb]
  clear hW hxb hX
  go_upto_region 5 with (go_at_call 13; refine (frame_speaks _).mono ?_; rintro e w1 ⟨rfl, hb1⟩; have hR1 := hR0.go hb1)
  have hX1 := HXX.out.below hR1.below
  have HB1 := Lib.hid (Bss.new1 (w := w1) (b := w1.heap.size) (T := 22) (fz := (0, 0)) rfl hX1)
  have hR1b := hR1.alloc (.cells #[.slice A n c] 22)
  go_upto_region 6 with (first
    | (go_at_call 14; refine (HW1.out _ _ _ _ HB1.out (by decide)).mono ?_; rintro e w4 ⟨rfl, hb4⟩; have hR4 := hR1b.go hb4; have hR5 := hR4.new Z.toArray 26)
    | (refine wpList_store_mid rfl 26 _ _ rfl w4.heap.size 0 P1.toArray rfl rfl ((hR5.get (b := w4.heap.size) (L := Z.toArray.toList) (by simp)).thereA HZ1.out) HIA1.out H11.out ?_))
  have hR6 := hR5.storeA HZ1.out
  rw [List.toList_toArray] at hR6
  obtain ⟨W6, hW6⟩ : ∃ W6, W6 = (w4.alloc (.cells Z.toArray 26)).setCells w4.heap.size 0 P1 := ⟨_, rfl⟩
  obtain ⟨pb, hpb⟩ : ∃ db, db = w4.heap.size := ⟨_, rfl⟩
  rw [← hW6] at hR6 ⊢
  simp only [← hpb] at hR6 ⊢
  clear hW6 hpb hR5 hR4 hR1b HB1 hX1 hR1 hR0
  rcases he1 with rfl | rfl
  rotate_left
  · go_wp2_with fail
    go_ret
    exact ⟨rfl, hR6.below⟩
  have hAx := hR6.get (b := xb) (L := [.int .i64 x, .int .i64 y]) (by simp)
  have hk0 := hAx.at_ 0 _ rfl
  have hk1 := hAx.at_ 1 _ rfl
  go_upto_region 8 with fail
  go_quiet (fail)
  rw [x3]
  obtain ⟨W7, hW7⟩ : ∃ W7, W7 = W6.drewN nq := ⟨_, rfl⟩
  have hR7 : Rows w [(pb, P1), (xb, [.int .i64 x, .int .i64 y])] W7 := by rw [hW7]; exact hR6.go (below_drewN' (Below.refl _ _))
  rw [← hW7]
  clear hW7 hR6 hAx hk0 hk1 hb4 hb1 HXX HW1
  have hm0 : (m : Int) < 258 := by omega
  go_wp2_with fail
  go_loopw [11] (fun v11 wr => ∃ (i : Nat) (Q : List UInt8), i ≤ 258 ∧ m ≤ i ∧ v11 = .int .i64 (i : Int) ∧ Q.length = 258 ∧ (∀ j, m ≤ j → j < i → Q.getD j 0 = 255) ∧ Rows w [(pb, Q.map encB), (xb, [.int .i64 x, .int .i64 y])] wr) (fun v11 _ => 258 - (intOf v11).toNat)
  case atStart => exact ⟨m, pl, by omega, Nat.le_refl _, rfl, HPL.out, fun j h1 h2 => by omega, HP1.out ▸ hR7⟩
  case round =>
    obtain ⟨i, Q, hi, hmi, rfl, hQ, hF, hRq⟩ := hrel
    clear hR7
    have HF := Lib.hid hF
    have HQL := Lib.hid hQ
    clear hF
    by_cases hlt : i < 258
    · have hii : (i : Int) < 258 := by omega
      have hi0 : (0 : Int) ≤ i := by omega
      have hAp := hRq.get (b := pb) (L := Q.map encB) (by simp)
      have hcell := hAp.at_ i _ (encB_cell Q i (by omega))
      have hfz := (hAp.2.1 i (by rw [List.length_map]; omega))
      rw [Nat.zero_add] at hfz
      clear hQ
      go_wp2_with fail
      go_roundw
      case rel => 
        refine ⟨i + 1, Q.set i 255, by omega, by omega, by go_num, by rw [List.length_set]; exact HQL.out, fun j h1 h2 => ?_, ?_⟩
        · rw [byte_getD _ _ _ _ (by rw [HQL.out]; exact hlt)]
          split
          · rfl
          · exact HF.out j h1 (by omega)
        · rw [List.map_set]
          exact hRq.cell i _
      case measure => simp [intOf]; omega
    · obtain rfl : i = 258 := by omega
      rw [show ((258 : Nat) : Int) = 258 from rfl]
      have hT : (Q.getD 257 0) = 255 := HF.out 257 (by omega) (by omega)
      clear hlt hi hmi HF
      by_cases hq9 : q < 2064
      · obtain ⟨a, ha⟩ : ∃ a, a = q / 8 := ⟨_, rfl⟩
        obtain ⟨b, hb⟩ : ∃ a, a = q % 8 := ⟨_, rfl⟩
        have ha8 : a < 258 := by omega
        have hb8 : b < 8 := by omega
        have y1 : (q : Int) / 8 = (a : Int) := by omega
        have y2 : (q : Int) % 8 = (b : Int) := by omega
        have y3 : (q : Int) < 2064 := by omega
        have y4 : (a : Int) < 258 := by omega
        have y5 : (b : Int) < 8 := by omega
        have y6 : (0 : Int) ≤ a := by omega
        have y7 : (0 : Int) ≤ b := by omega
        obtain ⟨z, hz9⟩ : ∃ z, z = (Q.getD a 0).toNat := ⟨_, rfl⟩
        have hz8 : z < 256 := by rw [hz9]; exact (Q.getD a 0).toNat_lt
        have hAp := hRq.get (b := pb) (L := Q.map encB) (by simp)
        have hcell := hAp.at_ a _ (encB_cell Q a (by omega))
        rw [← hz9] at hcell
        have hfz := (hAp.2.1 a (by rw [List.length_map]; omega))
        rw [Nat.zero_add] at hfz
        have hfl := u8_flip z b hz8 hb8
        have HT := Lib.hid hT
        have HZ9 := Lib.hid hz9
        have HA := Lib.hid ha
        have HBB := Lib.hid hb
        have HFL := Lib.hid hfl
        clear hT hz9 ha hb hfl hQ
        go_upto_region 15 with fail
        rw [HFL.out]
        obtain ⟨w8, hw8⟩ : ∃ w8, w8 = wr.setCell ⟨pb, a, none⟩ (.int .u8 ((z ^^^ 2 ^ b : Nat) : Int)) := ⟨_, rfl⟩
        have hRT0 := hRq.cell a (.int .u8 ((z ^^^ 2 ^ b : Nat) : Int))
        rw [← hw8] at hRT0 ⊢
        obtain ⟨T, hTd⟩ : ∃ T, T = Q.set a (UInt8.ofNat (z ^^^ 2 ^ b)) := ⟨_, rfl⟩
        have hzl : z ^^^ 2 ^ b < 256 := Nat.xor_lt_two_pow (n := 8) hz8 (by have := Nat.pow_lt_pow_right (a := 2) (by decide) hb8; simpa using this)
        have hTe : (Q.map encB).set a (.int .u8 ((z ^^^ 2 ^ b : Nat) : Int)) = T.map encB := by
          rw [hTd, List.map_set]
          congr 1
          show _ = Value.int .u8 _
          rw [UInt8.toNat_ofNat_of_lt' hzl]
        rw [hTe] at hRT0
        have hRT := hRT0
        have hTl : T.length = 258 := by rw [hTd, List.length_set]; exact HQL.out
        have hTt : tornB (T.getD 257 0).toNat = true := by
          rw [hTd, byte_getD _ _ _ _ (by rw [HQL.out]; exact ha8)]
          split
          · rw [UInt8.toNat_ofNat_of_lt' hzl]
            rename_i h57
            have : z = 255 := by rw [HZ9.out, ← h57, HT.out]; rfl
            rw [this]
            exact torn_flip ⟨b, hb8⟩
          · rw [HT.out]; decide
        clear hTd hTe hRT0 hw8 hzl hRq hAp hcell hfz
        obtain ⟨z9, hz9⟩ : ∃ z : Bool, z = blankB T := ⟨_, rfl⟩
        obtain ⟨E, hE⟩ : ∃ E : Int, E = (if blankB T = true then 20 else 21) := ⟨_, rfl⟩
        have HRD := Lib.hid (fun W => torn_out T hTl hTt E hE W)
        have HBL := Lib.hid (fun W => blank_any T hTl W)
        obtain ⟨LT, hLT⟩ : ∃ L, L = T.map encB := ⟨_, rfl⟩
        have hLTl : LT.length = 258 := by rw [hLT, List.length_map]; exact hTl
        have HIT := Lib.hid (show (Try.prog.info? 26).map (·.size) = some LT.length by rw [hLTl]; exact page_info)
        rw [← hLT] at HRD HBL hRT
        have hAT := hRT.get (b := pb) (L := LT) (by simp)
        clear hLT hLTl
        rw [← hz9] at hE HBL
        clear hz9 hTl hTt
        cases z9
        · obtain rfl : E = 21 := hE.trans (if_neg Bool.false_ne_true)
          clear hE
          go_wp2_with fail
          refine wp_load_mid 26 _ rfl pb 0 rfl LT _ hAT.1 Try.underlying26 rfl HIT.out ?_
          simp only [Act.put, List.setIfInBounds_toArray, List.set_cons_zero, List.set_cons_succ]
          go_wp2_with fail
          go_at_call 16
          refine (HRD.out _).mono ?_
          rintro e wa ⟨A9, c9, rfl, hba⟩
          have hRa := hRT.go hba
          go_wp2_with fail
          go_ret
          exact ⟨rfl, hRa.below⟩
        · obtain rfl : E = 20 := hE.trans (if_pos rfl)
          clear hE
          go_wp2_with fail
          refine wp_load_mid 26 _ rfl pb 0 rfl LT _ hAT.1 Try.underlying26 rfl HIT.out ?_
          simp only [Act.put, List.setIfInBounds_toArray, List.set_cons_zero, List.set_cons_succ]
          go_wp2_with fail
          go_at_call 16
          refine (HRD.out _).mono ?_
          rintro e wa ⟨A9, c9, rfl, hba⟩
          have hRa := hRT.go hba
          have hAa := hRa.get (b := pb) (L := LT) (by simp)
          go_wp2_with (first
            | (refine wpList_load_g (by rfl) 26 _ rfl pb 0 rfl LT _ hAa.1 Try.underlying26 rfl HIT.out ?_)
            | (go_at_call 17; refine (HBL.out _).mono ?_; rintro e wb ⟨rfl, hbb⟩; have hRb := hRa.go hbb))
          go_ret
          exact ⟨rfl, hRb.below⟩
      · have hq9i : ¬ (q : Int) < 2064 := by omega
        obtain ⟨T, hTd⟩ : ∃ T, T = Q := ⟨_, rfl⟩
        rw [← hTd] at hRq hT hQ
        have hRT := hRq
        have hTl := hQ
        have hTt : tornB (T.getD 257 0).toNat = true := by rw [hT]; decide
        clear hT hTd hRq hQ
        obtain ⟨z9, hz9⟩ : ∃ z : Bool, z = blankB T := ⟨_, rfl⟩
        obtain ⟨E, hE⟩ : ∃ E : Int, E = (if blankB T = true then 20 else 21) := ⟨_, rfl⟩
        have HRD := Lib.hid (fun W => torn_out T hTl hTt E hE W)
        have HBL := Lib.hid (fun W => blank_any T hTl W)
        obtain ⟨LT, hLT⟩ : ∃ L, L = T.map encB := ⟨_, rfl⟩
        have hLTl : LT.length = 258 := by rw [hLT, List.length_map]; exact hTl
        have HIT := Lib.hid (show (Try.prog.info? 26).map (·.size) = some LT.length by rw [hLTl]; exact page_info)
        rw [← hLT] at HRD HBL hRT
        have hAT := hRT.get (b := pb) (L := LT) (by simp)
        clear hLT hLTl
        rw [← hz9] at hE HBL
        clear hz9 hTl hTt
        cases z9
        · obtain rfl : E = 21 := hE.trans (if_neg Bool.false_ne_true)
          clear hE
          go_wp2_with fail
          refine wp_load_mid 26 _ rfl pb 0 rfl LT _ hAT.1 Try.underlying26 rfl HIT.out ?_
          simp only [Act.put, List.setIfInBounds_toArray, List.set_cons_zero, List.set_cons_succ]
          go_wp2_with fail
          go_at_call 16
          refine (HRD.out _).mono ?_
          rintro e wa ⟨A9, c9, rfl, hba⟩
          have hRa := hRT.go hba
          go_wp2_with fail
          go_ret
          exact ⟨rfl, hRa.below⟩
        · obtain rfl : E = 20 := hE.trans (if_pos rfl)
          clear hE
          go_wp2_with fail
          refine wp_load_mid 26 _ rfl pb 0 rfl LT _ hAT.1 Try.underlying26 rfl HIT.out ?_
          simp only [Act.put, List.setIfInBounds_toArray, List.set_cons_zero, List.set_cons_succ]
          go_wp2_with fail
          go_at_call 16
          refine (HRD.out _).mono ?_
          rintro e wa ⟨A9, c9, rfl, hba⟩
          have hRa := hRT.go hba
          have hAa := hRa.get (b := pb) (L := LT) (by simp)
          go_wp2_with (first
            | (refine wpList_load_g (by rfl) 26 _ rfl pb 0 rfl LT _ hAa.1 Try.underlying26 rfl HIT.out ?_)
            | (go_at_call 17; refine (HBL.out _).mono ?_; rintro e wb ⟨rfl, hbb⟩; have hRb := hRa.go hbb))
          go_ret
          exact ⟨rfl, hRb.below⟩
end Go.Proofs.YtljdfhckllncoaaK
