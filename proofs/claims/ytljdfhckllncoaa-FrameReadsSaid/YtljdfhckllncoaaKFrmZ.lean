import Derived.Test.YtljdfhckllncoaaKFrmX
import Derived.Test.YtljdfhckllncoaaKFrmY
namespace Go.Proofs.YtljdfhckllncoaaK
open Go.RowKit
set_option linter.unusedSimpArgs false
set_option linter.unusedVariables false
theorem flip_cells (Q : List UInt8) (pos i j z : Nat) (hi : i = pos / 8) (hj : j = pos % 8) (hz : z = (Q.getD i 0).toNat) (hz8 : z < 256) :
    (Q.map encB).set i (.int .u8 ((z ^^^ 2 ^ j : Nat) : Int)) = (flipD Q pos).map encB := by
  have hzl : z ^^^ 2 ^ j < 256 := by rw [hj]; exact flip_small z pos hz8
  have e : encB (UInt8.ofNat (z ^^^ 2 ^ j)) = .int .u8 ((z ^^^ 2 ^ j : Nat) : Int) := by
    unfold encB
    rw [UInt8.toNat_ofNat_of_lt' hzl]
  rw [← e, ← List.map_set]
  unfold flipD
  rw [← hi, ← hj, ← hz]
theorem frOut_val {k : UInt8} {body : List UInt8} {m E : Nat} {e : Ending} {w : World} (ho : FrOut (k, body, m, E) e w) : ∃ A n c, e = .returned (.tuple #[.int .u8 (k.toNat : Int), .slice A n c, .int .i64 (m : Int), .int .i64 (E : Int)]) ∧ Bs w (.slice A n c) body := by
  obtain ⟨v, h1, A, n, c, h2, hB⟩ := ho
  subst h2
  exact ⟨A, n, c, h1, hB⟩
theorem mends_call (k : UInt8) (body : List UInt8) (T : List UInt8) (hl : T.length = 258) (m E : Nat) (m' E' : Int) (hm : m' = (m : Int)) (hE : E' = (E : Int)) (kn : Int) (hk : kn = (k.toNat : Int)) (h : frR T = (k, body, m, E)) (w : World) :
    Calls Try.prog 16 #[.agg (T.map encB).toArray] w fun e w' => ∃ A n c, e = .returned (.tuple #[.int .u8 kn, .slice A n c, .int .i64 m', .int .i64 E']) ∧ Bs w' (.slice A n c) body ∧ Below w.heap.size w w' := by
  have h2 := fread_any T hl w
  rw [h] at h2
  refine h2.mono ?_
  rintro e w' ⟨ho, hb⟩
  obtain ⟨A, n, c, he, hB⟩ := frOut_val ho
  exact ⟨A, n, c, by rw [he, hm, hE, hk], hB, hb⟩
theorem fwR_1 (k : UInt8) (body : List UInt8) (h : body.length ≤ 240) : (fwR k body).2 = 1 → k.toNat = 0 ∨ k.toNat = 255 := by
  unfold fwR
  split
  · rename_i h1
    intro _
    rcases h1 with h1 | h1 | h1
    · exact .inl (by rw [h1]; rfl)
    · exact .inr (by rw [h1]; rfl)
    · omega
  · intro h; cases h
theorem fwR_0 (k : UInt8) (body : List UInt8) : (fwR k body).2 = 0 → k ≠ 0 ∧ k ≠ 255 := by
  unfold fwR
  split
  · intro h; cases h
  · rename_i h1
    intro _
    exact ⟨fun h => h1 (.inl h), fun h => h1 (.inr (.inl h))⟩
set_option maxRecDepth 100000 in
set_option maxHeartbeats 8000000 in
theorem mends_walk (k : UInt8) (A : Option Addr) (n c : Nat) (body : List UInt8) (x y : Int) (w : World) (hX : Bs w (.slice A n c) body) :
    Calls Try.prog 6 #[.int .u8 (k.toNat : Int), .slice A n c, .agg #[.int .i64 x, .int .i64 y]] w fun e w' => e = .returned (.bool true) ∧ Below w.heap.size w w' := by
  have HL := Lib.hid hX.len
  by_cases hg : 240 < n
  · clear hX
    go_enter Try.func6, Try.ntmps6
    go_wp2_with (go_at_call 13; refine (frame_speaks _).mono ?_; rintro e w1 ⟨rfl, hb1⟩)
    go_ret
    exact ⟨rfl, ((Below.refl w.heap.size w).alloc (Nat.le_refl _) _).trans (hb1.mono (by simp))⟩
  have hal : body.length ≤ 240 := by rw [← HL.out]; omega
  have HW1 := fun W A n c h hn => fw_any k A n c [body] W h hn (by simp [Lib.lens]; omega)
  rw [show [body].flatten = body from by simp] at HW1
  have hl1 := fwR_len k body
  have he1 := fwR_01 k body
  have hf1 := fwR_1 k body hal
  have hf0 := fwR_0 k body
  have hf2 := fwR_ok k body
  obtain ⟨E1, hE1⟩ : ∃ E, E = (fwR k body).2 := ⟨_, rfl⟩
  obtain ⟨pl, hpl⟩ : ∃ E, E = (fwR k body).1 := ⟨_, rfl⟩
  obtain ⟨kn, hkn⟩ : ∃ E, E = k.toNat := ⟨_, rfl⟩
  rw [← hE1, ← hpl, ← hkn] at HW1
  rw [← hE1, ← hkn] at hf1
  rw [← hE1] at hf0
  rw [← hE1, ← hpl] at hf2
  rw [← hpl] at hl1
  rw [← hE1] at he1
  rw [← hkn]
  obtain ⟨P1, hP1⟩ : ∃ E, E = pl.map encB := ⟨_, rfl⟩
  rw [← hP1] at HW1
  have hP1l : P1.length = 258 := by rw [hP1, List.length_map]; exact hl1
  have HIA1 := Lib.hid (show (Try.prog.info? 26).map (·.size) = some P1.toArray.size by rw [List.size_toArray, hP1l]; exact page_info)
  have H11 : Hid (P1.toArray.all (·.oneCell') = true) := Lib.hid (all_oneCell_toArray (by rw [hP1]; exact encB_all _))
  have hz := page_zero
  obtain ⟨Z, hZ⟩ : ∃ Z, Z = z258.map encB := ⟨_, rfl⟩
  have hZl : Z.length = 258 := by rw [hZ, List.length_map, z258_len]
  rw [← hZ] at hz
  have HZ1 : Hid (P1.toArray.size = Z.toArray.toList.length) := Lib.hid (by simp [hP1l, hZl])
  replace HW1 := Lib.hid HW1
  have HP1 := Lib.hid hP1
  have HPL := Lib.hid hl1
  have HF1 := Lib.hid hf1
  have HF0 := Lib.hid hf0
  have HF2 := Lib.hid hf2
  have HKN := Lib.hid hkn
  obtain ⟨p, hp⟩ : ∃ p, p = (x % 65536).toNat := ⟨_, rfl⟩
  obtain ⟨q, hq⟩ : ∃ p, p = (y % 65536).toNat := ⟨_, rfl⟩
  have x1 : bits .and .i64 x 65535 = (p : Int) := by rw [and_mask16, hp]
  have x2 : bits .and .i64 y 65535 = (q : Int) := by rw [and_mask16, hq]
  obtain ⟨a, ha⟩ : ∃ m, m = p % 2064 := ⟨_, rfl⟩
  obtain ⟨b, hb⟩ : ∃ m, m = q % 2064 := ⟨_, rfl⟩
  have ha8 : a < 2064 := by omega
  have hb8 : b < 2064 := by omega
  have x3 : (p : Int) % 2064 = (a : Int) := by omega
  have x4 : (q : Int) % 2064 = (b : Int) := by omega
  have hqb : q < 65536 := by omega
  have hpb : p < 65536 := by omega
  have hp0 : (0 : Int) ≤ p := by omega
  have hq0 : (0 : Int) ≤ q := by omega
  clear hl1 hE1 hpl hP1 hP1l hZ hZl hp hq ha hb hf1 hf0 hf2 hkn
  obtain ⟨W, hW⟩ : ∃ W, W = w.alloc (.cells #[.int .i64 x, .int .i64 y] 40) := ⟨_, rfl⟩
  obtain ⟨xb, hxb⟩ : ∃ xb, xb = w.heap.size := ⟨_, rfl⟩
  have hR0 : Rows w [(xb, [.int .i64 x, .int .i64 y])] W := by rw [hW, hxb]; exact (Rows.nil w).new #[.int .i64 x, .int .i64 y] _
  have HXX := Lib.hid hX
  go_enter Try.func6, Try.ntmps6
  go_wp2_with fail
  rw [← hW]
  simp only [← hxb]
  clear hW hxb hX
  go_upto_region 5 with (go_at_call 13; refine (frame_speaks _).mono ?_; rintro e w1 ⟨rfl, hb1⟩; have hR1 := hR0.go hb1)
  have hX1 := HXX.out.below hR1.below
  have HB1 := Lib.hid (Bss.new1 (w := w1) (b := w1.heap.size) (T := 22) (fz := (0, 0)) rfl hX1)
  have hR1b := hR1.alloc (.cells #[.slice A n c] 22)
  go_upto_region 6 with (first
    | (go_at_call 14; refine (HW1.out _ _ _ _ HB1.out (by decide)).mono ?_; rintro e w4 ⟨rfl, hb4⟩; have hR4 := hR1b.go hb4; have hR5 := hR4.new Z.toArray 26)
    | (refine wpList_store_mid rfl 26 _ _ rfl w4.heap.size 0 P1.toArray rfl rfl ((hR5.get (b := w4.heap.size) (L := Z.toArray.toList) (by simp)).thereA HZ1.out) HIA1.out H11.out ?_))
  have hR6 := hR5.storeA HZ1.out
  rw [List.toList_toArray] at hR6
  obtain ⟨W6, hW6⟩ : ∃ W6, W6 = (w4.alloc (.cells Z.toArray 26)).setCells w4.heap.size 0 P1 := ⟨_, rfl⟩
  obtain ⟨pb, hpb9⟩ : ∃ db, db = w4.heap.size := ⟨_, rfl⟩
  rw [← hW6] at hR6 ⊢
  simp only [← hpb9] at hR6 ⊢
  clear hW6 hpb9 hR5 hR4 hR1b HB1 hX1 hR1 hR0
  rcases he1 with rfl | rfl
  rotate_left
  · rcases HF1.out rfl with h | h
    · subst h
      rw [show ((0 : Nat) : Int) = 0 from rfl, show ((1 : Nat) : Int) = 1 from rfl]
      go_wp2_with fail
      go_ret
      exact ⟨rfl, hR6.below⟩
    · subst h
      rw [show ((255 : Nat) : Int) = 255 from rfl, show ((1 : Nat) : Int) = 1 from rfl]
      go_wp2_with fail
      go_ret
      exact ⟨rfl, hR6.below⟩
  obtain ⟨hk0, hk255⟩ := HF0.out rfl
  obtain ⟨_, hplP⟩ := HF2.out rfl
  rw [show ((0 : Nat) : Int) = 0 from rfl]
  have HNA := Lib.hid (mends_one k body hk0 hk255 hal a ha8)
  have HNB := Lib.hid (mends_two k body hk0 hk255 hal a b ha8 hb8)
  rw [← hplP] at HNA HNB
  have hAx := hR6.get (b := xb) (L := [.int .i64 x, .int .i64 y]) (by simp)
  have hk0 := hAx.at_ 0 _ rfl
  have hk1 := hAx.at_ 1 _ rfl
  clear hk255 hplP
  go_upto_region 8 with fail
  go_quiet (fail)
  rw [x3, x4]
  obtain ⟨W7, hW7⟩ : ∃ W7, W7 = W6.drewN nq := ⟨_, rfl⟩
  have hR7 : Rows w [(pb, pl.map encB), (xb, [.int .i64 x, .int .i64 y])] W7 := by rw [hW7, ← HP1.out]; exact hR6.go (below_drewN' (Below.refl _ _))
  rw [← hW7]
  clear hW7 hR6 hAx hk0 hk1 hb4 hb1 HW1 x1 x2 x3 x4 hp0 hq0 hpb hqb hz
  obtain ⟨iA, hiA⟩ : ∃ i, i = a / 8 := ⟨_, rfl⟩
  obtain ⟨jA, hjA⟩ : ∃ i, i = a % 8 := ⟨_, rfl⟩
  have hi8A : iA < 258 := by omega
  have hj8A : jA < 8 := by omega
  have y1A : (a : Int) / 8 = (iA : Int) := by omega
  have y2A : (a : Int) % 8 = (jA : Int) := by omega
  have y4A : (iA : Int) < 258 := by omega
  have y5A : (jA : Int) < 8 := by omega
  have y6A : (0 : Int) ≤ iA := by omega
  have y7A : (0 : Int) ≤ jA := by omega
  obtain ⟨zA, hzA⟩ : ∃ z, z = (pl.getD iA 0).toNat := ⟨_, rfl⟩
  have hz8A : zA < 256 := by rw [hzA]; exact (pl.getD iA 0).toNat_lt
  have hApA := hR7.get (b := pb) (L := pl.map encB) (by simp)
  have hcellA := hApA.at_ iA _ (encB_cell pl iA (by rw [HPL.out]; exact hi8A))
  rw [← hzA] at hcellA
  have hfzA := (hApA.2.1 iA (by rw [List.length_map, HPL.out]; exact hi8A))
  rw [Nat.zero_add] at hfzA
  have HFLA := Lib.hid (u8_flip zA jA hz8A hj8A)
  have HZA := Lib.hid hzA
  have HIA := Lib.hid hiA
  have HJA := Lib.hid hjA
  clear hzA hiA hjA
  go_upto_region 10 with fail
  rw [HFLA.out]
  obtain ⟨w8, hwA⟩ : ∃ w8, w8 = W7.setCell ⟨pb, iA, none⟩ (.int .u8 ((zA ^^^ 2 ^ jA : Nat) : Int)) := ⟨_, rfl⟩
  have hRTA := hR7.cell iA (.int .u8 ((zA ^^^ 2 ^ jA : Nat) : Int))
  rw [← hwA] at hRTA ⊢
  obtain ⟨T1, hTdA⟩ : ∃ T, T = flipD pl a := ⟨_, rfl⟩
  have hTeA : (pl.map encB).set iA (.int .u8 ((zA ^^^ 2 ^ jA : Nat) : Int)) = T1.map encB := by rw [hTdA]; exact flip_cells pl a iA jA zA HIA.out HJA.out HZA.out hz8A
  rw [hTeA] at hRTA
  have hTlA : T1.length = 258 := by rw [hTdA, flip_len]; exact HPL.out
  clear hTeA hwA hR7 hApA hcellA hfzA y1A y2A y4A y5A y6A y7A hi8A hj8A hz8A
  rw [← hTdA] at HNA HNB
  have HRDA := Lib.hid (fun W => mends_call k body T1 hTlA 1 0 1 0 rfl rfl (kn : Int) (by rw [HKN.out]) HNA.out W)
  obtain ⟨LA, hLA⟩ : ∃ L, L = T1.map encB := ⟨_, rfl⟩
  have hLAl : LA.length = 258 := by rw [hLA, List.length_map]; exact hTlA
  have HITA := Lib.hid (show (Try.prog.info? 26).map (·.size) = some LA.length by rw [hLAl]; exact page_info)
  rw [← hLA] at HRDA hRTA
  have hATA := hRTA.get (b := pb) (L := LA) (by simp)
  have HLMA := Lib.hid hLA
  have HTLA := Lib.hid hTlA
  clear hLA hLAl hTlA
  refine wp_region_lit ?_
  refine wpList_load_mid rfl 26 _ rfl pb 0 rfl LA _ hATA.1 Try.underlying26 rfl HITA.out ?_
  go_upto_region 13 with (go_at_call 16; refine (HRDA.out _).mono ?_; rintro e wa ⟨AA, nA, cA, rfl, hBA, hbA⟩; have hRaA := hRTA.go hbA; have hXaA := HXX.out.below hRaA.below; have hv1 := run_str hBA; have hv2 := run_str hXaA)
  rw [HLMA.out] at hRaA
  clear hTdA hv1 hv2 hRTA hATA
  by_cases hab : a = b
  · subst hab
    rw [if_pos rfl] at HNB
    obtain ⟨iB, hiB⟩ : ∃ i, i = a / 8 := ⟨_, rfl⟩
    obtain ⟨jB, hjB⟩ : ∃ i, i = a % 8 := ⟨_, rfl⟩
    have hi8B : iB < 258 := by omega
    have hj8B : jB < 8 := by omega
    have y1B : (a : Int) / 8 = (iB : Int) := by omega
    have y2B : (a : Int) % 8 = (jB : Int) := by omega
    have y4B : (iB : Int) < 258 := by omega
    have y5B : (jB : Int) < 8 := by omega
    have y6B : (0 : Int) ≤ iB := by omega
    have y7B : (0 : Int) ≤ jB := by omega
    obtain ⟨zB, hzB⟩ : ∃ z, z = (T1.getD iB 0).toNat := ⟨_, rfl⟩
    have hz8B : zB < 256 := by rw [hzB]; exact (T1.getD iB 0).toNat_lt
    have hApB := hRaA.get (b := pb) (L := T1.map encB) (by simp)
    have hcellB := hApB.at_ iB _ (encB_cell T1 iB (by rw [HTLA.out]; exact hi8B))
    rw [← hzB] at hcellB
    have hfzB := (hApB.2.1 iB (by rw [List.length_map, HTLA.out]; exact hi8B))
    rw [Nat.zero_add] at hfzB
    have HFLB := Lib.hid (u8_flip zB jB hz8B hj8B)
    have HZB := Lib.hid hzB
    have HIB := Lib.hid hiB
    have HJB := Lib.hid hjB
    clear hzB hiB hjB
    go_upto_region 14 with fail
    rw [HFLB.out]
    obtain ⟨w9, hwB⟩ : ∃ w8, w8 = wa.setCell ⟨pb, iB, none⟩ (.int .u8 ((zB ^^^ 2 ^ jB : Nat) : Int)) := ⟨_, rfl⟩
    have hRTB := hRaA.cell iB (.int .u8 ((zB ^^^ 2 ^ jB : Nat) : Int))
    rw [← hwB] at hRTB ⊢
    obtain ⟨T2, hTdB⟩ : ∃ T, T = flipD T1 a := ⟨_, rfl⟩
    have hTeB : (T1.map encB).set iB (.int .u8 ((zB ^^^ 2 ^ jB : Nat) : Int)) = T2.map encB := by rw [hTdB]; exact flip_cells T1 a iB jB zB HIB.out HJB.out HZB.out hz8B
    rw [hTeB] at hRTB
    have hTlB : T2.length = 258 := by rw [hTdB, flip_len]; exact HTLA.out
    clear hTeB hwB hRaA hApB hcellB hfzB y1B y2B y4B y5B y6B y7B hi8B hj8B hz8B
    rw [← hTdB] at HNB
    have HRDB := Lib.hid (fun W => mends_call k body T2 hTlB 0 0 0 0 rfl rfl (kn : Int) (by rw [HKN.out]) HNB.out W)
    obtain ⟨LB, hLB⟩ : ∃ L, L = T2.map encB := ⟨_, rfl⟩
    have hLBl : LB.length = 258 := by rw [hLB, List.length_map]; exact hTlB
    have HITB := Lib.hid (show (Try.prog.info? 26).map (·.size) = some LB.length by rw [hLBl]; exact page_info)
    rw [← hLB] at HRDB hRTB
    have hATB := hRTB.get (b := pb) (L := LB) (by simp)
    have HLMB := Lib.hid hLB
    have HTLB := Lib.hid hTlB
    clear hLB hLBl hTlB
    refine wp_region_lit ?_
    refine wpList_load_mid rfl 26 _ rfl pb 0 rfl LB _ hATB.1 Try.underlying26 rfl HITB.out ?_
    go_wp2_with (go_at_call 16; refine (HRDB.out _).mono ?_; rintro e wb ⟨AB, nB, cB, rfl, hBB, hbB⟩; have hRaB := hRTB.go hbB; have hXaB := HXX.out.below hRaB.below; have hv1 := run_str hBB; have hv2 := run_str hXaB)
    go_ret
    exact ⟨rfl, hRaB.below⟩
  · rw [if_neg hab] at HNB
    have habi : ((a : Int) == (b : Int)) = false := by simp; omega
    by_cases ha9 : 2061 ≤ a
    · have ha9i : decide ((2061 : Int) ≤ (a : Int)) = true := decide_eq_true (by omega)
      by_cases hb9 : 2061 ≤ b
      · have hb9i : decide ((2061 : Int) ≤ (b : Int)) = true := decide_eq_true (by omega)
        rw [decide_eq_true ha9, decide_eq_true hb9, if_neg (by decide)] at HNB
        obtain ⟨iB, hiB⟩ : ∃ i, i = b / 8 := ⟨_, rfl⟩
        obtain ⟨jB, hjB⟩ : ∃ i, i = b % 8 := ⟨_, rfl⟩
        have hi8B : iB < 258 := by omega
        have hj8B : jB < 8 := by omega
        have y1B : (b : Int) / 8 = (iB : Int) := by omega
        have y2B : (b : Int) % 8 = (jB : Int) := by omega
        have y4B : (iB : Int) < 258 := by omega
        have y5B : (jB : Int) < 8 := by omega
        have y6B : (0 : Int) ≤ iB := by omega
        have y7B : (0 : Int) ≤ jB := by omega
        obtain ⟨zB, hzB⟩ : ∃ z, z = (T1.getD iB 0).toNat := ⟨_, rfl⟩
        have hz8B : zB < 256 := by rw [hzB]; exact (T1.getD iB 0).toNat_lt
        have hApB := hRaA.get (b := pb) (L := T1.map encB) (by simp)
        have hcellB := hApB.at_ iB _ (encB_cell T1 iB (by rw [HTLA.out]; exact hi8B))
        rw [← hzB] at hcellB
        have hfzB := (hApB.2.1 iB (by rw [List.length_map, HTLA.out]; exact hi8B))
        rw [Nat.zero_add] at hfzB
        have HFLB := Lib.hid (u8_flip zB jB hz8B hj8B)
        have HZB := Lib.hid hzB
        have HIB := Lib.hid hiB
        have HJB := Lib.hid hjB
        clear hzB hiB hjB
        go_upto_region 14 with fail
        rw [HFLB.out]
        obtain ⟨w9, hwB⟩ : ∃ w8, w8 = wa.setCell ⟨pb, iB, none⟩ (.int .u8 ((zB ^^^ 2 ^ jB : Nat) : Int)) := ⟨_, rfl⟩
        have hRTB := hRaA.cell iB (.int .u8 ((zB ^^^ 2 ^ jB : Nat) : Int))
        rw [← hwB] at hRTB ⊢
        obtain ⟨T2, hTdB⟩ : ∃ T, T = flipD T1 b := ⟨_, rfl⟩
        have hTeB : (T1.map encB).set iB (.int .u8 ((zB ^^^ 2 ^ jB : Nat) : Int)) = T2.map encB := by rw [hTdB]; exact flip_cells T1 b iB jB zB HIB.out HJB.out HZB.out hz8B
        rw [hTeB] at hRTB
        have hTlB : T2.length = 258 := by rw [hTdB, flip_len]; exact HTLA.out
        clear hTeB hwB hRaA hApB hcellB hfzB y1B y2B y4B y5B y6B y7B hi8B hj8B hz8B
        rw [← hTdB] at HNB
        have HRDB := Lib.hid (fun W => mends_call 0 [] T2 hTlB 0 21 0 21 rfl rfl 0 rfl HNB.out W)
        obtain ⟨LB, hLB⟩ : ∃ L, L = T2.map encB := ⟨_, rfl⟩
        have hLBl : LB.length = 258 := by rw [hLB, List.length_map]; exact hTlB
        have HITB := Lib.hid (show (Try.prog.info? 26).map (·.size) = some LB.length by rw [hLBl]; exact page_info)
        rw [← hLB] at HRDB hRTB
        have hATB := hRTB.get (b := pb) (L := LB) (by simp)
        have HLMB := Lib.hid hLB
        have HTLB := Lib.hid hTlB
        clear hLB hLBl hTlB
        refine wp_region_lit ?_
        refine wpList_load_mid rfl 26 _ rfl pb 0 rfl LB _ hATB.1 Try.underlying26 rfl HITB.out ?_
        go_wp2_with (go_at_call 16; refine (HRDB.out _).mono ?_; rintro e wb ⟨AB, nB, cB, rfl, hBB, hbB⟩; have hRaB := hRTB.go hbB; have hXaB := HXX.out.below hRaB.below; have hv0 := hBB.len; simp only [List.length_nil] at hv0; subst hv0)
        go_ret
        exact ⟨rfl, hRaB.below⟩
      · have hb9i : decide ((2061 : Int) ≤ (b : Int)) = false := decide_eq_false (by omega)
        rw [decide_eq_true ha9, decide_eq_false hb9, if_pos (by decide)] at HNB
        obtain ⟨iB, hiB⟩ : ∃ i, i = b / 8 := ⟨_, rfl⟩
        obtain ⟨jB, hjB⟩ : ∃ i, i = b % 8 := ⟨_, rfl⟩
        have hi8B : iB < 258 := by omega
        have hj8B : jB < 8 := by omega
        have y1B : (b : Int) / 8 = (iB : Int) := by omega
        have y2B : (b : Int) % 8 = (jB : Int) := by omega
        have y4B : (iB : Int) < 258 := by omega
        have y5B : (jB : Int) < 8 := by omega
        have y6B : (0 : Int) ≤ iB := by omega
        have y7B : (0 : Int) ≤ jB := by omega
        obtain ⟨zB, hzB⟩ : ∃ z, z = (T1.getD iB 0).toNat := ⟨_, rfl⟩
        have hz8B : zB < 256 := by rw [hzB]; exact (T1.getD iB 0).toNat_lt
        have hApB := hRaA.get (b := pb) (L := T1.map encB) (by simp)
        have hcellB := hApB.at_ iB _ (encB_cell T1 iB (by rw [HTLA.out]; exact hi8B))
        rw [← hzB] at hcellB
        have hfzB := (hApB.2.1 iB (by rw [List.length_map, HTLA.out]; exact hi8B))
        rw [Nat.zero_add] at hfzB
        have HFLB := Lib.hid (u8_flip zB jB hz8B hj8B)
        have HZB := Lib.hid hzB
        have HIB := Lib.hid hiB
        have HJB := Lib.hid hjB
        clear hzB hiB hjB
        go_upto_region 14 with fail
        rw [HFLB.out]
        obtain ⟨w9, hwB⟩ : ∃ w8, w8 = wa.setCell ⟨pb, iB, none⟩ (.int .u8 ((zB ^^^ 2 ^ jB : Nat) : Int)) := ⟨_, rfl⟩
        have hRTB := hRaA.cell iB (.int .u8 ((zB ^^^ 2 ^ jB : Nat) : Int))
        rw [← hwB] at hRTB ⊢
        obtain ⟨T2, hTdB⟩ : ∃ T, T = flipD T1 b := ⟨_, rfl⟩
        have hTeB : (T1.map encB).set iB (.int .u8 ((zB ^^^ 2 ^ jB : Nat) : Int)) = T2.map encB := by rw [hTdB]; exact flip_cells T1 b iB jB zB HIB.out HJB.out HZB.out hz8B
        rw [hTeB] at hRTB
        have hTlB : T2.length = 258 := by rw [hTdB, flip_len]; exact HTLA.out
        clear hTeB hwB hRaA hApB hcellB hfzB y1B y2B y4B y5B y6B y7B hi8B hj8B hz8B
        rw [← hTdB] at HNB
        have HRDB := Lib.hid (fun W => mends_call k body T2 hTlB 2 0 2 0 rfl rfl (kn : Int) (by rw [HKN.out]) HNB.out W)
        obtain ⟨LB, hLB⟩ : ∃ L, L = T2.map encB := ⟨_, rfl⟩
        have hLBl : LB.length = 258 := by rw [hLB, List.length_map]; exact hTlB
        have HITB := Lib.hid (show (Try.prog.info? 26).map (·.size) = some LB.length by rw [hLBl]; exact page_info)
        rw [← hLB] at HRDB hRTB
        have hATB := hRTB.get (b := pb) (L := LB) (by simp)
        have HLMB := Lib.hid hLB
        have HTLB := Lib.hid hTlB
        clear hLB hLBl hTlB
        refine wp_region_lit ?_
        refine wpList_load_mid rfl 26 _ rfl pb 0 rfl LB _ hATB.1 Try.underlying26 rfl HITB.out ?_
        go_wp2_with (go_at_call 16; refine (HRDB.out _).mono ?_; rintro e wb ⟨AB, nB, cB, rfl, hBB, hbB⟩; have hRaB := hRTB.go hbB; have hXaB := HXX.out.below hRaB.below; have hv1 := run_str hBB; have hv2 := run_str hXaB)
        go_ret
        exact ⟨rfl, hRaB.below⟩
    · have ha9i : decide ((2061 : Int) ≤ (a : Int)) = false := decide_eq_false (by omega)
      by_cases hb9 : 2061 ≤ b
      · have hb9i : decide ((2061 : Int) ≤ (b : Int)) = true := decide_eq_true (by omega)
        rw [decide_eq_false ha9, decide_eq_true hb9, if_pos (by decide)] at HNB
        obtain ⟨iB, hiB⟩ : ∃ i, i = b / 8 := ⟨_, rfl⟩
        obtain ⟨jB, hjB⟩ : ∃ i, i = b % 8 := ⟨_, rfl⟩
        have hi8B : iB < 258 := by omega
        have hj8B : jB < 8 := by omega
        have y1B : (b : Int) / 8 = (iB : Int) := by omega
        have y2B : (b : Int) % 8 = (jB : Int) := by omega
        have y4B : (iB : Int) < 258 := by omega
        have y5B : (jB : Int) < 8 := by omega
        have y6B : (0 : Int) ≤ iB := by omega
        have y7B : (0 : Int) ≤ jB := by omega
        obtain ⟨zB, hzB⟩ : ∃ z, z = (T1.getD iB 0).toNat := ⟨_, rfl⟩
        have hz8B : zB < 256 := by rw [hzB]; exact (T1.getD iB 0).toNat_lt
        have hApB := hRaA.get (b := pb) (L := T1.map encB) (by simp)
        have hcellB := hApB.at_ iB _ (encB_cell T1 iB (by rw [HTLA.out]; exact hi8B))
        rw [← hzB] at hcellB
        have hfzB := (hApB.2.1 iB (by rw [List.length_map, HTLA.out]; exact hi8B))
        rw [Nat.zero_add] at hfzB
        have HFLB := Lib.hid (u8_flip zB jB hz8B hj8B)
        have HZB := Lib.hid hzB
        have HIB := Lib.hid hiB
        have HJB := Lib.hid hjB
        clear hzB hiB hjB
        go_upto_region 14 with fail
        rw [HFLB.out]
        obtain ⟨w9, hwB⟩ : ∃ w8, w8 = wa.setCell ⟨pb, iB, none⟩ (.int .u8 ((zB ^^^ 2 ^ jB : Nat) : Int)) := ⟨_, rfl⟩
        have hRTB := hRaA.cell iB (.int .u8 ((zB ^^^ 2 ^ jB : Nat) : Int))
        rw [← hwB] at hRTB ⊢
        obtain ⟨T2, hTdB⟩ : ∃ T, T = flipD T1 b := ⟨_, rfl⟩
        have hTeB : (T1.map encB).set iB (.int .u8 ((zB ^^^ 2 ^ jB : Nat) : Int)) = T2.map encB := by rw [hTdB]; exact flip_cells T1 b iB jB zB HIB.out HJB.out HZB.out hz8B
        rw [hTeB] at hRTB
        have hTlB : T2.length = 258 := by rw [hTdB, flip_len]; exact HTLA.out
        clear hTeB hwB hRaA hApB hcellB hfzB y1B y2B y4B y5B y6B y7B hi8B hj8B hz8B
        rw [← hTdB] at HNB
        have HRDB := Lib.hid (fun W => mends_call k body T2 hTlB 2 0 2 0 rfl rfl (kn : Int) (by rw [HKN.out]) HNB.out W)
        obtain ⟨LB, hLB⟩ : ∃ L, L = T2.map encB := ⟨_, rfl⟩
        have hLBl : LB.length = 258 := by rw [hLB, List.length_map]; exact hTlB
        have HITB := Lib.hid (show (Try.prog.info? 26).map (·.size) = some LB.length by rw [hLBl]; exact page_info)
        rw [← hLB] at HRDB hRTB
        have hATB := hRTB.get (b := pb) (L := LB) (by simp)
        have HLMB := Lib.hid hLB
        have HTLB := Lib.hid hTlB
        clear hLB hLBl hTlB
        refine wp_region_lit ?_
        refine wpList_load_mid rfl 26 _ rfl pb 0 rfl LB _ hATB.1 Try.underlying26 rfl HITB.out ?_
        go_wp2_with (go_at_call 16; refine (HRDB.out _).mono ?_; rintro e wb ⟨AB, nB, cB, rfl, hBB, hbB⟩; have hRaB := hRTB.go hbB; have hXaB := HXX.out.below hRaB.below; have hv1 := run_str hBB; have hv2 := run_str hXaB)
        go_ret
        exact ⟨rfl, hRaB.below⟩
      · have hb9i : decide ((2061 : Int) ≤ (b : Int)) = false := decide_eq_false (by omega)
        rw [decide_eq_false ha9, decide_eq_false hb9, if_neg (by decide)] at HNB
        obtain ⟨iB, hiB⟩ : ∃ i, i = b / 8 := ⟨_, rfl⟩
        obtain ⟨jB, hjB⟩ : ∃ i, i = b % 8 := ⟨_, rfl⟩
        have hi8B : iB < 258 := by omega
        have hj8B : jB < 8 := by omega
        have y1B : (b : Int) / 8 = (iB : Int) := by omega
        have y2B : (b : Int) % 8 = (jB : Int) := by omega
        have y4B : (iB : Int) < 258 := by omega
        have y5B : (jB : Int) < 8 := by omega
        have y6B : (0 : Int) ≤ iB := by omega
        have y7B : (0 : Int) ≤ jB := by omega
        obtain ⟨zB, hzB⟩ : ∃ z, z = (T1.getD iB 0).toNat := ⟨_, rfl⟩
        have hz8B : zB < 256 := by rw [hzB]; exact (T1.getD iB 0).toNat_lt
        have hApB := hRaA.get (b := pb) (L := T1.map encB) (by simp)
        have hcellB := hApB.at_ iB _ (encB_cell T1 iB (by rw [HTLA.out]; exact hi8B))
        rw [← hzB] at hcellB
        have hfzB := (hApB.2.1 iB (by rw [List.length_map, HTLA.out]; exact hi8B))
        rw [Nat.zero_add] at hfzB
        have HFLB := Lib.hid (u8_flip zB jB hz8B hj8B)
        have HZB := Lib.hid hzB
        have HIB := Lib.hid hiB
        have HJB := Lib.hid hjB
        clear hzB hiB hjB
        go_upto_region 14 with fail
        rw [HFLB.out]
        obtain ⟨w9, hwB⟩ : ∃ w8, w8 = wa.setCell ⟨pb, iB, none⟩ (.int .u8 ((zB ^^^ 2 ^ jB : Nat) : Int)) := ⟨_, rfl⟩
        have hRTB := hRaA.cell iB (.int .u8 ((zB ^^^ 2 ^ jB : Nat) : Int))
        rw [← hwB] at hRTB ⊢
        obtain ⟨T2, hTdB⟩ : ∃ T, T = flipD T1 b := ⟨_, rfl⟩
        have hTeB : (T1.map encB).set iB (.int .u8 ((zB ^^^ 2 ^ jB : Nat) : Int)) = T2.map encB := by rw [hTdB]; exact flip_cells T1 b iB jB zB HIB.out HJB.out HZB.out hz8B
        rw [hTeB] at hRTB
        have hTlB : T2.length = 258 := by rw [hTdB, flip_len]; exact HTLA.out
        clear hTeB hwB hRaA hApB hcellB hfzB y1B y2B y4B y5B y6B y7B hi8B hj8B hz8B
        rw [← hTdB] at HNB
        have HRDB := Lib.hid (fun W => mends_call 0 [] T2 hTlB 0 21 0 21 rfl rfl 0 rfl HNB.out W)
        obtain ⟨LB, hLB⟩ : ∃ L, L = T2.map encB := ⟨_, rfl⟩
        have hLBl : LB.length = 258 := by rw [hLB, List.length_map]; exact hTlB
        have HITB := Lib.hid (show (Try.prog.info? 26).map (·.size) = some LB.length by rw [hLBl]; exact page_info)
        rw [← hLB] at HRDB hRTB
        have hATB := hRTB.get (b := pb) (L := LB) (by simp)
        have HLMB := Lib.hid hLB
        have HTLB := Lib.hid hTlB
        clear hLB hLBl hTlB
        refine wp_region_lit ?_
        refine wpList_load_mid rfl 26 _ rfl pb 0 rfl LB _ hATB.1 Try.underlying26 rfl HITB.out ?_
        go_wp2_with (go_at_call 16; refine (HRDB.out _).mono ?_; rintro e wb ⟨AB, nB, cB, rfl, hBB, hbB⟩; have hRaB := hRTB.go hbB; have hXaB := HXX.out.below hRaB.below; have hv0 := hBB.len; simp only [List.length_nil] at hv0; subst hv0)
        go_ret
        exact ⟨rfl, hRaB.below⟩
theorem mends_row (a0 : Int) (w0 : (Lit.int .u8 a0).wf = true) (A : Option Addr) (n c : Nat) (body : List UInt8) (x y : Int) (w : World) (hX : Bs w (.slice A n c) body) :
    Calls Try.prog 6 #[.int .u8 a0, .slice A n c, .agg #[.int .i64 x, .int .i64 y]] w fun e w' => e = .returned (.bool true) ∧ Below w.heap.size w w' := by
  rw [← toB_back w0]
  exact mends_walk (toB a0) A n c body x y w hX
end Go.Proofs.YtljdfhckllncoaaK
