import Derived.Test.YtoeonmdcoiemmaaKHamMs
namespace Go.Proofs.YtoeonmdcoiemmaaK
open Go.RowKit
set_option linter.unusedSimpArgs false
set_option linter.unusedVariables false
set_option maxRecDepth 100000 in
set_option maxHeartbeats 8000000 in
theorem mends_D (bs : List UInt8) (hl : bs.length = 256) (i k : Int) (w : World) (x y : Nat) (hx : x = (i % 65536).toNat % 2061) (hy : y = (k % 65536).toNat % 2061) (hxy : x ≠ y) :
    Calls Try.prog 5 #[.agg (bs.map encB).toArray, .int .i64 i, .int .i64 k] w fun e w' => e = .returned (.bool true) ∧ Below w.heap.size w w' := by
  have hxl : x < 2061 := by rw [hx]; exact Nat.mod_lt _ (by decide)
  have hyl : y < 2061 := by rw [hy]; exact Nat.mod_lt _ (by decide)
  obtain ⟨p, hp⟩ : ∃ p, p = (i % 65536).toNat := ⟨_, rfl⟩
  obtain ⟨q, hq⟩ : ∃ q, q = (k % 65536).toNat := ⟨_, rfl⟩
  have x1 : bits .and .i64 i 65535 = (p : Int) := by rw [and_mask, hp]
  have x2 : bits .and .i64 k 65535 = (q : Int) := by rw [and_mask, hq]
  rw [← hp] at hx
  rw [← hq] at hy
  have x3 : (p : Int) % 2061 = (x : Int) := by omega
  have x4 : (q : Int) % 2061 = (y : Int) := by omega
  have hp0 : (0 : Int) ≤ p := by omega
  have hq0 : (0 : Int) ≤ q := by omega
  have hp9 : (p : Int) < 65536 := by omega
  have hq9 : (q : Int) < 65536 := by omega
  have hx0 : (0 : Int) ≤ x := by omega
  have hy0 : (0 : Int) ≤ y := by omega
  have hkl := chk_lt bs
  have HCk := fun W => check_any bs hl W
  have HF0 := fun W => fix_any bs hl (chk bs) (by omega) W
  rw [fix_whole] at HF0
  have HT1 := fun W => turned_any bs hl (chk bs) (by omega) x hxl W
  have hl1 : (turnR bs (chk bs) x).1.length = 256 := by rw [turn_len]; exact hl
  have hc1 := turn_lt bs (chk bs) x hkl hxl
  have HF1 := fun W => fix_any _ hl1 (turnR bs (chk bs) x).2 (by omega) W
  rw [fix_one bs hl x hxl] at HF1
  have HT2 := fun W => turned_any _ hl1 (turnR bs (chk bs) x).2 (by omega) y hyl W
  have hl2 : (turnR (turnR bs (chk bs) x).1 (turnR bs (chk bs) x).2 y).1.length = 256 := by rw [turn_len]; exact hl1
  have hc2 := turn_lt (turnR bs (chk bs) x).1 (turnR bs (chk bs) x).2 y hc1 hyl
  have HF2 := fun W => fix_any _ hl2 (turnR (turnR bs (chk bs) x).1 (turnR bs (chk bs) x).2 y).2 (by omega) W
  rw [fix_twice bs hl x y hxl hyl hxy] at HF2
  have heq2 := fun w => arr_eql (P := Try.prog) Try.underlying23 Try.underlying5 (by kernel_rfl) (by kernel_rfl) (by kernel_rfl) zeroD zeroD zeroD_len zeroD_len w
  obtain ⟨r2, hr2⟩ : ∃ r, r = zeroD := ⟨_, rfl⟩
  have hrl : r2.length = 256 := by rw [hr2]; exact zeroD_len
  have hxyi : ¬ (x : Int) = (y : Int) := by omega
  simp only [decide_true] at heq2
  have heq := fun w => arr_eql (P := Try.prog) Try.underlying23 Try.underlying5 (by kernel_rfl) (by kernel_rfl) (by kernel_rfl) bs bs hl hl w
  simp only [decide_true] at heq
  dsimp only at HF0 HF1 HF2
  obtain ⟨Z, hZ⟩ : ∃ Z : Array Value, Z = Array.replicate 256 (.int .u8 0) := ⟨_, rfl⟩
  have hZs : Z.size = 256 := by rw [hZ]; simp
  have hZe : (zeroD.map encB).toArray = Z := by rw [hZ]; kernel_rfl
  have hz : ∀ w, (zeroValue 23).run Try.prog w = .ok (.agg Z) w := by rw [hZ]; exact (zero_of_info (P := Try.prog) (t := 23) (v := .agg (Array.replicate 256 (.int .u8 0))) (n := 256) (by kernel_rfl)).1
  obtain ⟨L2, hL2⟩ : ∃ L, L = r2.map encB := ⟨_, rfl⟩
  have heq3 : ∀ w, (Op.equalIn 10000 23 (.agg L2.toArray) (.agg Z)).run Try.prog w = .ok true w := by rw [hL2, hr2, ← hZe]; exact heq2
  have HF2 : ∀ W, Calls Try.prog 15 #[.agg ((turnR (turnR bs (chk bs) x).1 (turnR bs (chk bs) x).2 y).1.map encB).toArray, .int .u16 ((turnR (turnR bs (chk bs) x).1 (turnR bs (chk bs) x).2 y).2 : Int)] W fun e w' => e = .returned (.tuple #[.agg L2.toArray, .int .i64 0, .int .i64 21]) ∧ Below W.heap.size W w' := fun W => by rw [hL2, hr2]; exact HF2 W
  clear heq2
  obtain ⟨d2, hd2⟩ : ∃ d, d = (turnR (turnR bs (chk bs) x).1 (turnR bs (chk bs) x).2 y).1 := ⟨_, rfl⟩
  obtain ⟨c2, hcc2⟩ : ∃ d, d = (turnR (turnR bs (chk bs) x).1 (turnR bs (chk bs) x).2 y).2 := ⟨_, rfl⟩
  rw [← hd2, ← hcc2] at HT2 HF2
  rw [← hd2] at hl2
  rw [← hcc2] at hc2
  obtain ⟨d1, hd1⟩ : ∃ d, d = (turnR bs (chk bs) x).1 := ⟨_, rfl⟩
  obtain ⟨c1, hcc1⟩ : ∃ d, d = (turnR bs (chk bs) x).2 := ⟨_, rfl⟩
  rw [← hd1, ← hcc1] at HT1 HF1 HT2
  rw [← hd1] at hl1
  rw [← hcc1] at hc1
  obtain ⟨c, hcc⟩ : ∃ c, c = chk bs := ⟨_, rfl⟩
  rw [← hcc] at HCk HF0 HT1 hkl
  obtain ⟨D2, hD2⟩ : ∃ L, L = d2.map encB := ⟨_, rfl⟩
  obtain ⟨D1, hD1⟩ : ∃ L, L = d1.map encB := ⟨_, rfl⟩
  obtain ⟨L, hL⟩ : ∃ L, L = bs.map encB := ⟨_, rfl⟩
  rw [← hD2] at HT2 HF2
  rw [← hD1] at HT1 HF1 HT2
  rw [← hL] at HCk HF0 HT1 HF1 heq
  rw [← hL]
  have hLl : L.length = 256 := by rw [hL]; simp [hl]
  have hD1l : D1.length = 256 := by rw [hD1]; simp [hl1]
  have hD2l : D2.length = 256 := by rw [hD2]; simp [hl2]
  have hL2l : L2.length = 256 := by rw [hL2]; simp [hrl]
  have h1L : ∀ v ∈ L, v.oneCell' = true := by rw [hL]; exact encB_all _
  have h1D1 : ∀ v ∈ D1, v.oneCell' = true := by rw [hD1]; exact encB_all _
  have h1D2 : ∀ v ∈ D2, v.oneCell' = true := by rw [hD2]; exact encB_all _
  have h1L2 : ∀ v ∈ L2, v.oneCell' = true := by rw [hL2]; exact encB_all _
  have hi0 : (Try.prog.info? 23).map (·.size) = some 256 := by kernel_rfl
  have HIL := Lib.hid (show (Try.prog.info? 23).map (·.size) = some L.length by rw [hLl]; exact hi0)
  have HIAL := Lib.hid (show (Try.prog.info? 23).map (·.size) = some L.toArray.size by rw [List.size_toArray, hLl]; exact hi0)
  have H1AL : Hid (L.toArray.all (·.oneCell') = true) := Lib.hid (all_oneCell_toArray h1L)
  have HZSL : Hid (Z.size = L.toArray.size) := Lib.hid (by rw [hZs, List.size_toArray, hLl])
  have HZLL : Hid (Z.size = L.length) := Lib.hid (by rw [hZs, hLl])
  have HID1 := Lib.hid (show (Try.prog.info? 23).map (·.size) = some D1.length by rw [hD1l]; exact hi0)
  have HIAD1 := Lib.hid (show (Try.prog.info? 23).map (·.size) = some D1.toArray.size by rw [List.size_toArray, hD1l]; exact hi0)
  have H1AD1 : Hid (D1.toArray.all (·.oneCell') = true) := Lib.hid (all_oneCell_toArray h1D1)
  have HZSD1 : Hid (Z.size = D1.toArray.size) := Lib.hid (by rw [hZs, List.size_toArray, hD1l])
  have HZLD1 : Hid (Z.size = D1.length) := Lib.hid (by rw [hZs, hD1l])
  have HID2 := Lib.hid (show (Try.prog.info? 23).map (·.size) = some D2.length by rw [hD2l]; exact hi0)
  have HIAD2 := Lib.hid (show (Try.prog.info? 23).map (·.size) = some D2.toArray.size by rw [List.size_toArray, hD2l]; exact hi0)
  have H1AD2 : Hid (D2.toArray.all (·.oneCell') = true) := Lib.hid (all_oneCell_toArray h1D2)
  have HZSD2 : Hid (Z.size = D2.toArray.size) := Lib.hid (by rw [hZs, List.size_toArray, hD2l])
  have HZLD2 : Hid (Z.size = D2.length) := Lib.hid (by rw [hZs, hD2l])
  have HIL2 := Lib.hid (show (Try.prog.info? 23).map (·.size) = some L2.length by rw [hL2l]; exact hi0)
  have HIAL2 := Lib.hid (show (Try.prog.info? 23).map (·.size) = some L2.toArray.size by rw [List.size_toArray, hL2l]; exact hi0)
  have H1AL2 : Hid (L2.toArray.all (·.oneCell') = true) := Lib.hid (all_oneCell_toArray h1L2)
  have HZSL2 : Hid (Z.size = L2.toArray.size) := Lib.hid (by rw [hZs, List.size_toArray, hL2l])
  have HZLL2 : Hid (Z.size = L2.length) := Lib.hid (by rw [hZs, hL2l])
  rw [← x3] at HT1
  rw [← x4] at HT2
  rw [← x3, ← x4] at hxyi
  replace hxyi : ((p : Int) % 2061 == (q : Int) % 2061) = false := beq_eq_false_iff_ne.2 hxyi
  have hm1 : (p : Int) % 2061 < 2061 := by omega
  have hm2 : 0 ≤ (p : Int) % 2061 := by omega
  have hm3 : (q : Int) % 2061 < 2061 := by omega
  have hm4 : 0 ≤ (q : Int) % 2061 := by omega
  clear x3 x4
  have HDD : Hid (D1.length = D2.toArray.size) := Lib.hid (by rw [List.size_toArray, hD1l, hD2l])
  have HDE : Hid (D1.length = D2.length) := Lib.hid (by rw [hD1l, hD2l])
  have hgd : Try.prog.eqGuardType Try.prog.depth 23 = false := by kernel_rfl
  replace HCk := Lib.hid HCk
  replace HF0 := Lib.hid HF0
  replace HF1 := Lib.hid HF1
  replace HF2 := Lib.hid HF2
  replace HT1 := Lib.hid HT1
  replace HT2 := Lib.hid HT2
  have hcl : (c : Int) < 8192 := by omega
  have hcl1 : (c1 : Int) < 8192 := by omega
  have hcl2 : (c2 : Int) < 8192 := by omega
  obtain ⟨W, hW⟩ : ∃ W, W = w.alloc (.cells L.toArray 23) := ⟨_, rfl⟩
  obtain ⟨xb, hxb⟩ : ∃ xb, xb = w.heap.size := ⟨_, rfl⟩
  have hb0 : Below w.heap.size w W := by rw [hW]; exact (Below.refl _ _).alloc (Nat.le_refl _) _
  have hrg : W.rangeAt xb 0 L := range_row (by rw [hW, hxb]; exact heap_alloc_new w _)
  have hlx : xb < W.heap.size := by rw [hW, hxb]; simp
  have HGX := Lib.hid (show w.heap.size ≤ W.heap.size from hb0.size)
  clear hd2 hcc2 hd1 hcc1 hcc hD2 hD1 hL hL2 hr2 hrl hl hl1 hl2 hLl hD1l hD2l hL2l h1L h1D1 h1D2 h1L2 hi0 hZ hZs hZe hx hy hxy hp hq hkl hc1 hc2 hxl hyl
  go_enter Try.func5, Try.ntmps5
  go_wp2_with fail
  rw [← hW]
  simp only [← hxb]
  clear hW hxb
  go_wp2_with (first
    | (go_at_call 12; (with_reducible refine (ham_speaks _).mono ?_); rintro e9 w1 ⟨rfl, hb1⟩; have hrx1 := range_below hrg hb1; have hq1 := hb0.trans (hb1.mono hb0.size); have hz1 := Nat.le_trans hlx hb1.size)
    | (refine wpList_load_mid rfl 23 _ rfl xb 0 rfl L _ hrx1 Try.underlying23 rfl HIL.out ?_)
    | (refine wp_load_mid 23 _ rfl xb 0 rfl L _ hrx1 Try.underlying23 rfl HIL.out ?_)
    | (go_at_call 13; (with_reducible refine (HCk.out _).mono ?_); rintro e9 w2 ⟨rfl, hb2⟩; have hrx2 := range_below hrx1 hb2; have hq2 := hq1.trans (hb2.mono hq1.size); have hz2 := Nat.le_trans hz1 hb2.size)
    | (refine wpList_load_mid rfl 23 _ rfl xb 0 rfl L _ hrx2 Try.underlying23 rfl HIL.out ?_)
    | (refine wp_load_mid 23 _ rfl xb 0 rfl L _ hrx2 Try.underlying23 rfl HIL.out ?_)
    | (go_at_call 15; (with_reducible refine (HF0.out _).mono ?_); rintro e9 w3 ⟨rfl, hb3⟩; have hrx3 := range_below hrx2 hb3; have hq3 := hq2.trans (hb3.mono hq2.size); have hz3 := Nat.le_trans hz2 hb3.size)
    | (refine wpList_load_mid rfl 23 _ rfl xb 0 rfl L _ hrx3 Try.underlying23 rfl HIL.out ?_)
    | (refine wp_load_mid 23 _ rfl xb 0 rfl L _ hrx3 Try.underlying23 rfl HIL.out ?_)
    | (refine wpList_store_mid rfl 23 _ _ rfl w3.heap.size 0 L.toArray rfl rfl (by have h := row_there (heap_alloc_new w3 (.cells Z 23)); exact (HZSL.out ▸ h)) HIAL.out H1AL.out ?_; obtain ⟨w4, hw4⟩ : ∃ w' : World, w' = (w3.alloc (.cells Z 23)).setCells w3.heap.size 0 L.toArray.toList := ⟨_, rfl⟩; have hth4 : (w3.alloc (.cells Z 23)).there w3.heap.size 0 L.length := (by have h := row_there (heap_alloc_new w3 (.cells Z 23)); exact (HZLL.out ▸ h)); have hra4 : w4.rangeAt w3.heap.size 0 L := (by rw [hw4]; exact World.rangeAt_setCells_same _ _ _ _ hth4); have hrx4 : w4.rangeAt xb 0 L := (by rw [hw4]; exact World.rangeAt_setCells_apart (World.rangeAt_alloc hrx3 _) _ _ _ (.inl (Nat.ne_of_lt hz3))); have hq4 : Below w.heap.size w w4 := (by rw [hw4]; exact below_setC hq3.size _ _ (hq3.alloc hq3.size _)); have hg4 : w3.heap.size < w4.heap.size := (by rw [hw4]; exact size_setC _ _ _); have hz4 := Nat.lt_trans hz3 hg4; have hza4 : w3.heap.size < w4.heap.size := hg4; rw [← hw4]; clear hw4 hth4)
    | (refine wpList_load_mid rfl 23 _ rfl xb 0 rfl L _ hrx4 Try.underlying23 rfl HIL.out ?_)
    | (refine wp_load_mid 23 _ rfl xb 0 rfl L _ hrx4 Try.underlying23 rfl HIL.out ?_)
    | (refine wpList_load_mid rfl 23 _ rfl w3.heap.size 0 rfl L _ hra4 Try.underlying23 rfl HIL.out ?_)
    | (refine wp_load_mid 23 _ rfl w3.heap.size 0 rfl L _ hra4 Try.underlying23 rfl HIL.out ?_)
    | (go_at_call 17; (with_reducible refine (HT1.out _).mono ?_); rintro e9 w5 ⟨rfl, hb5⟩; have hrx5 := range_below hrx4 hb5; have hra5 := range_below hra4 hb5; have hq5 := hq4.trans (hb5.mono hq4.size); have hz5 := Nat.le_trans hz4 hb5.size; have hza5 := Nat.le_trans hza4 hb5.size)
    | (refine wpList_load_mid rfl 23 _ rfl xb 0 rfl L _ hrx5 Try.underlying23 rfl HIL.out ?_)
    | (refine wp_load_mid 23 _ rfl xb 0 rfl L _ hrx5 Try.underlying23 rfl HIL.out ?_)
    | (refine wpList_load_mid rfl 23 _ rfl w3.heap.size 0 rfl L _ hra5 Try.underlying23 rfl HIL.out ?_)
    | (refine wp_load_mid 23 _ rfl w3.heap.size 0 rfl L _ hra5 Try.underlying23 rfl HIL.out ?_)
    | (refine wpList_store_mid rfl 23 _ _ rfl w5.heap.size 0 D1.toArray rfl rfl (by have h := row_there (heap_alloc_new w5 (.cells Z 23)); exact (HZSD1.out ▸ h)) HIAD1.out H1AD1.out ?_; obtain ⟨w6, hw6⟩ : ∃ w' : World, w' = (w5.alloc (.cells Z 23)).setCells w5.heap.size 0 D1.toArray.toList := ⟨_, rfl⟩; have hth6 : (w5.alloc (.cells Z 23)).there w5.heap.size 0 D1.length := (by have h := row_there (heap_alloc_new w5 (.cells Z 23)); exact (HZLD1.out ▸ h)); have hrb6 : w6.rangeAt w5.heap.size 0 D1 := (by rw [hw6]; exact World.rangeAt_setCells_same _ _ _ _ hth6); have hrx6 : w6.rangeAt xb 0 L := (by rw [hw6]; exact World.rangeAt_setCells_apart (World.rangeAt_alloc hrx5 _) _ _ _ (.inl (Nat.ne_of_lt hz5))); have hra6 : w6.rangeAt w3.heap.size 0 L := (by rw [hw6]; exact World.rangeAt_setCells_apart (World.rangeAt_alloc hra5 _) _ _ _ (.inl (Nat.ne_of_lt hza5))); have htb6 : w6.there w5.heap.size 0 D1.length := (by rw [hw6]; exact World.there_setCells hth6 _ _ _); have hq6 : Below w.heap.size w w6 := (by rw [hw6]; exact below_setC hq5.size _ _ (hq5.alloc hq5.size _)); have hg6 : w5.heap.size < w6.heap.size := (by rw [hw6]; exact size_setC _ _ _); have hz6 := Nat.lt_trans hz5 hg6; have hza6 := Nat.lt_trans hza5 hg6; have hzb6 : w5.heap.size < w6.heap.size := hg6; rw [← hw6]; clear hw6 hth6)
    | (refine wpList_load_mid rfl 23 _ rfl xb 0 rfl L _ hrx6 Try.underlying23 rfl HIL.out ?_)
    | (refine wp_load_mid 23 _ rfl xb 0 rfl L _ hrx6 Try.underlying23 rfl HIL.out ?_)
    | (refine wpList_load_mid rfl 23 _ rfl w3.heap.size 0 rfl L _ hra6 Try.underlying23 rfl HIL.out ?_)
    | (refine wp_load_mid 23 _ rfl w3.heap.size 0 rfl L _ hra6 Try.underlying23 rfl HIL.out ?_)
    | (refine wpList_load_mid rfl 23 _ rfl w5.heap.size 0 rfl D1 _ hrb6 Try.underlying23 rfl HID1.out ?_)
    | (refine wp_load_mid 23 _ rfl w5.heap.size 0 rfl D1 _ hrb6 Try.underlying23 rfl HID1.out ?_)
    | (go_at_call 15; (with_reducible refine (HF1.out _).mono ?_); rintro e9 w7 ⟨rfl, hb7⟩; have hrx7 := range_below hrx6 hb7; have hra7 := range_below hra6 hb7; have hrb7 := range_below hrb6 hb7; have htb7 := there_below htb6 hb7 hzb6; have hq7 := hq6.trans (hb7.mono hq6.size); have hz7 := Nat.le_trans hz6 hb7.size; have hza7 := Nat.le_trans hza6 hb7.size; have hzb7 := Nat.le_trans hzb6 hb7.size)
    | (refine wpList_load_mid rfl 23 _ rfl xb 0 rfl L _ hrx7 Try.underlying23 rfl HIL.out ?_)
    | (refine wp_load_mid 23 _ rfl xb 0 rfl L _ hrx7 Try.underlying23 rfl HIL.out ?_)
    | (refine wpList_load_mid rfl 23 _ rfl w3.heap.size 0 rfl L _ hra7 Try.underlying23 rfl HIL.out ?_)
    | (refine wp_load_mid 23 _ rfl w3.heap.size 0 rfl L _ hra7 Try.underlying23 rfl HIL.out ?_)
    | (refine wpList_load_mid rfl 23 _ rfl w5.heap.size 0 rfl D1 _ hrb7 Try.underlying23 rfl HID1.out ?_)
    | (refine wp_load_mid 23 _ rfl w5.heap.size 0 rfl D1 _ hrb7 Try.underlying23 rfl HID1.out ?_)
    | (refine wpList_store_mid rfl 23 _ _ rfl w7.heap.size 0 L.toArray rfl rfl (by have h := row_there (heap_alloc_new w7 (.cells Z 23)); exact (HZSL.out ▸ h)) HIAL.out H1AL.out ?_; obtain ⟨w8, hw8⟩ : ∃ w' : World, w' = (w7.alloc (.cells Z 23)).setCells w7.heap.size 0 L.toArray.toList := ⟨_, rfl⟩; have hth8 : (w7.alloc (.cells Z 23)).there w7.heap.size 0 L.length := (by have h := row_there (heap_alloc_new w7 (.cells Z 23)); exact (HZLL.out ▸ h)); have hre8 : w8.rangeAt w7.heap.size 0 L := (by rw [hw8]; exact World.rangeAt_setCells_same _ _ _ _ hth8); have hrx8 : w8.rangeAt xb 0 L := (by rw [hw8]; exact World.rangeAt_setCells_apart (World.rangeAt_alloc hrx7 _) _ _ _ (.inl (Nat.ne_of_lt hz7))); have hra8 : w8.rangeAt w3.heap.size 0 L := (by rw [hw8]; exact World.rangeAt_setCells_apart (World.rangeAt_alloc hra7 _) _ _ _ (.inl (Nat.ne_of_lt hza7))); have hrb8 : w8.rangeAt w5.heap.size 0 D1 := (by rw [hw8]; exact World.rangeAt_setCells_apart (World.rangeAt_alloc hrb7 _) _ _ _ (.inl (Nat.ne_of_lt hzb7))); have htb8 : w8.there w5.heap.size 0 D1.length := (by rw [hw8]; exact World.there_setCells (World.there_alloc htb7 _) _ _ _); have hq8 : Below w.heap.size w w8 := (by rw [hw8]; exact below_setC hq7.size _ _ (hq7.alloc hq7.size _)); have hg8 : w7.heap.size < w8.heap.size := (by rw [hw8]; exact size_setC _ _ _); have hz8 := Nat.lt_trans hz7 hg8; have hza8 := Nat.lt_trans hza7 hg8; have hzb8 := Nat.lt_trans hzb7 hg8; have hze8 : w7.heap.size < w8.heap.size := hg8; rw [← hw8]; clear hw8 hth8)
    | (refine wpList_load_mid rfl 23 _ rfl xb 0 rfl L _ hrx8 Try.underlying23 rfl HIL.out ?_)
    | (refine wp_load_mid 23 _ rfl xb 0 rfl L _ hrx8 Try.underlying23 rfl HIL.out ?_)
    | (refine wpList_load_mid rfl 23 _ rfl w3.heap.size 0 rfl L _ hra8 Try.underlying23 rfl HIL.out ?_)
    | (refine wp_load_mid 23 _ rfl w3.heap.size 0 rfl L _ hra8 Try.underlying23 rfl HIL.out ?_)
    | (refine wpList_load_mid rfl 23 _ rfl w5.heap.size 0 rfl D1 _ hrb8 Try.underlying23 rfl HID1.out ?_)
    | (refine wp_load_mid 23 _ rfl w5.heap.size 0 rfl D1 _ hrb8 Try.underlying23 rfl HID1.out ?_)
    | (refine wpList_load_mid rfl 23 _ rfl w7.heap.size 0 rfl L _ hre8 Try.underlying23 rfl HIL.out ?_)
    | (refine wp_load_mid 23 _ rfl w7.heap.size 0 rfl L _ hre8 Try.underlying23 rfl HIL.out ?_)
    | (go_at_call 17; (with_reducible refine (HT2.out _).mono ?_); rintro e9 w9 ⟨rfl, hb9⟩; have hrx9 := range_below hrx8 hb9; have hra9 := range_below hra8 hb9; have hrb9 := range_below hrb8 hb9; have hre9 := range_below hre8 hb9; have htb9 := there_below htb8 hb9 hzb8; have hq9 := hq8.trans (hb9.mono hq8.size); have hz9 := Nat.le_trans hz8 hb9.size; have hza9 := Nat.le_trans hza8 hb9.size; have hzb9 := Nat.le_trans hzb8 hb9.size; have hze9 := Nat.le_trans hze8 hb9.size)
    | (refine wpList_load_mid rfl 23 _ rfl xb 0 rfl L _ hrx9 Try.underlying23 rfl HIL.out ?_)
    | (refine wp_load_mid 23 _ rfl xb 0 rfl L _ hrx9 Try.underlying23 rfl HIL.out ?_)
    | (refine wpList_load_mid rfl 23 _ rfl w3.heap.size 0 rfl L _ hra9 Try.underlying23 rfl HIL.out ?_)
    | (refine wp_load_mid 23 _ rfl w3.heap.size 0 rfl L _ hra9 Try.underlying23 rfl HIL.out ?_)
    | (refine wpList_load_mid rfl 23 _ rfl w5.heap.size 0 rfl D1 _ hrb9 Try.underlying23 rfl HID1.out ?_)
    | (refine wp_load_mid 23 _ rfl w5.heap.size 0 rfl D1 _ hrb9 Try.underlying23 rfl HID1.out ?_)
    | (refine wpList_load_mid rfl 23 _ rfl w7.heap.size 0 rfl L _ hre9 Try.underlying23 rfl HIL.out ?_)
    | (refine wp_load_mid 23 _ rfl w7.heap.size 0 rfl L _ hre9 Try.underlying23 rfl HIL.out ?_)
    | (refine wpList_store_mid rfl 23 _ _ rfl w5.heap.size 0 D2.toArray rfl rfl (HDD.out ▸ htb9) HIAD2.out H1AD2.out ?_; obtain ⟨w10, hw10⟩ : ∃ w' : World, w' = w9.setCells w5.heap.size 0 D2.toArray.toList := ⟨_, rfl⟩; have hrb10 : w10.rangeAt w5.heap.size 0 D2 := (by rw [hw10]; exact World.rangeAt_setCells_same _ _ _ _ (HDE.out ▸ htb9)); have hrx10 : w10.rangeAt xb 0 L := (by rw [hw10]; exact World.rangeAt_setCells_apart hrx9 _ _ _ (.inl (Nat.ne_of_lt hz5))); have hra10 : w10.rangeAt w3.heap.size 0 L := (by rw [hw10]; exact World.rangeAt_setCells_apart hra9 _ _ _ (.inl (Nat.ne_of_lt hza5))); have hre10 : w10.rangeAt w7.heap.size 0 L := (by rw [hw10]; exact World.rangeAt_setCells_apart hre9 _ _ _ (.inl (Nat.ne_of_gt hzb7))); have hq10 : Below w.heap.size w w10 := (by rw [hw10]; exact below_setC hq5.size _ _ hq9); have hg10 : w9.heap.size ≤ w10.heap.size := (by rw [hw10]; exact size_setC0 _ _ _ _); have hz10 := Nat.le_trans hz9 hg10; have hza10 := Nat.le_trans hza9 hg10; have hzb10 := Nat.le_trans hzb9 hg10; have hze10 := Nat.le_trans hze9 hg10; rw [← hw10]; clear hw10)
    | (refine wpList_load_mid rfl 23 _ rfl xb 0 rfl L _ hrx10 Try.underlying23 rfl HIL.out ?_)
    | (refine wp_load_mid 23 _ rfl xb 0 rfl L _ hrx10 Try.underlying23 rfl HIL.out ?_)
    | (refine wpList_load_mid rfl 23 _ rfl w3.heap.size 0 rfl L _ hra10 Try.underlying23 rfl HIL.out ?_)
    | (refine wp_load_mid 23 _ rfl w3.heap.size 0 rfl L _ hra10 Try.underlying23 rfl HIL.out ?_)
    | (refine wpList_load_mid rfl 23 _ rfl w5.heap.size 0 rfl D2 _ hrb10 Try.underlying23 rfl HID2.out ?_)
    | (refine wp_load_mid 23 _ rfl w5.heap.size 0 rfl D2 _ hrb10 Try.underlying23 rfl HID2.out ?_)
    | (refine wpList_load_mid rfl 23 _ rfl w7.heap.size 0 rfl L _ hre10 Try.underlying23 rfl HIL.out ?_)
    | (refine wp_load_mid 23 _ rfl w7.heap.size 0 rfl L _ hre10 Try.underlying23 rfl HIL.out ?_)
    | (go_at_call 15; (with_reducible refine (HF2.out _).mono ?_); rintro e9 w11 ⟨rfl, hb11⟩; have hrx11 := range_below hrx10 hb11; have hra11 := range_below hra10 hb11; have hrb11 := range_below hrb10 hb11; have hre11 := range_below hre10 hb11; have hq11 := hq10.trans (hb11.mono hq10.size); have hz11 := Nat.le_trans hz10 hb11.size; have hza11 := Nat.le_trans hza10 hb11.size; have hzb11 := Nat.le_trans hzb10 hb11.size; have hze11 := Nat.le_trans hze10 hb11.size)
    | (refine wpList_load_mid rfl 23 _ rfl xb 0 rfl L _ hrx11 Try.underlying23 rfl HIL.out ?_)
    | (refine wp_load_mid 23 _ rfl xb 0 rfl L _ hrx11 Try.underlying23 rfl HIL.out ?_)
    | (refine wpList_load_mid rfl 23 _ rfl w3.heap.size 0 rfl L _ hra11 Try.underlying23 rfl HIL.out ?_)
    | (refine wp_load_mid 23 _ rfl w3.heap.size 0 rfl L _ hra11 Try.underlying23 rfl HIL.out ?_)
    | (refine wpList_load_mid rfl 23 _ rfl w5.heap.size 0 rfl D2 _ hrb11 Try.underlying23 rfl HID2.out ?_)
    | (refine wp_load_mid 23 _ rfl w5.heap.size 0 rfl D2 _ hrb11 Try.underlying23 rfl HID2.out ?_)
    | (refine wpList_load_mid rfl 23 _ rfl w7.heap.size 0 rfl L _ hre11 Try.underlying23 rfl HIL.out ?_)
    | (refine wp_load_mid 23 _ rfl w7.heap.size 0 rfl L _ hre11 Try.underlying23 rfl HIL.out ?_)
    | (refine wpList_store_mid rfl 23 _ _ rfl w11.heap.size 0 L2.toArray rfl rfl (by have h := row_there (heap_alloc_new w11 (.cells Z 23)); exact (HZSL2.out ▸ h)) HIAL2.out H1AL2.out ?_; obtain ⟨w12, hw12⟩ : ∃ w' : World, w' = (w11.alloc (.cells Z 23)).setCells w11.heap.size 0 L2.toArray.toList := ⟨_, rfl⟩; have hth12 : (w11.alloc (.cells Z 23)).there w11.heap.size 0 L2.length := (by have h := row_there (heap_alloc_new w11 (.cells Z 23)); exact (HZLL2.out ▸ h)); have hrf12 : w12.rangeAt w11.heap.size 0 L2 := (by rw [hw12]; exact World.rangeAt_setCells_same _ _ _ _ hth12); have hrx12 : w12.rangeAt xb 0 L := (by rw [hw12]; exact World.rangeAt_setCells_apart (World.rangeAt_alloc hrx11 _) _ _ _ (.inl (Nat.ne_of_lt hz11))); have hra12 : w12.rangeAt w3.heap.size 0 L := (by rw [hw12]; exact World.rangeAt_setCells_apart (World.rangeAt_alloc hra11 _) _ _ _ (.inl (Nat.ne_of_lt hza11))); have hre12 : w12.rangeAt w7.heap.size 0 L := (by rw [hw12]; exact World.rangeAt_setCells_apart (World.rangeAt_alloc hre11 _) _ _ _ (.inl (Nat.ne_of_lt hze11))); have hq12 : Below w.heap.size w w12 := (by rw [hw12]; exact below_setC hq11.size _ _ (hq11.alloc hq11.size _)); have hg12 : w11.heap.size < w12.heap.size := (by rw [hw12]; exact size_setC _ _ _); have hz12 := Nat.lt_trans hz11 hg12; have hza12 := Nat.lt_trans hza11 hg12; have hze12 := Nat.lt_trans hze11 hg12; have hzf12 : w11.heap.size < w12.heap.size := hg12; rw [← hw12]; clear hw12 hth12)
    | (refine wpList_load_mid rfl 23 _ rfl xb 0 rfl L _ hrx12 Try.underlying23 rfl HIL.out ?_)
    | (refine wp_load_mid 23 _ rfl xb 0 rfl L _ hrx12 Try.underlying23 rfl HIL.out ?_)
    | (refine wpList_load_mid rfl 23 _ rfl w3.heap.size 0 rfl L _ hra12 Try.underlying23 rfl HIL.out ?_)
    | (refine wp_load_mid 23 _ rfl w3.heap.size 0 rfl L _ hra12 Try.underlying23 rfl HIL.out ?_)
    | (refine wpList_load_mid rfl 23 _ rfl w7.heap.size 0 rfl L _ hre12 Try.underlying23 rfl HIL.out ?_)
    | (refine wp_load_mid 23 _ rfl w7.heap.size 0 rfl L _ hre12 Try.underlying23 rfl HIL.out ?_)
    | (refine wpList_load_mid rfl 23 _ rfl w11.heap.size 0 rfl L2 _ hrf12 Try.underlying23 rfl HIL2.out ?_)
    | (refine wp_load_mid 23 _ rfl w11.heap.size 0 rfl L2 _ hrf12 Try.underlying23 rfl HIL2.out ?_))
  refine wp_load_mid 23 _ rfl w7.heap.size 0 rfl L _ hre12 Try.underlying23 rfl HIL.out ?_
  go_wp2_with fail
  refine wp_load_mid 23 _ rfl xb 0 rfl L _ hrx12 Try.underlying23 rfl HIL.out ?_
  go_wp2_with (first
    | (refine wpList_load_mid rfl 23 _ rfl xb 0 rfl L _ hrx12 Try.underlying23 rfl HIL.out ?_)
    | (refine wp_load_mid 23 _ rfl xb 0 rfl L _ hrx12 Try.underlying23 rfl HIL.out ?_)
    | (refine wpList_load_mid rfl 23 _ rfl w3.heap.size 0 rfl L _ hra12 Try.underlying23 rfl HIL.out ?_)
    | (refine wp_load_mid 23 _ rfl w3.heap.size 0 rfl L _ hra12 Try.underlying23 rfl HIL.out ?_)
    | (refine wpList_load_mid rfl 23 _ rfl w7.heap.size 0 rfl L _ hre12 Try.underlying23 rfl HIL.out ?_)
    | (refine wp_load_mid 23 _ rfl w7.heap.size 0 rfl L _ hre12 Try.underlying23 rfl HIL.out ?_)
    | (refine wpList_load_mid rfl 23 _ rfl w11.heap.size 0 rfl L2 _ hrf12 Try.underlying23 rfl HIL2.out ?_)
    | (refine wp_load_mid 23 _ rfl w11.heap.size 0 rfl L2 _ hrf12 Try.underlying23 rfl HIL2.out ?_))
  go_ret
  exact ⟨rfl, hq12⟩
set_option maxRecDepth 100000 in
theorem hamMends_walk (bs : List UInt8) (hl : bs.length = 256) (i k : Int) (w : World) :
    Calls Try.prog 5 #[.agg (bs.map encB).toArray, .int .i64 i, .int .i64 k] w fun e w' => e = .returned (.bool true) ∧ Below w.heap.size w w' := by
  by_cases h : (i % 65536).toNat % 2061 = (k % 65536).toNat % 2061
  · exact mends_S bs hl i k w ((i % 65536).toNat % 2061) ((k % 65536).toNat % 2061) rfl rfl h
  · exact mends_D bs hl i k w ((i % 65536).toNat % 2061) ((k % 65536).toNat % 2061) rfl rfl h
end Go.Proofs.YtoeonmdcoiemmaaK
