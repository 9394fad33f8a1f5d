import Derived.Test.YtoeonmdcoiemmaaKHamM
import Derived.Test.YtoeonmdcoiemmaaKHamAb
namespace Go.Proofs.YtoeonmdcoiemmaaK
open Go.RowKit
set_option linter.unusedSimpArgs false
set_option linter.unusedVariables false
theorem flip_cells (bs : List UInt8) (hl : bs.length = 256) (i : Nat) (hi : i < 2048) :
    (bs.map encB).toArray.setIfInBounds (i / 8) (.int .u8 (bits .xor .u8 ((bs.getD (i / 8) 0).toNat : Int) ((2 : Int) ^ (i % 8) % 256))) = ((flipD bs i).map encB).toArray := by
  have hx8 : (bs.getD (i / 8) 0).toNat < 256 := (bs.getD (i / 8) 0).toNat_lt
  have hrl : i % 8 < 8 := Nat.mod_lt _ (by decide)
  have hyl : (bs.getD (i / 8) 0).toNat ^^^ 2 ^ (i % 8) < 256 := Nat.xor_lt_two_pow (n := 8) hx8 (by have := Nat.pow_lt_pow_right (a := 2) (by decide) hrl; simpa using this)
  rw [u8_flip _ _ hx8 hrl]
  unfold flipD
  rw [List.map_set, List.setIfInBounds_toArray]
  congr 2
  show _ = Value.int .u8 _
  rw [UInt8.toNat_ofNat_of_lt' hyl]
theorem flip_cell (bs : List UInt8) (hl : bs.length = 256) (q : Nat) (hq : q < 256) : (bs.map encB).toArray[q]? = some (.int .u8 ((bs.getD q 0).toNat : Int)) := by
  rw [List.getElem?_toArray, List.getElem?_map, List.getElem?_eq_getElem (by omega), List.getD_eq_getElem?_getD, List.getElem?_eq_getElem (by omega)]
  rfl
set_option maxRecDepth 100000 in
set_option maxHeartbeats 4000000 in
theorem turned_lo (bs : List UInt8) (hl : bs.length = 256) (c : Nat) (hc : c < 65536) (i : Nat) (hi : i < 2048) (w : World) :
    Calls Try.prog 17 #[.agg (bs.map encB).toArray, .int .u16 (c : Int), .int .i64 (i : Int)] w fun e w' => e = .returned (.tuple #[.agg ((flipD bs i).map encB).toArray, .int .u16 (c : Int)]) ∧ Below w.heap.size w w' := by
  have hi0 : (Try.prog.info? 23).map (·.size) = some 256 := by kernel_rfl
  have hfc := flip_cells bs hl i hi
  obtain ⟨q, hqe⟩ : ∃ q, q = i / 8 := ⟨_, rfl⟩
  obtain ⟨r, hre⟩ : ∃ r, r = i % 8 := ⟨_, rfl⟩
  have hqs := flip_cell bs hl q (by omega)
  rw [← hqe, ← hre] at hfc
  obtain ⟨x, hx⟩ : ∃ x, x = (bs.getD q 0).toNat := ⟨_, rfl⟩
  have hx8 : x < 256 := by rw [hx]; exact (bs.getD q 0).toNat_lt
  rw [← hx] at hqs hfc
  obtain ⟨C, hC⟩ : ∃ C, C = (bs.map encB).toArray := ⟨_, rfl⟩
  have hCs : C.size = 256 := by rw [hC]; simp [hl]
  obtain ⟨C2, hC2⟩ : ∃ C, C = ((flipD bs i).map encB).toArray := ⟨_, rfl⟩
  have hC2s : C2.size = 256 := by rw [hC2]; simp [flipD, hl]
  have H1C2 : Hid (C2.all (·.oneCell') = true) := Lib.hid (by rw [hC2]; exact all_oneCell_toArray (encB_all _))
  have HI2 := Lib.hid (show (Try.prog.info? 23).map (·.size) = some C2.size by rw [hC2s]; kernel_rfl)
  rw [← hC] at hfc hqs ⊢
  rw [← hC2] at hfc ⊢
  have hql : q < C.size := by omega
  have hxC2 : C[q] = .int .u8 (x : Int) := by rw [Array.getElem?_eq_getElem hql] at hqs; exact Option.some.inj hqs
  obtain ⟨Z, hZ⟩ : ∃ Z : Array Value, Z = Array.replicate 256 (.int .u8 0) := ⟨_, rfl⟩
  have hZs : Z.size = 256 := by rw [hZ]; simp
  have hz : ∀ w, (zeroValue 23).run Try.prog w = .ok (.agg Z) w := by rw [hZ]; exact (zero_of_info (P := Try.prog) (t := 23) (v := .agg (Array.replicate 256 (.int .u8 0))) (n := 256) (by kernel_rfl)).1
  have HSZ2 : Hid (Z.size = C2.size) := Lib.hid (by rw [hC2s, hZs])
  have h4i : (i : Int) < 2048 := by omega
  have x5 : (i : Int) / 8 = (q : Int) := by omega
  have x6 : (i : Int) % 8 = (r : Int) := by omega
  have hqli : (q : Int) < 256 := by omega
  have hrl : r < 8 := by omega
  have hrli : (r : Int) < 8 := by omega
  have hrl0 : (0 : Int) ≤ (r : Int) := by omega
  have hi0' : (0 : Int) ≤ i := by omega
  have hq0 : (0 : Int) ≤ q := by omega
  have hc0 : (0 : Int) ≤ c := by omega
  have HFC := Lib.hid hfc
  clear hi0 hCs hC hZ hZs hC2s hC2 hx hqe hre hfc
  go_enter Try.func17, Try.ntmps17
  go_wp2_with fail
  rw [HFC.out]
  obtain ⟨W, hW⟩ : ∃ W, W = (w.alloc (.cells C2 23)).alloc (.cells Z 23) := ⟨_, rfl⟩
  obtain ⟨xb, hxb⟩ : ∃ xb, xb = w.heap.size := ⟨_, rfl⟩
  obtain ⟨rb, hrb⟩ : ∃ rb, rb = xb + 1 := ⟨_, rfl⟩
  have hb0 : Below w.heap.size w W := by rw [hW]; exact ((Below.refl _ _).alloc (Nat.le_refl _) _).alloc (by simp) _
  have hrx : W.heap[xb]? = some (.cells C2 23 (0, 0)) := by
    rw [hW, hxb]
    exact (((Below.refl _ (w.alloc (.cells C2 23))).alloc (Nat.le_refl _) (.cells Z 23)).block w.heap.size (by simp)).trans (heap_alloc_new w _)
  have hrr : W.heap[rb]? = some (.cells Z 23 (0, 0)) := by
    have h0 := heap_alloc_new (w.alloc (.cells C2 23)) (.cells Z 23)
    rw [show (w.alloc (.cells C2 23)).heap.size = rb from by rw [hrb, hxb]; simp, ← hW] at h0
    exact h0
  have HGR := Lib.hid (show w.heap.size ≤ rb by omega)
  rw [← hW]
  simp only [← hxb]
  simp only [← hrb]
  clear hW hxb hrb hqs hxC2 x5 x6
  refine wp_load_row 23 _ rfl xb rfl 23 C2 (0, 0) _ hrx Try.underlying23 rfl HI2.out ?_
  go_wp2_with (first
    | (refine wpList_store_mid rfl 23 _ _ rfl rb 0 C2 rfl rfl (by have h := row_there hrr; exact (HSZ2.out ▸ h)) HI2.out H1C2.out ?_))
  have hth : W.there rb 0 C2.toList.length := by have h := row_there hrr; rw [Array.length_toList]; exact (HSZ2.out ▸ h)
  have HLD := Lib.hid (run_loadVar_mid (P := Try.prog) (W.setCells rb 0 C2.toList) rb 0 23 C2.toList _ (World.rangeAt_setCells_same _ _ _ _ hth) Try.underlying23 rfl (by rw [Array.length_toList]; exact HI2.out))
  rw [Array.toArray_toList] at HLD
  have hqf := below_setC HGR.out C2.toList 0 hb0
  refine bodyPost_ret (v := .tuple #[.agg C2, .int .u16 c]) ?_ rfl ⟨rfl, hqf⟩
  rw [results_cell_tmp rfl]
  simp [asAddr, Result.andThen, HLD.out]
set_option maxRecDepth 100000 in
set_option maxHeartbeats 4000000 in
theorem turned_hi (bs : List UInt8) (hl : bs.length = 256) (c : Nat) (hc : c < 65536) (i : Nat) (hi : 2048 ≤ i) (hi2 : i < 2061) (w : World) :
    Calls Try.prog 17 #[.agg (bs.map encB).toArray, .int .u16 (c : Int), .int .i64 (i : Int)] w fun e w' => e = .returned (.tuple #[.agg (bs.map encB).toArray, .int .u16 ((c ^^^ 2 ^ (i - 2048) : Nat) : Int)]) ∧ Below w.heap.size w w' := by
  have hi0 : (Try.prog.info? 23).map (·.size) = some 256 := by kernel_rfl
  obtain ⟨C2, hC2⟩ : ∃ C, C = (bs.map encB).toArray := ⟨_, rfl⟩
  have hC2s : C2.size = 256 := by rw [hC2]; simp [hl]
  have H1C2 : Hid (C2.all (·.oneCell') = true) := Lib.hid (by rw [hC2]; exact all_oneCell_toArray (encB_all _))
  have HI2 := Lib.hid (show (Try.prog.info? 23).map (·.size) = some C2.size by rw [hC2s]; kernel_rfl)
  rw [← hC2]
  obtain ⟨Z, hZ⟩ : ∃ Z : Array Value, Z = Array.replicate 256 (.int .u8 0) := ⟨_, rfl⟩
  have hZs : Z.size = 256 := by rw [hZ]; simp
  have hz : ∀ w, (zeroValue 23).run Try.prog w = .ok (.agg Z) w := by rw [hZ]; exact (zero_of_info (P := Try.prog) (t := 23) (v := .agg (Array.replicate 256 (.int .u8 0))) (n := 256) (by kernel_rfl)).1
  have HSZ2 : Hid (Z.size = C2.size) := Lib.hid (by rw [hC2s, hZs])
  obtain ⟨r, hr⟩ : ∃ r, r = i - 2048 := ⟨_, rfl⟩
  rw [← hr]
  have hii : (i : Int) = 2048 + (r : Int) := by omega
  have hr13 : r < 13 := by omega
  have hp : 2 ^ r ≤ 4096 := by
    have := Nat.pow_le_pow_right (n := 2) (by decide) (show r ≤ 12 by omega); rw [show (2 : Nat) ^ 12 = 4096 from rfl] at this; exact this
  obtain ⟨d, hd⟩ : ∃ d, d = c ^^^ 2 ^ r := ⟨_, rfl⟩
  have x2 : bits .xor .u16 (c : Int) (IntKind.u16.wrap ((2 : Int) ^ r)) = (d : Int) := by
    have e : ∀ k : Fin 13, IntKind.u16.wrap ((2 : Int) ^ k.val) = ((2 ^ k.val : Nat) : Int) := by decide +kernel
    rw [hd, ← u16_xor_nat c (2 ^ r) hc (by omega)]
    congr 1
    exact e ⟨r, hr13⟩
  have x1 : (i : Int) - 2048 = (r : Int) := by omega
  rw [← hd]
  have h4i : ¬ ((i : Int) < 2048) := by omega
  have hri : (r : Int) < 13 := by omega
  have hri0 : (0 : Int) ≤ r := by omega
  have hii2 : (i : Int) < 2061 := by omega
  have hii3 : (2048 : Int) ≤ i := by omega
  clear hi0 hC2s hC2 hZ hZs hr hd hii hp
  go_enter Try.func17, Try.ntmps17
  go_wp2_with fail
  obtain ⟨W, hW⟩ : ∃ W, W = (w.alloc (.cells C2 23)).alloc (.cells Z 23) := ⟨_, rfl⟩
  obtain ⟨xb, hxb⟩ : ∃ xb, xb = w.heap.size := ⟨_, rfl⟩
  obtain ⟨rb, hrb⟩ : ∃ rb, rb = xb + 1 := ⟨_, rfl⟩
  have hb0 : Below w.heap.size w W := by rw [hW]; exact ((Below.refl _ _).alloc (Nat.le_refl _) _).alloc (by simp) _
  have hrx : W.heap[xb]? = some (.cells C2 23 (0, 0)) := by
    rw [hW, hxb]
    exact (((Below.refl _ (w.alloc (.cells C2 23))).alloc (Nat.le_refl _) (.cells Z 23)).block w.heap.size (by simp)).trans (heap_alloc_new w _)
  have hrr : W.heap[rb]? = some (.cells Z 23 (0, 0)) := by
    have h0 := heap_alloc_new (w.alloc (.cells C2 23)) (.cells Z 23)
    rw [show (w.alloc (.cells C2 23)).heap.size = rb from by rw [hrb, hxb]; simp, ← hW] at h0
    exact h0
  have HGR := Lib.hid (show w.heap.size ≤ rb by omega)
  rw [← hW]
  simp only [← hxb]
  simp only [← hrb]
  clear hW hxb hrb
  refine wp_load_row 23 _ rfl xb rfl 23 C2 (0, 0) _ hrx Try.underlying23 rfl HI2.out ?_
  go_wp2_with (first
    | (refine wpList_store_mid rfl 23 _ _ rfl rb 0 C2 rfl rfl (by have h := row_there hrr; exact (HSZ2.out ▸ h)) HI2.out H1C2.out ?_))
  have hth : W.there rb 0 C2.toList.length := by have h := row_there hrr; rw [Array.length_toList]; exact (HSZ2.out ▸ h)
  have HLD := Lib.hid (run_loadVar_mid (P := Try.prog) (W.setCells rb 0 C2.toList) rb 0 23 C2.toList _ (World.rangeAt_setCells_same _ _ _ _ hth) Try.underlying23 rfl (by rw [Array.length_toList]; exact HI2.out))
  rw [Array.toArray_toList] at HLD
  have hqf := below_setC HGR.out C2.toList 0 hb0
  refine bodyPost_ret (v := .tuple #[.agg C2, .int .u16 d]) ?_ rfl ⟨rfl, hqf⟩
  rw [results_cell_tmp rfl]
  simp [asAddr, Result.andThen, HLD.out]
theorem turned_any (bs : List UInt8) (hl : bs.length = 256) (c : Nat) (hc : c < 65536) (i : Nat) (hi : i < 2061) (w : World) :
    Calls Try.prog 17 #[.agg (bs.map encB).toArray, .int .u16 (c : Int), .int .i64 (i : Int)] w fun e w' => e = .returned (.tuple #[.agg ((turnR bs c i).1.map encB).toArray, .int .u16 ((turnR bs c i).2 : Int)]) ∧ Below w.heap.size w w' := by
  unfold turnR
  by_cases h : i < 2048
  · rw [if_pos h]; exact turned_lo bs hl c hc i h w
  · rw [if_neg h]; exact turned_hi bs hl c hc i (by omega) hi w
end Go.Proofs.YtoeonmdcoiemmaaK
