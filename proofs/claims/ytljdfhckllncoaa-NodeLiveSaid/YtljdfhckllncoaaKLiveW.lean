import Derived.Test.YtljdfhckllncoaaKLiveS
import Derived.Test.YtljdfhckllncoaaKOpen2
namespace Go.Proofs.YtljdfhckllncoaaK
open Go.RowKit
set_option linter.unusedSimpArgs false
set_option linter.unusedVariables false
set_option maxRecDepth 100000 in
theorem setCell_onK (ls : List UInt8) (hl : ls.length = 32) (n : Nat) (h : (n : Int) < 256) :
    (ls.map encB).set (n / 8) (.int .u8 (bits .or .u8 ((byteAt ls n : Nat) : Int) ((2 : Int) ^ (n % 8) % 256))) = (onK ls n).map encB := by
  have hx : byteAt ls n < 256 := (ls.getD _ 0).toNat_lt
  have hr : n % 8 < 8 := Nat.mod_lt _ (by decide)
  have h1 := (on_all ⟨byteAt ls n, hx⟩ ⟨n % 8, hr⟩).1
  have h2 := (on_all ⟨byteAt ls n, hx⟩ ⟨n % 8, hr⟩).2.1
  simp only at h1 h2
  rw [h1]
  have hk : keyOK n = true := (keyOK_iff n).2 ⟨by omega, h⟩
  unfold onK
  rw [hk, if_pos rfl, Int.toNat_natCast, List.map_set]
  congr 1
  unfold encB
  rw [UInt8.toNat_ofNat_of_lt' h2]
set_option maxRecDepth 100000 in
set_option maxHeartbeats 4000000 in
theorem with_any (ls : List UInt8) (hl : ls.length = 32) (A : Option Addr) (n c : Nat) (xs : List Int) (w : World) (hX : Is .i64 w (.slice A n c) xs) :
    Calls Try.prog 24 #[.agg (ls.map encB).toArray, .slice A n c] w fun e w' => e = .returned (.agg ((xs.foldl onK ls).map encB).toArray) ∧ Below w.heap.size w w' := by
  have HN := Lib.hid hX.len
  have hmx := hX.max
  have hi0 : (Try.prog.info? 47).map (·.size) = some 32 := by kernel_rfl
  obtain ⟨Z, hZ⟩ : ∃ Z : Array Value, Z = Array.replicate 32 (.int .u8 0) := ⟨_, rfl⟩
  have hZs : Z.size = 32 := by rw [hZ]; simp
  have hz : ∀ w, (zeroValue 47).run Try.prog w = .ok (.agg Z) w := by rw [hZ]; exact (zero_of_info (P := Try.prog) (t := 47) (v := .agg (Array.replicate 32 (.int .u8 0))) (n := 32) (by kernel_rfl)).1
  have HZS := Lib.hid hZs
  have HI0 := Lib.hid hi0
  have HLS := Lib.hid hl
  obtain ⟨L0, hL0⟩ : ∃ L, L = ls.map encB := ⟨_, rfl⟩
  rw [← hL0]
  have HL0 := Lib.hid hL0
  clear hZ hZs hi0 hl hL0
  go_enter Try.func24, Try.ntmps24
  go_wp2_with fail
  obtain ⟨W, hW⟩ : ∃ W, W = (w.alloc (.cells L0.toArray 47)).alloc (.cells Z 47) := ⟨_, rfl⟩
  obtain ⟨xb, hxb⟩ : ∃ xb, xb = w.heap.size := ⟨_, rfl⟩
  obtain ⟨rb, hrb⟩ : ∃ rb, rb = xb + 1 := ⟨_, rfl⟩
  have hA0 : Arr W xb L0 := by rw [hW, hxb]; exact (arr_newL w L0 _).alloc _
  have hR0 : Arr W rb Z.toList := by rw [hW, hrb, hxb]; have := arr_new (w.alloc (.cells L0.toArray 47)) Z 47; rwa [World.size_alloc] at this
  have hB0 : Below w.heap.size w W := by rw [hW]; exact ((Below.refl _ _).alloc (Nat.le_refl _) _).alloc (by simp) _
  have hge : w.heap.size ≤ xb := by omega
  have hge2 : w.heap.size ≤ rb := by omega
  have HNE := Lib.hid (show xb ≠ rb by omega)
  rw [← hW]
  simp only [← hxb]
  simp only [← hrb]
  clear hW hxb hrb
  rw [HL0.out] at hA0
  go_loopw [6, 9] (fun v6 i wr => ∃ (j : Nat) (ds : List UInt8), j ≤ n ∧ i = .int .i64 j ∧ ds.length = 32 ∧ ds = (xs.take j).foldl onK ls ∧ Arr wr xb (ds.map encB) ∧ Arr wr rb Z.toList ∧ Below w.heap.size w wr) (fun _ i _ => n - (intOf i).toNat)
  case atStart => exact ⟨0, ls, Nat.zero_le _, rfl, HLS.out, rfl, hA0, hR0, hB0⟩
  case round =>
    obtain ⟨j, ds, hj, rfl, hds, hde, hA, hR, hb⟩ := hrel
    clear hA0 hR0 hB0
    have HDE := Lib.hid hde
    by_cases hlt : j < n
    · have hjx : j < xs.length := by rw [← HN.out]; exact hlt
      obtain ⟨a, rfl, hcx⟩ := (hX.below hb).at.map j hjx
      obtain ⟨x, hx⟩ : ∃ x, x = xs[j] := ⟨_, rfl⟩
      rw [← hx] at hcx
      have hnext : (xs.take (j + 1)).foldl onK ls = onK ds x := by
        rw [List.take_succ_eq_append_getElem hjx, List.foldl_append, ← hde, hx]; rfl
      have HNX := Lib.hid hnext
      clear hde hnext hx
      have HV := Lib.hid (fun W => valid_any x W)
      by_cases hk : 0 ≤ x ∧ x < 256
      · obtain ⟨k0, k1⟩ := hk
        rw [(keyOK_iff x).2 ⟨k0, k1⟩] at HV
        obtain ⟨m, rfl⟩ := Int.eq_ofNat_of_zero_le k0
        have hT := setCell_onK ds hds m k1
        have hqc := encB_cell ds (m / 8) (by omega)
        have hxl : byteAt ds m < 256 := (ds.getD _ 0).toNat_lt
        have hx0 : (ds.getD (m / 8) 0).toNat = byteAt ds m := rfl
        rw [hx0] at hqc
        obtain ⟨x, hx2⟩ : ∃ x, x = byteAt ds m := ⟨_, rfl⟩
        rw [← hx2] at hqc hxl hT
        obtain ⟨q, hq⟩ : ∃ q, q = m / 8 := ⟨_, rfl⟩
        obtain ⟨r, hr⟩ : ∃ r, r = m % 8 := ⟨_, rfl⟩
        rw [← hr, ← hq] at hT
        rw [← hq] at hqc
        have x5 : (m : Int) / 8 = (q : Int) := by omega
        have x6 : (m : Int) % 8 = (r : Int) := by omega
        have hq9 : (q : Int) < 32 := by omega
        have hq0 : (0 : Int) ≤ q := by omega
        have hr9 : (r : Int) < 8 := by omega
        have hr0 : (0 : Int) ≤ r := by omega
        have hx00 : (0 : Int) ≤ x := by omega
        have hx9 : (x : Int) < 256 := by omega
        have hc1 := hA.at_ q _ hqc
        have hf1 := (hA.2.1 q (List.getElem?_eq_some_iff.1 hqc).1).2
        rw [Nat.zero_add] at hf1
        have HT := Lib.hid hT
        have HDS := Lib.hid hds
        clear hT hx2 hq hr hx0 hds
        go_wp2_with (go_at_call 49; refine (HV.out _).mono ?_; rintro e w1 ⟨rfl, rfl⟩)
        go_region
        have hA2 := (hA.set_cell q (.int .u8 (bits .or .u8 (x : Int) ((2 : Int) ^ r % 256)))).drew
        have hR2 := (hR.set_one HNE.out q (.int .u8 (bits .or .u8 (x : Int) ((2 : Int) ^ r % 256)))).drew
        have hB2 := (hb.setCell (p := ⟨xb, q, none⟩) hge (.int .u8 (bits .or .u8 (x : Int) ((2 : Int) ^ r % 256)))).drew
        rw [HT.out] at hA2
        go_wp2_with fail
        go_roundw
        case rel =>
          refine ⟨j + 1, onK ds m, by omega, by go_num, by rw [onK_len]; exact HDS.out, HNX.out.symm, hA2, hR2, hB2⟩
        case measure => simp [intOf]; omega
      · rw [keyNo hk] at HV
        have HK := Lib.hid (keyNo hk)
        have HDS := Lib.hid hds
        clear hk hds
        go_wp2_with (go_at_call 49; refine (HV.out _).mono ?_; rintro e w1 ⟨rfl, rfl⟩)
        go_roundw
        case rel => exact ⟨j + 1, ds, by omega, by go_num, HDS.out, by rw [HNX.out]; unfold onK; rw [HK.out]; rfl, hA, hR, hb⟩
        case measure => simp [intOf]; omega
    · obtain rfl : j = n := by omega
      have hde2 : ds = xs.foldl onK ls := by rw [hde, List.take_of_length_le (by rw [← HN.out]; exact Nat.le_refl _)]
      have HD2 := Lib.hid hde2
      obtain ⟨L, hL⟩ : ∃ L, L = ds.map encB := ⟨_, rfl⟩
      rw [← hL] at hA
      have HLE := Lib.hid hL
      have hLl : L.length = 32 := by rw [hL]; simp [hds]
      have h1L : ∀ v ∈ L, v.oneCell' = true := by rw [hL]; exact encB_all _
      have HI := Lib.hid (show (Try.prog.info? 47).map (·.size) = some L.length by rw [hLl]; exact HI0.out)
      have HIA := Lib.hid (show (Try.prog.info? 47).map (·.size) = some L.toArray.size by rw [List.size_toArray, hLl]; exact HI0.out)
      have H1A : Hid (L.toArray.all (·.oneCell') = true) := Lib.hid (all_oneCell_toArray h1L)
      have HZ : Hid (L.toArray.size = Z.toList.length) := Lib.hid (by simp [hLl, HZS.out])
      clear hL hLl h1L hds hde hde2
      go_wp2_with (first
        | (refine wpList_load_mid rfl 47 _ rfl xb 0 rfl L _ hA.1 Try.underlying47 rfl HI.out ?_)
        | (refine wp_load_mid 47 _ rfl xb 0 rfl L _ hA.1 Try.underlying47 rfl HI.out ?_)
        | (refine wpList_store_mid rfl 47 _ _ rfl rb 0 L.toArray rfl rfl (hR.thereA HZ.out) HIA.out H1A.out ?_))
      refine bodyPost_row rfl rfl rfl (hR.setA_same HZ.out) Try.underlying47 rfl HIA.out ⟨by rw [← HD2.out, ← HLE.out], below_setCells hge2 _ _ hb⟩
set_option maxRecDepth 100000 in
theorem setCell_offK (ls : List UInt8) (hl : ls.length = 32) (n : Nat) (h : (n : Int) < 256) :
    (ls.map encB).set (n / 8) (.int .u8 (bits .andNot .u8 ((byteAt ls n : Nat) : Int) ((2 : Int) ^ (n % 8) % 256))) = (offK ls n).map encB := by
  have hx : byteAt ls n < 256 := (ls.getD _ 0).toNat_lt
  have hr : n % 8 < 8 := Nat.mod_lt _ (by decide)
  have h1 := (off_all ⟨byteAt ls n, hx⟩ ⟨n % 8, hr⟩).1
  have h2 := (off_all ⟨byteAt ls n, hx⟩ ⟨n % 8, hr⟩).2
  simp only at h1 h2
  rw [h1]
  have hk : keyOK n = true := (keyOK_iff n).2 ⟨by omega, h⟩
  unfold offK
  rw [hk, if_pos rfl, Int.toNat_natCast, List.map_set]
  congr 1
  unfold encB
  rw [UInt8.toNat_ofNat_of_lt' h2]
set_option maxRecDepth 100000 in
set_option maxHeartbeats 4000000 in
theorem without_any (ls : List UInt8) (hl : ls.length = 32) (A : Option Addr) (n c : Nat) (xs : List Int) (w : World) (hX : Is .i64 w (.slice A n c) xs) :
    Calls Try.prog 25 #[.agg (ls.map encB).toArray, .slice A n c] w fun e w' => e = .returned (.agg ((xs.foldl offK ls).map encB).toArray) ∧ Below w.heap.size w w' := by
  have HN := Lib.hid hX.len
  have hmx := hX.max
  have hi0 : (Try.prog.info? 47).map (·.size) = some 32 := by kernel_rfl
  obtain ⟨Z, hZ⟩ : ∃ Z : Array Value, Z = Array.replicate 32 (.int .u8 0) := ⟨_, rfl⟩
  have hZs : Z.size = 32 := by rw [hZ]; simp
  have hz : ∀ w, (zeroValue 47).run Try.prog w = .ok (.agg Z) w := by rw [hZ]; exact (zero_of_info (P := Try.prog) (t := 47) (v := .agg (Array.replicate 32 (.int .u8 0))) (n := 32) (by kernel_rfl)).1
  have HZS := Lib.hid hZs
  have HI0 := Lib.hid hi0
  have HLS := Lib.hid hl
  obtain ⟨L0, hL0⟩ : ∃ L, L = ls.map encB := ⟨_, rfl⟩
  rw [← hL0]
  have HL0 := Lib.hid hL0
  clear hZ hZs hi0 hl hL0
  go_enter Try.func25, Try.ntmps25
  go_wp2_with fail
  obtain ⟨W, hW⟩ : ∃ W, W = (w.alloc (.cells L0.toArray 47)).alloc (.cells Z 47) := ⟨_, rfl⟩
  obtain ⟨xb, hxb⟩ : ∃ xb, xb = w.heap.size := ⟨_, rfl⟩
  obtain ⟨rb, hrb⟩ : ∃ rb, rb = xb + 1 := ⟨_, rfl⟩
  have hA0 : Arr W xb L0 := by rw [hW, hxb]; exact (arr_newL w L0 _).alloc _
  have hR0 : Arr W rb Z.toList := by rw [hW, hrb, hxb]; have := arr_new (w.alloc (.cells L0.toArray 47)) Z 47; rwa [World.size_alloc] at this
  have hB0 : Below w.heap.size w W := by rw [hW]; exact ((Below.refl _ _).alloc (Nat.le_refl _) _).alloc (by simp) _
  have hge : w.heap.size ≤ xb := by omega
  have hge2 : w.heap.size ≤ rb := by omega
  have HNE := Lib.hid (show xb ≠ rb by omega)
  rw [← hW]
  simp only [← hxb]
  simp only [← hrb]
  clear hW hxb hrb
  rw [HL0.out] at hA0
  go_loopw [6, 9] (fun v6 i wr => ∃ (j : Nat) (ds : List UInt8), j ≤ n ∧ i = .int .i64 j ∧ ds.length = 32 ∧ ds = (xs.take j).foldl offK ls ∧ Arr wr xb (ds.map encB) ∧ Arr wr rb Z.toList ∧ Below w.heap.size w wr) (fun _ i _ => n - (intOf i).toNat)
  case atStart => exact ⟨0, ls, Nat.zero_le _, rfl, HLS.out, rfl, hA0, hR0, hB0⟩
  case round =>
    obtain ⟨j, ds, hj, rfl, hds, hde, hA, hR, hb⟩ := hrel
    clear hA0 hR0 hB0
    have HDE := Lib.hid hde
    by_cases hlt : j < n
    · have hjx : j < xs.length := by rw [← HN.out]; exact hlt
      obtain ⟨a, rfl, hcx⟩ := (hX.below hb).at.map j hjx
      obtain ⟨x, hx⟩ : ∃ x, x = xs[j] := ⟨_, rfl⟩
      rw [← hx] at hcx
      have hnext : (xs.take (j + 1)).foldl offK ls = offK ds x := by
        rw [List.take_succ_eq_append_getElem hjx, List.foldl_append, ← hde, hx]; rfl
      have HNX := Lib.hid hnext
      clear hde hnext hx
      have HV := Lib.hid (fun W => valid_any x W)
      by_cases hk : 0 ≤ x ∧ x < 256
      · obtain ⟨k0, k1⟩ := hk
        rw [(keyOK_iff x).2 ⟨k0, k1⟩] at HV
        obtain ⟨m, rfl⟩ := Int.eq_ofNat_of_zero_le k0
        have hT := setCell_offK ds hds m k1
        have hqc := encB_cell ds (m / 8) (by omega)
        have hxl : byteAt ds m < 256 := (ds.getD _ 0).toNat_lt
        have hx0 : (ds.getD (m / 8) 0).toNat = byteAt ds m := rfl
        rw [hx0] at hqc
        obtain ⟨x, hx2⟩ : ∃ x, x = byteAt ds m := ⟨_, rfl⟩
        rw [← hx2] at hqc hxl hT
        obtain ⟨q, hq⟩ : ∃ q, q = m / 8 := ⟨_, rfl⟩
        obtain ⟨r, hr⟩ : ∃ r, r = m % 8 := ⟨_, rfl⟩
        rw [← hr, ← hq] at hT
        rw [← hq] at hqc
        have x5 : (m : Int) / 8 = (q : Int) := by omega
        have x6 : (m : Int) % 8 = (r : Int) := by omega
        have hq9 : (q : Int) < 32 := by omega
        have hq0 : (0 : Int) ≤ q := by omega
        have hr9 : (r : Int) < 8 := by omega
        have hr0 : (0 : Int) ≤ r := by omega
        have hx00 : (0 : Int) ≤ x := by omega
        have hx9 : (x : Int) < 256 := by omega
        have hc1 := hA.at_ q _ hqc
        have hf1 := (hA.2.1 q (List.getElem?_eq_some_iff.1 hqc).1).2
        rw [Nat.zero_add] at hf1
        have HT := Lib.hid hT
        have HDS := Lib.hid hds
        clear hT hx2 hq hr hx0 hds
        go_wp2_with (go_at_call 49; refine (HV.out _).mono ?_; rintro e w1 ⟨rfl, rfl⟩)
        go_region
        have hA2 := (hA.set_cell q (.int .u8 (bits .andNot .u8 (x : Int) ((2 : Int) ^ r % 256)))).drew
        have hR2 := (hR.set_one HNE.out q (.int .u8 (bits .andNot .u8 (x : Int) ((2 : Int) ^ r % 256)))).drew
        have hB2 := (hb.setCell (p := ⟨xb, q, none⟩) hge (.int .u8 (bits .andNot .u8 (x : Int) ((2 : Int) ^ r % 256)))).drew
        rw [HT.out] at hA2
        go_wp2_with fail
        go_roundw
        case rel =>
          refine ⟨j + 1, offK ds m, by omega, by go_num, by rw [offK_len]; exact HDS.out, HNX.out.symm, hA2, hR2, hB2⟩
        case measure => simp [intOf]; omega
      · rw [keyNo hk] at HV
        have HK := Lib.hid (keyNo hk)
        have HDS := Lib.hid hds
        clear hk hds
        go_wp2_with (go_at_call 49; refine (HV.out _).mono ?_; rintro e w1 ⟨rfl, rfl⟩)
        go_roundw
        case rel => exact ⟨j + 1, ds, by omega, by go_num, HDS.out, by rw [HNX.out]; unfold offK; rw [HK.out]; rfl, hA, hR, hb⟩
        case measure => simp [intOf]; omega
    · obtain rfl : j = n := by omega
      have hde2 : ds = xs.foldl offK ls := by rw [hde, List.take_of_length_le (by rw [← HN.out]; exact Nat.le_refl _)]
      have HD2 := Lib.hid hde2
      obtain ⟨L, hL⟩ : ∃ L, L = ds.map encB := ⟨_, rfl⟩
      rw [← hL] at hA
      have HLE := Lib.hid hL
      have hLl : L.length = 32 := by rw [hL]; simp [hds]
      have h1L : ∀ v ∈ L, v.oneCell' = true := by rw [hL]; exact encB_all _
      have HI := Lib.hid (show (Try.prog.info? 47).map (·.size) = some L.length by rw [hLl]; exact HI0.out)
      have HIA := Lib.hid (show (Try.prog.info? 47).map (·.size) = some L.toArray.size by rw [List.size_toArray, hLl]; exact HI0.out)
      have H1A : Hid (L.toArray.all (·.oneCell') = true) := Lib.hid (all_oneCell_toArray h1L)
      have HZ : Hid (L.toArray.size = Z.toList.length) := Lib.hid (by simp [hLl, HZS.out])
      clear hL hLl h1L hds hde hde2
      go_wp2_with (first
        | (refine wpList_load_mid rfl 47 _ rfl xb 0 rfl L _ hA.1 Try.underlying47 rfl HI.out ?_)
        | (refine wp_load_mid 47 _ rfl xb 0 rfl L _ hA.1 Try.underlying47 rfl HI.out ?_)
        | (refine wpList_store_mid rfl 47 _ _ rfl rb 0 L.toArray rfl rfl (hR.thereA HZ.out) HIA.out H1A.out ?_))
      refine bodyPost_row rfl rfl rfl (hR.setA_same HZ.out) Try.underlying47 rfl HIA.out ⟨by rw [← HD2.out, ← HLE.out], below_setCells hge2 _ _ hb⟩
end Go.Proofs.YtljdfhckllncoaaK
